/- The walks and the plain laws that a law of spaces needs, part 4 of 5. -/
import Derived.Test.YtaiondckookpiaaDoorQFC
import Derived.Shelf.Strings.Split
import Derived.Tactics
import Derived.Tactics2
import Derived.RangeFuncIn
set_option linter.unusedVariables false
set_option linter.unusedSimpArgs false
namespace Go.Proofs.YtaiondckookpiaaDoor
open Go Go.Vx
set_option maxRecDepth 100000 in
set_option maxHeartbeats 16000000 in
theorem text2_at(n:Nat)(l:List TR){rl room:List (List D)}(hok:SpOk n l)(h:rl=l.map trow):FSpec Tryd.prog T 15 [.agg [.i .i64 (n:Int),.lst 81 rl room]] (fun d _=>d = .s (textS (l.map TR.t))):=by
 subst h
 have hll:(l.map trow).length=l.length:=by simp
 have hln:=hok.len
 have hn:=hok.n256
 refine FSpec.of_ok tok Tryd.func15 rfl Tryd.call15 (by simp) ?_
 (try (conv=>whnf));repeat' (first|refine Ok.seq ?_|((first|refine Ok.region tok ?_|refine Ok.cond ?_);conv=>whnf)|refine Ok.block ?_|((first|refine Ok.skip ?_|refine Ok.ret ?_);conv=>whnf)|(refine bI ?_ ?_<;>intro<;>(conv=>whnf)<;>(try (exfalso;omega)))|fail)
 . rename_i h
   refine Or.inl ?_;(conv=>whnf)
   have:l=[]:=List.eq_nil_of_length_eq_zero (by omega)
   subst this
   unfold textS
   rw[if_pos (by rfl)]
   rfl
 . rename_i h
   have hne:l.map TR.t ≠ []:=fun e=>h (by have:=congrArg List.length e;simp at this;simp[this])
   have hl0:l ≠ []:=fun e=>hne (by rw[e];rfl)
   have hpos:=hok.pos hl0
   refine Ok.ghostB 1 1 5 rfl rfl ?_
   (conv=>whnf)
   refine Ok.loopU [1,3,12,13] [14] 1 2 (fun (i:Nat)=>[.i .i64 (i:Nat)]) (fun (i:Nat) (_:List (List D))=>[[.i .i64 (n:Int),.lst 81 (l.map trow) room],[bcl i,.own 0 (sepT ((l.map TR.t).take i)).length]]) (fun (i:Nat) (_:Vx.Rows)=>[some (5,(sepT ((l.map TR.t).take i)).map bcell)]) (fun (i:Nat)=>i<=l.length) (fun (i:Nat)=>l.length - i) (0) (Nat.zero_le _) ?_;(conv=>whnf);refine⟨by ((conv=>whnf);first|rfl|(simp[envCat,List.take_of_length_le,srow,drow,trow,bcell,sepT_nil,tTail_nil];done)|(simp[envCat,List.take_of_length_le,srow,drow,trow,bcell,sepT_nil,tTail_nil];rw[IntKind.wrap_i64];omega)),?_⟩
   rintro i hi
   have hsl:=hok.sep i
   have hsm:((sepT ((l.map TR.t).take i)).map bcell).length=(sepT ((l.map TR.t).take i)).length:=List.length_map _
   by_cases hil:i<l.length
   . obtain⟨x,hx⟩:∃ x,l[i]? = some x:=⟨_,List.getElem?_eq_getElem hil⟩
     have hxm:=List.mem_of_getElem? hx
     have hxw:=hok.wide x hxm
     have hpl:x.t.p.length<=256:=by rw[hxw.1];exact hn
     have hxl:(x.t.less.map crow).length=x.t.less.length:=by simp
     have hxn:=hok.less hxm
     have hxt:(l.map TR.t)[i]? = some x.t:=by simp[hx]
     have hstep:=sepT_step hxt
     have hpre:=hok.pre i
     have hkl:x.t.key.length=n*(x.t.less.length+1):=key_len hxw.1 hxw.2
     have hkb:n*(x.t.less.length+1)<=256*1048577:=Nat.mul_le_mul hn (by omega)
     have hkn:n<=n*(x.t.less.length+1):=Nat.le_mul_of_pos_right n (by omega)
     have hkh:x.t.p=(x.t.key.take n).drop 0:=by rw[List.drop_zero];exact (key_head hxw.1).symm
     have hka:∀ (j:Nat) (m:Str),x.t.less[j]? = some m->m=(x.t.key.take (n*(j+1)+n)).drop (n*(j+1)):=fun j m hm=>(key_at hxw.1 hxw.2 hm).symm
     by_cases hi0:i=0
     . have hp0:preT (l.map TR.t) i=[]:=by rw[hi0];rfl
       have hs0:sepT ((l.map TR.t).take i)=[]:=by rw[hi0];rfl
       have hb0:bcl i = .nilB 88:=by rw[hi0];rfl
       rw[hs0] at hsl hsm ⊢
       rw[hb0]
       rw[hp0] at hpre hstep
       (conv=>whnf)
       (try (conv=>whnf));repeat' (first|refine Ok.seq ?_|((first|refine Ok.region tok ?_|refine Ok.cond ?_);conv=>whnf)|refine Ok.block ?_|((first|refine Ok.skip ?_|refine ix _ (by assumption) ?_|refine⟨_,by assumption,?_⟩|refine⟨_,_,rfl,rfl,?_⟩);conv=>whnf)|(refine bI ?_ ?_<;>intro<;>(conv=>whnf)<;>(try (exfalso;omega)))|(refine aJ ?_;conv=>whnf)|fail)
       refine Or.inr (Or.inr (Or.inl ?_));(conv=>whnf);refine⟨_,_,Tryd.func48,rfl,Tryd.call48,?_⟩;(conv=>whnf)
       (try (conv=>whnf));repeat' (first|refine Ok.seq ?_|(refine Ok.region tok ?_;conv=>whnf)|fail)
       refine Or.inr (Or.inr (Or.inr (Or.inr ?_)))
       (conv=>whnf)
       refine effW_fresh copyAt rfl ?_
       (conv=>whnf)
       (try (conv=>whnf));repeat' (first|((refine And.intro byteT ?_);conv=>whnf)|refine Ok.seq ?_|(refine Ok.region tok ?_;conv=>whnf)|refine Ok.block ?_|((first|refine Ok.ret ?_|refine⟨_,_,rfl,rfl,?_⟩|refine aJ ?_);conv=>whnf)|fail)
       refine Ok.loopU [1,3,5,12,13,14] [6] 1 3 (fun (j:Nat)=>[.i .i64 (n*(j+1):Nat)]) (fun (j:Nat) (_:List (List D))=>[[.i .i64 (n:Int),.lst 81 (l.map trow) room],[.bp 1 0,.own 0 (([]:Str)++x.t.p++tTail (x.t.less.take j)).length],trow x]) (fun (j:Nat) (_:Vx.Rows)=>[some (5,(([]:Str)++x.t.p++tTail (x.t.less.take j)).map bcell)]) (fun (j:Nat)=>j<=x.t.less.length) (fun (j:Nat)=>x.t.less.length - j) (0) (Nat.zero_le _) ?_;(conv=>whnf);refine⟨by ((conv=>whnf);first|rfl|(simp[envCat,List.take_of_length_le,srow,drow,trow,bcell,sepT_nil,tTail_nil];done)|(simp[envCat,List.take_of_length_le,srow,drow,trow,bcell,sepT_nil,tTail_nil];rw[IntKind.wrap_i64];omega)),?_⟩
       rintro j hj
       have htl:=hok.tail hxm j
       have hFl:(([]:Str)++x.t.p++tTail (x.t.less.take j)).length<=257*1048576+1+256+257*1048576:=by rw[List.length_append,List.length_append];omega
       have hFm:((([]:Str)++x.t.p++tTail (x.t.less.take j)).map bcell).length=(([]:Str)++x.t.p++tTail (x.t.less.take j)).length:=List.length_map _
       have hjn:n*(j+1+1)=n*(j+1)+n:=Nat.mul_succ n (j+1)
       (conv=>whnf)
       by_cases hjl:j<x.t.less.length
       . obtain⟨m,hm⟩:∃ m,x.t.less[j]? = some m:=⟨_,List.getElem?_eq_getElem hjl⟩
         have hml:m.length<=256:=by rw[hxw.2 m (List.mem_of_getElem? hm)];exact hn
         have hts:=tTail_snoc hm
         have hj2:n*(j+1)+n<=n*(x.t.less.length+1):=by rw[<- hjn];exact Nat.mul_le_mul_left n (by omega)
         have hma:=hka j m hm
         generalize hF:([]:Str)++x.t.p++tTail (x.t.less.take j)=F at *
         have hF2:((F++[45]).map bcell).length=(F++[45]).length:=List.length_map _
         generalize hJ:n*(j+1)=J at *
         (try (conv=>whnf));repeat' (first|refine Ok.seq ?_|((first|refine Ok.region tok ?_|refine Ok.cond ?_);conv=>whnf)|refine Ok.block ?_|(refine Ok.skip ?_;conv=>whnf)|(refine bI ?_ ?_<;>intro<;>(conv=>whnf)<;>(try (exfalso;omega)))|fail)
         refine Or.inr (Or.inr (Or.inl ?_));(conv=>whnf);refine⟨_,_,Tryd.func47,rfl,Tryd.call47,?_⟩;(conv=>whnf)
         (try (conv=>whnf));repeat' (first|refine Ok.seq ?_|(refine Ok.region tok ?_;conv=>whnf)|fail)
         refine Or.inr (Or.inr (Or.inr (Or.inr ?_)))
         (conv=>whnf)
         refine effW_used copyAt rfl ?_
         (conv=>whnf)
         (try (conv=>whnf));repeat' (first|refine Ok.seq ?_|((first|refine Ok.region tok ?_|refine Ok.ret ?_|refine nI ?_|refine⟨_,by assumption,?_⟩|refine Alt2.l (aI ?_)|refine⟨_,.inl ⟨rfl,rfl⟩,?_⟩|refine⟨_,_,rfl,rfl,?_⟩|refine aJ ?_);conv=>whnf)|fail)
         try refine⟨J,J+n,rfl,(by show ((J:Nat):Int)+(n:Int)=((J+n:Nat):Int);omega),by omega,by omega,m,hma,?_⟩
         (try (conv=>whnf));repeat' (first|fail)
         refine Or.inr (Or.inr (Or.inl ?_));(conv=>whnf);refine⟨_,_,Tryd.func48,rfl,Tryd.call48,?_⟩;(conv=>whnf)
         (try (conv=>whnf));repeat' (first|refine Ok.seq ?_|(refine Ok.region tok ?_;conv=>whnf)|fail)
         refine Or.inr (Or.inr (Or.inr (Or.inr ?_)))
         (conv=>whnf)
         refine effW_used copyAt rfl ?_
         (conv=>whnf)
         (try (conv=>whnf));repeat' (first|((refine And.intro byteT ?_);conv=>whnf)|refine Ok.seq ?_|((first|refine Ok.region tok ?_|refine Ok.ret ?_|refine nI ?_|refine⟨_,_,rfl,rfl,?_⟩|refine aJ ?_);conv=>whnf)|fail)
         refine⟨j+1,by omega,by omega,?_⟩
         rw[hjn,hts,<- List.append_assoc,<- List.append_assoc,hF]
         (conv=>whnf)
         simp[envCat,bcell]
       . have hje:j=x.t.less.length:=by omega
         subst hje
         rw[List.take_length]
         (try (conv=>whnf));repeat' (first|refine Ok.seq ?_|((first|refine Ok.region tok ?_|refine Ok.cond ?_|refine Ok.exit ?_|refine nI ?_);conv=>whnf)|(refine bI ?_ ?_<;>intro<;>(conv=>whnf)<;>(try (exfalso;omega)))|fail)
         refine⟨i+1,by omega,by omega,?_⟩
         rw[hstep]
         unfold ttxt
         rw[<- List.append_assoc]
         (conv=>whnf)
         rfl
     . have hp0:preT (l.map TR.t) i=sepT ((l.map TR.t).take i)++[43]:=by unfold preT;rw[if_neg hi0]
       have hb0:bcl i = .bp 1 0:=by cases i with|zero=>exact absurd rfl hi0|succ k=>rfl
       rw[hb0]
       rw[hp0] at hpre hstep
       have hpre2:((sepT ((l.map TR.t).take i)++[43]).map bcell).length=(sepT ((l.map TR.t).take i)++[43]).length:=List.length_map _
       (conv=>whnf)
       (try (conv=>whnf));repeat' (first|refine Ok.seq ?_|((first|refine Ok.region tok ?_|refine Ok.cond ?_);conv=>whnf)|refine Ok.block ?_|((first|refine Ok.skip ?_|refine ix _ (by assumption) ?_);conv=>whnf)|(refine bI ?_ ?_<;>intro<;>(conv=>whnf)<;>(try (exfalso;omega)))|fail)
       refine Or.inr (Or.inr (Or.inl ?_));(conv=>whnf);refine⟨_,_,Tryd.func47,rfl,Tryd.call47,?_⟩;(conv=>whnf)
       (try (conv=>whnf));repeat' (first|refine Ok.seq ?_|(refine Ok.region tok ?_;conv=>whnf)|fail)
       refine Or.inr (Or.inr (Or.inr (Or.inr ?_)))
       (conv=>whnf)
       refine effW_used copyAt rfl ?_
       (conv=>whnf)
       (try (conv=>whnf));repeat' (first|refine Ok.seq ?_|((first|refine Ok.region tok ?_|refine Ok.ret ?_|refine⟨_,by assumption,?_⟩|refine Alt2.l (aI ?_)|refine⟨_,.inl ⟨rfl,rfl⟩,?_⟩|refine⟨_,_,rfl,rfl,?_⟩|refine aJ ?_);conv=>whnf)|fail)
       refine Or.inr (Or.inr (Or.inl ?_));(conv=>whnf);refine⟨_,_,Tryd.func48,rfl,Tryd.call48,?_⟩;(conv=>whnf)
       (try (conv=>whnf));repeat' (first|refine Ok.seq ?_|(refine Ok.region tok ?_;conv=>whnf)|fail)
       refine Or.inr (Or.inr (Or.inr (Or.inr ?_)))
       (conv=>whnf)
       refine effW_used copyAt rfl ?_
       (conv=>whnf)
       (try (conv=>whnf));repeat' (first|((refine And.intro byteT ?_);conv=>whnf)|refine Ok.seq ?_|(refine Ok.region tok ?_;conv=>whnf)|refine Ok.block ?_|((first|refine Ok.ret ?_|refine⟨_,_,rfl,rfl,?_⟩|refine aJ ?_);conv=>whnf)|fail)
       refine Ok.loopU [1,3,5,12,13,14] [6] 1 3 (fun (j:Nat)=>[.i .i64 (n*(j+1):Nat)]) (fun (j:Nat) (_:List (List D))=>[[.i .i64 (n:Int),.lst 81 (l.map trow) room],[.bp 1 0,.own 0 ((sepT ((l.map TR.t).take i)++[43])++x.t.p++tTail (x.t.less.take j)).length],trow x]) (fun (j:Nat) (_:Vx.Rows)=>[some (5,((sepT ((l.map TR.t).take i)++[43])++x.t.p++tTail (x.t.less.take j)).map bcell)]) (fun (j:Nat)=>j<=x.t.less.length) (fun (j:Nat)=>x.t.less.length - j) (0) (Nat.zero_le _) ?_;(conv=>whnf);refine⟨by ((conv=>whnf);first|rfl|(simp[envCat,List.take_of_length_le,srow,drow,trow,bcell,sepT_nil,tTail_nil];done)|(simp[envCat,List.take_of_length_le,srow,drow,trow,bcell,sepT_nil,tTail_nil];rw[IntKind.wrap_i64];omega)),?_⟩
       rintro j hj
       have htl:=hok.tail hxm j
       have hFl:((sepT ((l.map TR.t).take i)++[43])++x.t.p++tTail (x.t.less.take j)).length<=257*1048576+1+256+257*1048576:=by rw[List.length_append,List.length_append];omega
       have hFm:(((sepT ((l.map TR.t).take i)++[43])++x.t.p++tTail (x.t.less.take j)).map bcell).length=((sepT ((l.map TR.t).take i)++[43])++x.t.p++tTail (x.t.less.take j)).length:=List.length_map _
       have hjn:n*(j+1+1)=n*(j+1)+n:=Nat.mul_succ n (j+1)
       (conv=>whnf)
       by_cases hjl:j<x.t.less.length
       . obtain⟨m,hm⟩:∃ m,x.t.less[j]? = some m:=⟨_,List.getElem?_eq_getElem hjl⟩
         have hml:m.length<=256:=by rw[hxw.2 m (List.mem_of_getElem? hm)];exact hn
         have hts:=tTail_snoc hm
         have hj2:n*(j+1)+n<=n*(x.t.less.length+1):=by rw[<- hjn];exact Nat.mul_le_mul_left n (by omega)
         have hma:=hka j m hm
         generalize hF:(sepT ((l.map TR.t).take i)++[43])++x.t.p++tTail (x.t.less.take j)=F at *
         have hF2:((F++[45]).map bcell).length=(F++[45]).length:=List.length_map _
         generalize hJ:n*(j+1)=J at *
         (try (conv=>whnf));repeat' (first|refine Ok.seq ?_|((first|refine Ok.region tok ?_|refine Ok.cond ?_);conv=>whnf)|refine Ok.block ?_|(refine Ok.skip ?_;conv=>whnf)|(refine bI ?_ ?_<;>intro<;>(conv=>whnf)<;>(try (exfalso;omega)))|fail)
         refine Or.inr (Or.inr (Or.inl ?_));(conv=>whnf);refine⟨_,_,Tryd.func47,rfl,Tryd.call47,?_⟩;(conv=>whnf)
         (try (conv=>whnf));repeat' (first|refine Ok.seq ?_|(refine Ok.region tok ?_;conv=>whnf)|fail)
         refine Or.inr (Or.inr (Or.inr (Or.inr ?_)))
         (conv=>whnf)
         refine effW_used copyAt rfl ?_
         (conv=>whnf)
         (try (conv=>whnf));repeat' (first|refine Ok.seq ?_|((first|refine Ok.region tok ?_|refine Ok.ret ?_|refine nI ?_|refine⟨_,by assumption,?_⟩|refine Alt2.l (aI ?_)|refine⟨_,.inl ⟨rfl,rfl⟩,?_⟩|refine⟨_,_,rfl,rfl,?_⟩|refine aJ ?_);conv=>whnf)|fail)
         try refine⟨J,J+n,rfl,(by show ((J:Nat):Int)+(n:Int)=((J+n:Nat):Int);omega),by omega,by omega,m,hma,?_⟩
         (try (conv=>whnf));repeat' (first|fail)
         refine Or.inr (Or.inr (Or.inl ?_));(conv=>whnf);refine⟨_,_,Tryd.func48,rfl,Tryd.call48,?_⟩;(conv=>whnf)
         (try (conv=>whnf));repeat' (first|refine Ok.seq ?_|(refine Ok.region tok ?_;conv=>whnf)|fail)
         refine Or.inr (Or.inr (Or.inr (Or.inr ?_)))
         (conv=>whnf)
         refine effW_used copyAt rfl ?_
         (conv=>whnf)
         (try (conv=>whnf));repeat' (first|((refine And.intro byteT ?_);conv=>whnf)|refine Ok.seq ?_|((first|refine Ok.region tok ?_|refine Ok.ret ?_|refine nI ?_|refine⟨_,_,rfl,rfl,?_⟩|refine aJ ?_);conv=>whnf)|fail)
         refine⟨j+1,by omega,by omega,?_⟩
         rw[hjn,hts,<- List.append_assoc,<- List.append_assoc,hF]
         (conv=>whnf)
         simp[envCat,bcell]
       . have hje:j=x.t.less.length:=by omega
         subst hje
         rw[List.take_length]
         (try (conv=>whnf));repeat' (first|refine Ok.seq ?_|((first|refine Ok.region tok ?_|refine Ok.cond ?_|refine Ok.exit ?_|refine nI ?_);conv=>whnf)|(refine bI ?_ ?_<;>intro<;>(conv=>whnf)<;>(try (exfalso;omega)))|fail)
         refine⟨i+1,by omega,by omega,?_⟩
         rw[hstep]
         unfold ttxt
         rw[<- List.append_assoc]
         (conv=>whnf)
         rfl
   . have hie:i=l.length:=by omega
     subst hie
     rw[List.take_of_length_le (by simp)] at hsl hsm ⊢
     have hbl:bcl l.length = .bp 1 0:=by
      have:=List.length_pos_iff.2 hl0
      cases hh:l.length with
      | zero=>omega
      | succ k=>rfl
     rw[hbl]
     (conv=>whnf)
     have htne:sepT (l.map TR.t) ≠ []:=by
      obtain⟨x,hx⟩:∃ x,l[l.length - 1]? = some x:=⟨_,List.getElem?_eq_getElem (by have:=List.length_pos_iff.2 hl0;omega)⟩
      have hxt:(l.map TR.t)[l.length - 1]? = some x.t:=by simp[hx]
      have h1:=sepT_step hxt
      rw[show l.length - 1+1=l.length by have:=List.length_pos_iff.2 hl0;omega,List.take_of_length_le (by simp)] at h1
      rw[h1]
      intro e
      have h2:=(List.append_eq_nil_iff.1 (List.append_eq_nil_iff.1 e).2).1
      have h3:=(hok.wide x (List.mem_of_getElem? hx)).1
      rw[h2] at h3
      simp at h3
      omega
     (try (conv=>whnf));repeat' (first|refine Ok.seq ?_|((first|refine Ok.region tok ?_|refine Ok.cond ?_|refine Ok.exit ?_);conv=>whnf)|(refine bI ?_ ?_<;>intro<;>(conv=>whnf)<;>(try (exfalso;omega)))|fail)
     refine Or.inr (Or.inr (Or.inr (Or.inr ?_)))
     (conv=>whnf)
     refine effW_of_effK (effK_string strAt rfl rfl rfl (by rw[hsm];exact Nat.le_refl _) (take_all bcell _) htne ?_)
     (conv=>whnf)
     (try (conv=>whnf));repeat' (first|(refine Ok.ret ?_;conv=>whnf)|fail)
     refine Or.inl ?_;(conv=>whnf)
     unfold textS
     rw[if_neg hne]
     rfl
end Go.Proofs.YtaiondckookpiaaDoor
namespace Go.Vx
open Go.RowKit Go.Shelf Go.Proofs
theorem split_one{P:Program}{ρ:Ren}(L:Lays.n146 P ρ)(hi9:(P.info? (ρ.t 9)).map (fun i=>(i.zero,i.size,i.bytes))=some (some (.string ByteArray.empty),1,16))(s:ByteArray)(c:UInt8)(w:World)(hs:s.size<4294967281) :
    Calls P (ρ.f 146) #[.string s,.string ⟨#[c]⟩] w fun e w'=>
     e = .returned (.slice (some ⟨w.heap.size,0,none⟩) (Lib.splitB ⟨#[c]⟩ 0 (Lib.countB s ⟨#[c]⟩) s).length (Lib.splitB ⟨#[c]⟩ 0 (Lib.countB s ⟨#[c]⟩) s).length)/\w'=w.alloc (.cells ((Lib.splitB ⟨#[c]⟩ 0 (Lib.countB s ⟨#[c]⟩) s).map Value.string).toArray (ρ.t 9)):=by
 have h1:1<=(ByteArray.mk #[c]).size:=Nat.le_refl 1
 have hle:=Lib.countB_le ⟨#[c]⟩ h1 s.size s (Nat.le_refl _)
 have hlen:=Lib.splitB_all ⟨#[c]⟩ h1 0 _ s rfl
 have q:Calls P (ρ.f 221) #[.string s,.string ⟨#[c]⟩,.int .i64 (0:Nat),.int .i64 (-1)] w _:=Any.strings_genSplit_core { L with } hi9 s ⟨#[c]⟩ 0 (-1) (Lib.countB s ⟨#[c]⟩+1) w hs h1 (Nat.zero_le _)
  (fun x cs hx=>(Any.strings_Index_one { L with } x c _).mono fun e w' ⟨he,hw⟩=>⟨he.trans (congrArg (fun i=>Ending.returned (Value.int .i64 i)) (Lib.index_one _ _).symm),hw⟩)
  ((Any.strings_Count_one { L with } s c w).mono fun e w' ⟨he,hw⟩=>⟨by rw[he];show _=Ending.returned (Value.int .i64 ((Lib.count s.data.toList [c]:Nat):Int));rw[Lib.count_one];rfl,hw⟩)
  (by decide) (by decide) (by rw[if_pos (by decide)];omega)
 rw[Nat.add_sub_cancel] at q
 have e2:Lib.cellsOf (Lib.splitB ⟨#[c]⟩ 0 (Lib.countB s ⟨#[c]⟩) s) (Lib.countB s ⟨#[c]⟩+1)=((Lib.splitB ⟨#[c]⟩ 0 (Lib.countB s ⟨#[c]⟩) s).map Value.string).toArray:=by rw[<- hlen];exact Lib.cellsOf_full _
 rw[e2] at q
 have t3:=L.t3;have t9:=L.t9;have t31:=L.t31
 have a3:=L.a3;have a9:=L.a9;have a31:=L.a31
 have z3:=L.z3;have v3:=L.v3;have z9:=L.z9;have v9:=L.v9;have z31:=L.z31;have v31:=L.v31
 have e221:∀ args w,(callFunc (ρ.f 221) args).run P w = .ok (.enter (ρ.f 221) args) w:=enters_of L.f221 (by kernel_rfl) rfl
 go_enter L.f146,Body.n146_ntmps ρ
 go_wp2_with (go_at_fn (ρ.f 221);refine q.mono ?_;rintro e w' ⟨rfl,hw⟩;rw[hw])
 go_ret
 rw[hlen]
 exact⟨rfl,rfl⟩
def cutL(c:UInt8):List UInt8->List (List UInt8)
 | []=>[[]]
 | b :: r=>if b=c then [] :: cutL c r else match cutL c r with
  | h :: t=>(b :: h) :: t
  | []=>[[b]]
theorem cutL_ne(c:UInt8):∀ l,cutL c l ≠ []
 | []=>by simp[cutL]
 | b :: r=>by
  unfold cutL
  split
  . simp
  . split<;>simp
theorem cutL_none{c:UInt8}:∀ {l:List UInt8},c ∉ l->cutL c l=[l]
 | [],_=>rfl
 | b :: r,h=>by
  rw[List.mem_cons,not_or] at h
  rw[cutL,if_neg (Ne.symm h.1),cutL_none h.2]
theorem cutL_at{c:UInt8}:∀ {a:List UInt8} {b:List UInt8},c ∉ a->cutL c (a++c :: b)=a :: cutL c b
 | [],b,_=>by rw[List.nil_append,cutL,if_pos rfl]
 | x :: a,b,h=>by
  rw[List.mem_cons,not_or] at h
  rw[List.cons_append,cutL,if_neg (Ne.symm h.1),cutL_at h.2]
theorem indexByte_cases(c:UInt8):∀ l:List UInt8,(c ∉ l/\Lib.indexByte l c=-1)\/∃ a b,l=a++c :: b/\c ∉ a/\Lib.indexByte l c=a.length
 | []=>.inl ⟨by simp,rfl⟩
 | x :: l=>by
  by_cases h:x=c
  . subst h
    exact .inr ⟨[],l,rfl,by simp,by simp[Lib.indexByte]⟩
  . have e:(x == c)=false:=beq_eq_false_iff_ne.2 h
    rcases indexByte_cases c l with⟨h1,h2⟩|⟨a,b,h0,h1,h2⟩
    . refine .inl ⟨fun hm=>?_,by simp[Lib.indexByte,e,h2]⟩
      rcases List.mem_cons.1 hm with q|q
      . exact h q.symm
      . exact h1 q
    . refine .inr ⟨x :: a,b,by rw[h0,List.cons_append],fun hm=>?_,?_⟩
      . rcases List.mem_cons.1 hm with q|q
        . exact h q.symm
        . exact h1 q
      . have h3:((a.length:Int) == -1)=false:=beq_eq_false_iff_ne.2 (by omega)
        simp[Lib.indexByte,e,h2,h3]
theorem splitK_cut(c:UInt8):∀ (k:Nat) (l:List UInt8),l.count c=k->Lib.splitK [c] 0 k l=cutL c l
 | 0,l,h=>by
  rw[cutL_none (List.count_eq_zero.1 h)]
  rfl
 | k+1,l,h=>by
  rcases indexByte_cases c l with⟨h1,h2⟩|⟨a,b,rfl,h1,h2⟩
  . rw[List.count_eq_zero.2 h1] at h;cases h
  . rw[Lib.splitK,Lib.index_one,h2]
    have e1:((a.length:Int) == -1)=false:=beq_eq_false_iff_ne.2 (by omega)
    rw[if_neg (by rw[e1];decide)]
    rw[List.count_append,List.count_eq_zero.2 h1,List.count_cons_self] at h
    rw[cutL_at h1,Int.toNat_natCast,Nat.add_zero,List.take_left' rfl,List.length_singleton,splitK_cut c k _ (by
     rw[<- List.drop_drop,List.drop_left' rfl]
     simp
     omega),<- List.drop_drop,List.drop_left' rfl]
    rfl
theorem splitB_cut(s:ByteArray)(c:UInt8):(Lib.splitB ⟨#[c]⟩ 0 (Lib.countB s ⟨#[c]⟩) s).map (·.data.toList)=cutL c s.data.toList:=by
 rw[Lib.splitB_data]
 exact splitK_cut c _ _ (Lib.count_one c _).symm
theorem RI.s_{sz:TypeId->Nat}{V:Vw}{v:Value}{l:List UInt8}(h:RI sz V v (.s l)):v = .string (bstr l):=by cases h;rfl
theorem FSpec.of_texts{P:Program}{T:Tab}{f:FuncId}{ds:List D}{e:TypeId}{pieces:List ByteArray}(hcall:∀ args w,(callFunc f args).run P w = .ok (.enter f args) w)(hsz:szOf T e=1)(hm:pieces.length<=maxLen)
    (h:∀ (V:Vw) (w:World) (args:Array Value),args.size=ds.length->(∀ (j:Nat) v d,args[j]? = some v->ds[j]? = some d->RI (szOf T) V v d)->Calls P f args w fun q w'=>
     q = .returned (.slice (some ⟨w.heap.size,0,none⟩) pieces.length pieces.length)/\w'=w.alloc (.cells (pieces.map Value.string).toArray e)) :
    FSpec P T f ds fun d rows=>d = .own 0 pieces.length/\rows=[some (e,pieces.map fun b=>[.s b.data.toList])]:=by
 refine⟨hcall,fun V w args hV hl hR=>(h V w args hl hR).mono ?_⟩
 rintro q w' ⟨rfl,rfl⟩
 refine⟨V,[.slice (some ⟨w.heap.size,0,none⟩) pieces.length pieces.length],_,_,_,rfl,⟨rfl,rfl⟩,.own 0 _ _ _ _ rfl (Nat.le_refl _),(Below.refl _ _).alloc (Nat.le_refl _) _,fun _ _ h=>h,hV.ext (Ext.alloc _ _),fun _ _=>rfl,rfl,?_,?_,?_⟩
 . intro r v e' xs h1 h2
   cases r with
   | succ r=>simp at h1
   | zero=>
    cases h1
    cases h2
    refine⟨pieces.map Value.string,.of ⟨by rw[hsz,List.length_map,List.length_map,Nat.mul_one],.inr ⟨w.heap.size,pieces.length,_,?_,Nat.le_refl _,heap_alloc_new w _,by rw[List.length_map];exact Nat.le_refl _,hm,by rw[hsz];simp,?_⟩⟩,?_,?_,?_⟩
    . rw[List.length_map]
    . rw[hsz,List.length_map,Nat.mul_one]
      show List.take _ (pieces.map Value.string)=_
      rw[List.take_of_length_le (by rw[List.length_map];exact Nat.le_refl _)]
    . intro u hu
      obtain⟨b,_,rfl⟩:=List.mem_map.1 hu
      rfl
    . intro i rw_ hi
      rw[List.getElem?_map] at hi
      obtain⟨b,_,rfl⟩:=Option.map_eq_some_iff.1 hi
      rw[hsz];rfl
    . intro i rw_ j d hi hj
      rw[List.getElem?_map] at hi
      obtain⟨b,hb,rfl⟩:=Option.map_eq_some_iff.1 hi
      cases j with
      | succ j=>simp at hj
      | zero=>
       cases hj
       refine⟨.string b,by rw[hsz,Nat.mul_one,Nat.add_zero,List.getElem?_map,hb];rfl,?_⟩
       have:b=bstr b.data.toList:=by simp[bstr]
       conv=>lhs;rw[this]
       exact .s _
 . intro r r' v v' x x' g h1 _ h2 _ _ _
   cases r with
   | succ r=>simp at h1
   | zero=>cases r' with
    | succ r=>simp at h2
    | zero=>rfl
 . intro p u r v x hp h1 _ hb
   cases r with
   | succ r=>simp at h1
   | zero=>
    cases h1
    have h3:=World.block_lt_of_cell? _ _ (hV.2 p u hp)
    simp only[Value.ownBlock,Option.some.injEq] at hb
    omega
theorem split_at{P:Program}{T:Tab}{ρ:Ren}(L:Lays.n146 P ρ)(hi9:(P.info? (ρ.t 9)).map (fun i=>(i.zero,i.size,i.bytes))=some (some (.string ByteArray.empty),1,16))
    (hc:∀ args w,(callFunc (ρ.f 146) args).run P w = .ok (.enter (ρ.f 146) args) w)(hsz:szOf T (ρ.t 9)=1)(s:List UInt8)(c:UInt8)(hs:s.length<4294967281) :
    FSpec P T (ρ.f 146) [.s s,.s [c]] fun d rows=>d = .own 0 (cutL c s).length/\rows=[some ((ρ.t 9),(cutL c s).map fun b=>[.s b])]:=by
 have e1:(bstr s).data.toList=s:=by simp[bstr]
 have hz:(bstr s).size=s.length:=by rw[Lib.size_eq,e1]
 have e0:=splitB_cut (bstr s) c
 rw[e1] at e0
 have hlen:(Lib.splitB ⟨#[c]⟩ 0 (Lib.countB (bstr s) ⟨#[c]⟩) (bstr s)).length=(cutL c s).length:=by rw[<- e0,List.length_map]
 have h:=FSpec.of_texts (P:=P) (T:=T) (ds:=[.s s,.s [c]]) (e:=(ρ.t 9)) (pieces:=Lib.splitB ⟨#[c]⟩ 0 (Lib.countB (bstr s) ⟨#[c]⟩) (bstr s)) hc hsz (by
     have:=Lib.splitB_length_le ⟨#[c]⟩ 0 (Lib.countB (bstr s) ⟨#[c]⟩) (bstr s)
     have:=Lib.countB_le ⟨#[c]⟩ (Nat.le_refl 1) (bstr s).size (bstr s) (Nat.le_refl _)
     unfold maxLen;omega) fun V w args hl hR=>by
  match args,hl with
  | ⟨[a,b]⟩,_=>
   have ha:=(hR 0 a _ rfl rfl).s_
   have hb:=(hR 1 b _ rfl rfl).s_
   subst ha hb
   exact split_one L hi9 (bstr s) c w (by rw[hz];exact hs)
 have e3:((Lib.splitB ⟨#[c]⟩ 0 (Lib.countB (bstr s) ⟨#[c]⟩) (bstr s)).map fun b=>[D.s b.data.toList])=(cutL c s).map fun b=>[.s b]:=by rw[<- e0,List.map_map];rfl
 rw[hlen,e3] at h
 exact h
end Go.Vx
namespace Go.Proofs.YtaiondckookpiaaDoor
open Go Go.Vx
theorem cutL_len(c:UInt8):∀ l:Str,(cutL c l).length<=l.length+1
 | []=>by simp[cutL]
 | b :: r=>by
  have ih:=cutL_len c r
  unfold cutL
  split
  . simp;omega
  . split
    . rename_i h;rw[h] at ih;simp at ih ⊢;omega
    . simp
theorem cutL_mem(c:UInt8):∀ {l p:Str},p ∈ cutL c l->p.length<=l.length
 | [],p,h=>by simp[cutL] at h;simp[h]
 | b :: r,p,h=>by
  unfold cutL at h
  split at h
  . rcases List.mem_cons.1 h with rfl|h
    . simp
    . have:=cutL_mem c h;simp;omega
  . split at h
    . rename_i x t hx
      rcases List.mem_cons.1 h with rfl|h
      . have:x ∈ cutL c r:=by rw[hx];simp
        have:=cutL_mem c this
        simp;omega
      . have:p ∈ cutL c r:=by rw[hx];simp[h]
        have:=cutL_mem c this
        simp;omega
    . simp at h;subst h;simp
def pieces(s:Str):List (List Str):=(cutL 43 s).map (cutL 45)
def OkW(n:Int)(w:Str):Prop:=(w.length:Int)=n/\okC w
def OkP(n:Int)(ms:List (List Str)):Prop:=∀ m ∈ ms,∀ w ∈ m,OkW n w
def cntP(ms:List (List Str)):Nat:=(ms.map List.length).sum
noncomputable def trm(m:List Str):Option Term:=termT (m.headD []) m.tail
noncomputable def trms(ms:List (List Str)):List Term:=ms.filterMap trm
open Classical in
noncomputable def parO(b:Int)(s:Str):Int × Int × List Term:=
 if 33024<s.length then (2,0,[]) else if b<1\/256<b then (1,0,[]) else if s=[110,111,110,101] then (0,b,[])
 else if ¬ OkP b (pieces s) then (20,0,[]) else if 128<cntP (pieces s) then (3,0,[]) else (0,b,formT (trms (pieces s)))
theorem cntP_take{ms:List (List Str)}{i:Nat}{m:List Str}(h:ms[i]? = some m):cntP (ms.take (i+1))=cntP (ms.take i)+m.length:=by
 rw[take_snoc h];simp[cntP]
theorem cntP_le{ms:List (List Str)}{k:Nat}(h:∀ m ∈ ms,m.length<=k)(i:Nat):cntP (ms.take i)<=ms.length*k:=by
 have go:∀ ms:List (List Str),(∀ m ∈ ms,m.length<=k)->cntP ms<=ms.length*k:=by
  intro ms
  induction ms with
  | nil=>intro _;simp[cntP]
  | cons m ms ih=>
   intro h
   have h1:=ih fun x hx=>h x (by simp[hx])
   have h2:=h m (by simp)
   simp only[cntP,List.map_cons,List.sum_cons,List.length_cons] at h1 ⊢
   rw[Nat.add_mul];omega
 refine Nat.le_trans (go _ fun m hm=>h m (List.mem_of_mem_take hm)) (Nat.mul_le_mul_right _ (by simp;omega))
theorem trms_some{ms:List (List Str)}{i:Nat}{m:List Str}{t:Term}(h:ms[i]? = some m)(ht:trm m=some t):trms (ms.take (i+1))=trms (ms.take i)++[t]:=by
 rw[take_snoc h];simp[trms,ht]
theorem trms_none{ms:List (List Str)}{i:Nat}{m:List Str}(h:ms[i]? = some m)(ht:trm m=none):trms (ms.take (i+1))=trms (ms.take i):=by
 rw[take_snoc h];simp[trms,ht]
theorem pieces_len(s:Str):(pieces s).length<=s.length+1:=by
 unfold pieces;rw[List.length_map];exact cutL_len _ _
theorem pieces_mem{s:Str}{m:List Str}(h:m ∈ pieces s):m ≠ []/\m.length<=s.length+1/\∀ w ∈ m,w.length<=s.length:=by
 obtain⟨p,hp,rfl⟩:=List.mem_map.1 h
 have h1:=cutL_mem _ hp
 have h2:=cutL_len 45 p
 exact⟨cutL_ne _ _,by omega,fun w hw=>Nat.le_trans (cutL_mem _ hw) h1⟩
theorem szT_sub{l k:List Term}(h:l.Sublist k):szT l<=szT k:=by
 induction h with
 | slnil=>exact Nat.le_refl _
 | cons a _ ih=>simp only[szT,List.map_cons,List.sum_cons] at ih ⊢;omega
 | cons_cons a _ ih=>simp only[szT,List.map_cons,List.sum_cons] at ih ⊢;omega
theorem szT_perm{l k:List Term}(h:l.Perm k):szT l=szT k:=(h.map _).sum_nat
theorem grG_sublist{α:Type}(R:α->α->Prop)(l:List α):(grG R l).Sublist l:=by
 have go:∀ (l k l0:List α),k.Sublist l0->(l.foldl (addG R) k).Sublist (l0++l):=by
  intro l
  induction l with
  | nil=>intro k l0 h;simpa using h
  | cons x l ih=>
   intro k l0 h
   have hx:(addG R k x).Sublist (l0++[x]):=by
    unfold addG
    split
    . exact h.trans (List.sublist_append_left _ _)
    . exact (List.filter_sublist.trans h).append (List.Sublist.refl _)
   have:=ih _ _ hx
   simpa[List.append_assoc] using this
 have h:=go l [] [] (List.Sublist.refl _)
 rw[List.nil_append] at h
 exact h
theorem szT_form(l:List Term):szT (formT l)<=szT l:=by
 unfold formT
 rw[szT_perm (srt_perm aheadT _)]
 exact szT_sub (grG_sublist _ _)
theorem termT_sz{p:Str}{less:List Str}{t:Term}(h:termT p less=some t):t.less.length<=less.length:=by
 by_cases hk:PK p less=[p]
 . rw[termT_pk0 hk] at h;cases h
 . rw[termT_pk1 hk] at h
   cases h
   have:=PK_len p less less.length
   rwa [List.take_length] at this
theorem trm_sz{m:List Str}{t:Term}(hm:m ≠ [])(h:trm m=some t):1+t.less.length<=m.length:=by
 have:=termT_sz h
 cases m with
 | nil=>exact absurd rfl hm
 | cons a m=>simp at this ⊢;omega
theorem szT_trms{ms:List (List Str)}(h:∀ m ∈ ms,m ≠ []):szT (trms ms)<=cntP ms:=by
 induction ms with
 | nil=>simp[trms,szT,cntP]
 | cons m ms ih=>
  have h1:=ih fun x hx=>h x (by simp[hx])
  unfold trms cntP at *
  cases ht:trm m with
  | none=>rw[List.filterMap_cons_none ht];simp;omega
  | some t=>
   rw[List.filterMap_cons_some ht]
   have:=trm_sz (h m (by simp)) ht
   simp only[szT,List.map_cons,List.sum_cons] at h1 ⊢
   omega
structure GoodT(n:Nat)(t:Term):Prop where
 ok:t.Ok n
 p:CN t.p
 less:∀ m ∈ t.less,CN m
theorem metL_mem{p:Str}{less:List Str}{m:Str}(h:m ∈ metL p less):∃ x ∈ less,meetT x p=some m:=by
 obtain⟨x,hx,hm⟩:=List.mem_filterMap.1 h
 exact⟨x,hx,hm⟩
theorem termT_good{p:Str}{less:List Str}{t:Term}{n:Nat}(hp:CN p)(hn:p.length=n)(hl:∀ m ∈ less,CT m)(h:termT p less=some t):GoodT n t/\t.p=p:=by
 have h0:=termT_ok hp.2 h
 subst hn
 refine⟨⟨h0.1,by rw[h0.2];exact hp,fun m hm=>?_⟩,h0.2⟩
 by_cases hk:PK p less=[p]
 . rw[termT_pk0 hk] at h;cases h
 . rw[termT_pk1 hk] at h
   cases h
   obtain⟨x,hx,hm2⟩:=metL_mem (PK_mem hm)
   have h3:=meetT_ct hm2 (hl x hx) hp.1
   exact⟨h3.1,fun e=>h3.2.2 (List.eq_nil_of_length_eq_zero (by rw[<- h3.2.1,e];rfl))⟩
structure Fine(n:Int)(ts:List Term):Prop where
 n0:0<=n
 n1:n<=256
 good:∀ t ∈ ts,GoodT n.toNat t
 sz:szT ts<=128
theorem Fine.nil{n:Int}(h0:0<=n)(h1:n<=256):Fine n []:=⟨h0,h1,by simp,by simp[szT]⟩
theorem szT_len(l:List Term):l.length<=szT l:=szS_len l
theorem szT_mem{l:List Term}{t:Term}(h:t ∈ l):1+t.less.length<=szT l:=szS_mem h
theorem Fine.len{n:Int}{ts:List Term}(h:Fine n ts):ts.length<=128:=Nat.le_trans (szT_len _) h.sz
theorem Fine.less{n:Int}{ts:List Term}(h:Fine n ts){t:Term}(ht:t ∈ ts):t.less.length<=127:=by
 have:=szT_mem ht
 have:=h.sz
 omega
theorem GoodT.tn{n:Nat}{x:TR}(h:GoodT n x.t)(hl:x.t.less.length<=1048576):TN x:=⟨h.p,h.less,hl⟩
theorem GoodT.to{n:Nat}{x:TR}(h:GoodT n x.t)(hl:x.t.less.length<=1048576):TO n x:=⟨h.tn hl,h.ok⟩
theorem mem_of_map{l:List TR}{ts:List Term}(e:l.map TR.t=ts){x:TR}(hx:x ∈ l):x.t ∈ ts:=by rw[<- e];exact List.mem_map_of_mem hx
theorem Fine.to{n:Int}{ts:List Term}(h:Fine n ts){l:List TR}(e:l.map TR.t=ts):∀ x ∈ l,TO n.toNat x:=fun x hx=>
 (h.good _ (mem_of_map e hx)).to (Nat.le_trans (h.less (mem_of_map e hx)) (by decide))
theorem Fine.sp{n:Int}{ts:List Term}(h:Fine n ts){l:List TR}(e:l.map TR.t=ts):SpOk n.toNat l:=by
 refine⟨by have:=h.n1;omega,?_,fun x hx=>(h.good _ (mem_of_map e hx)).ok.wide,fun hne=>?_⟩
 . rw[<- szS_eq,e];exact Nat.le_trans h.sz (by decide)
 . cases l with
   | nil=>exact absurd rfl hne
   | cons x l=>exact (h.good _ (mem_of_map e (List.mem_cons_self ..))).ok.pos
theorem Fine.form{n:Int}{l:List Term}(h0:0<=n)(h1:n<=256)(hg:∀ t ∈ l,GoodT n.toNat t)(hs:szT (formT l)<=128):Fine n (formT l):=
 ⟨h0,h1,fun t ht=>hg t (formT_mem ht),hs⟩
theorem headD_mem{m:List Str}(h:m ≠ []):m.headD [] ∈ m:=by
 cases m with
 | nil=>exact absurd rfl h
 | cons a m=>simp
theorem trms_good{n:Int}{ms:List (List Str)}(h:∀ m ∈ ms,m ≠ [])(ho:OkP n ms):∀ t ∈ trms ms,GoodT n.toNat t:=by
 intro t ht
 obtain⟨m,hm,hmt⟩:=List.mem_filterMap.1 ht
 have h1:=ho m hm _ (headD_mem (h m hm))
 exact (termT_good ⟨h1.2.1,h1.2.2⟩ (by have:=h1.1;omega) (fun w hw=>(ho m hm w (List.mem_of_mem_tail hw)).2.1) hmt).1
theorem parO_fine(b:Int)(s:Str):Fine (parO b s).2.1 (parO b s).2.2:=by
 unfold parO
 split
 . exact .nil (by decide) (by decide)
 . split
   . exact .nil (by decide) (by decide)
   . rename_i hb
     split
     . exact .nil (by show 0<=b;omega) (by show b<=256;omega)
     . split
       . exact .nil (by decide) (by decide)
       . rename_i ho
         split
         . exact .nil (by decide) (by decide)
         . rename_i hc
           refine .form (by show 0<=b;omega) (by show b<=256;omega) (trms_good (fun m hm=>(pieces_mem hm).1) (Classical.not_not.1 ho)) ?_
           have:=szT_form (trms (pieces s))
           have:=szT_trms (ms:=pieces s) fun m hm=>(pieces_mem hm).1
           omega
end Go.Proofs.YtaiondckookpiaaDoor
namespace Go.Proofs.YtaiondckookpiaaDoor
open Go Go.Vx
theorem parO_long{b:Int}{s:Str}(h:33024<s.length):parO b s=(2,0,[]):=by unfold parO;rw[if_pos h]
theorem parO_arg{b:Int}{s:Str}(h:¬ 33024<s.length)(h2:b<1\/256<b):parO b s=(1,0,[]):=by unfold parO;rw[if_neg h,if_pos h2]
theorem parO_none{b:Int}{s:Str}(h:¬ 33024<s.length)(h2:¬ (b<1\/256<b))(h3:s=[110,111,110,101]):parO b s=(0,b,[]):=by unfold parO;rw[if_neg h,if_neg h2,if_pos h3]
theorem parO_word{b:Int}{s:Str}(h:¬ 33024<s.length)(h2:¬ (b<1\/256<b))(h3:¬ s=[110,111,110,101])(h4:¬ OkP b (pieces s)):parO b s=(20,0,[]):=by
 unfold parO;rw[if_neg h,if_neg h2,if_neg h3,if_pos h4]
theorem parO_many{b:Int}{s:Str}(h:¬ 33024<s.length)(h2:¬ (b<1\/256<b))(h3:¬ s=[110,111,110,101])(h4:OkP b (pieces s))(h5:128<cntP (pieces s)):parO b s=(3,0,[]):=by
 unfold parO;rw[if_neg h,if_neg h2,if_neg h3,if_neg (fun q=>q h4),if_pos h5]
theorem parO_form{b:Int}{s:Str}(h:¬ 33024<s.length)(h2:¬ (b<1\/256<b))(h3:¬ s=[110,111,110,101])(h4:OkP b (pieces s))(h5:¬ 128<cntP (pieces s)):parO b s=(0,b,formT (trms (pieces s))):=by
 unfold parO;rw[if_neg h,if_neg h2,if_neg h3,if_neg (fun q=>q h4),if_neg h5]
theorem okP_take{b:Int}{ms:List (List Str)}{i:Nat}{m:List Str}(h:ms[i]? = some m)(h1:OkP b (ms.take i))(h2:∀ w ∈ m,OkW b w):OkP b (ms.take (i+1)):=by
 intro x hx
 rw[take_snoc h] at hx
 rcases List.mem_append.1 hx with hx|hx
 . exact h1 x hx
 . simp at hx;subst hx;exact h2
theorem pieces_get{s:Str}{i:Nat}{x:Str}(h:(cutL 43 s)[i]? = some x):(pieces s)[i]? = some (cutL 45 x):=by unfold pieces;rw[List.getElem?_map,h];rfl
theorem pieces_all{s:Str}:(pieces s).take (cutL 43 s).length=pieces s:=List.take_of_length_le (by simp[pieces])
def DSp(n:Int)(ts:List Term)(d:D):Prop:=∃ (ks:List TR) (rm:List (List D)),d = .agg [.i .i64 n,.lst 111 (ks.map drow) rm]/\ks.map TR.t=ts
def DOut(o:Int × Int × List Term)(d:D)(rows:Vx.Rows):Prop:=rows=[]/\∃ a,d = .tup [a,.i .i64 o.1]/\DSp o.2.1 o.2.2 a
theorem DSp.nil(n:Int):DSp n [] (.agg [.i .i64 n,.lst 111 [] []]):=⟨[],[],rfl,rfl⟩
end Go.Proofs.YtaiondckookpiaaDoor
namespace Go.Proofs.YtaiondckookpiaaDoor
open Go Go.Vx Go.RowKit
theorem ours_nil(w:World):Calls Tryd.prog 42 #[.nilIface] w fun e w'=>e = .returned (.bool false)/\w'=w:=by
 go_enter Tryd.func42,Tryd.ntmps42
 go_wp2
 go_ret
 exact⟨rfl,rfl⟩
theorem as_passed(w:World):(Instr.typeAssert (.iface 116 (.agg #[])) 20 116 true).run Tryd.prog w = .ok (.tuple #[.agg #[],.bool true]) w:=by kernel_rfl
set_option maxRecDepth 100000 in
theorem ours_passed(w:World):Calls Tryd.prog 42 #[.iface 116 (.agg #[])] w fun e w'=>e = .returned (.bool true)/\Ext w w':=by
 go_enter Tryd.func42,Tryd.ntmps42
 go_wp2_with (rw[as_passed])
 go_ret
 exact⟨rfl,Ext.alloc _ _⟩
theorem run_store2{t:TypeId}{p:Addr}{w w':World}{z:List Value}{x y:Operand}{a:Act}{dst:Option Nat}{type:TypeId}{pos:String}{after:Array Edge}(hsz:∀ w,(sizeOf t).run Tryd.prog w = .ok z.length w)(hx:a.eval x = .pointer (some p))(hy:(a.eval y).cells=z.toArray)(h:(storeCells p z).run Tryd.prog w = .ok () w') :
    (execOp a.eval ⟨dst,.store t x y,type,pos,after,none⟩).run Tryd.prog w = .ok .skip w':=by
 simp[execOp,Instr.storeAt,hx,hy,Instr.sureAddr,storeVar,hsz,h]
theorem run_build2{e:Operand->Value}{dst:Option Nat}{type:TypeId}{pos:String}{after:Array Edge}{w:World}:(execOp e ⟨dst,.build 24 #[],type,pos,after,none⟩).run Tryd.prog w = .ok (.value (.agg #[.int .i64 0,.slice none 0 0])) w:=by
 have h:(Instr.build 24 #[]).run Tryd.prog w = .ok (.agg #[.int .i64 0,.slice none 0 0]) w:=by kernel_rfl
 simp[execOp,h]
theorem idle_parse(p q:Addr)(w:World):CallsD Tryd.prog 41 #[.pointer (some p),.pointer (some q)] .returning w fun e u' w'=>e = .returned (.tuple #[])/\u' = .returning/\Ext w w':=by
 refine callsD_of_wpS Tryd.func41 rfl fun c₀ cs hu=>?_
 apply wpS_seq
 apply wpS_region
 simp[wpOpsS,go_sem,recoverD,hu,Tryd.ntmps41,Exit.thenS]
 refine (ours_nil w).mono ?_
 rintro e w' ⟨rfl,rfl⟩
 refine wpS_cond (t:=false) (by simp[Act.eval,Act.put,Array.replicate]) ?_
 simp only[Bool.false_eq_true,if_false]
 refine wpS_of_wp (wp_skip ?_)
 cases c₀
 simp_all[bodyPostS,results,Tryd.results41]
 exact Ext.refl _
theorem caught_parse(p q:Addr)(w:World){R:Ending->FrameMode->World->Prop}(h:∀ w1,Ext w w1->∃ w2,(storeCells p [.int .i64 0,.slice none 0 0]).run Tryd.prog w1 = .ok () w2/\∃ w3,(storeCells q [.int .i64 3]).run Tryd.prog w2 = .ok () w3)
    (hR:∀ w1 w2 w3,Ext w w1->(storeCells p [.int .i64 0,.slice none 0 0]).run Tryd.prog w1 = .ok () w2->(storeCells q [.int .i64 3]).run Tryd.prog w2 = .ok () w3->R (.returned (.tuple #[])) (.panicking [{ v:=.iface 116 (.agg #[]),recovered:=true }]) w3) :
    CallsD Tryd.prog 41 #[.pointer (some p),.pointer (some q)] (.panicking [{ v:=.iface 116 (.agg #[]),recovered:=false }]) w R:=by
 refine callsD_of_wpS Tryd.func41 rfl fun c₀ cs hu=>?_
 apply wpS_seq
 apply wpS_region
 simp[wpOpsS,go_sem,recoverD,hu,Tryd.ntmps41,Exit.thenS]
 refine (ours_passed w).mono ?_
 rintro e w1 ⟨rfl,hx⟩
 obtain⟨w2,h1,w3,h2⟩:=h w1 hx
 have hr:=hR w1 w2 w3 hx h1 h2
 refine wpS_cond (t:=true) (by simp[Act.eval,Act.put,Array.replicate]) ?_
 simp only[if_true]
 refine wpS_of_wp ?_
 refine wp_region_lit ?_
 unfold wpList
 rw[if_pos (by simp[Region.wanted])]
 left
 unfold Oper.wp
 rw[run_build2]
 show wpList _ _ _ [_,_] (Act.put _ (some 4) _) w1
 unfold wpList
 rw[if_pos (by simp[Region.wanted])]
 left
 unfold Oper.wp
 rw[run_store2 (p:=p) (z:=[.int .i64 0,.slice none 0 0]) (fun w=>by kernel_rfl) (by simp[Act.eval,Act.put,Array.replicate]) (by simp[Act.eval,Act.put,Array.replicate,Value.cells]) h1]
 show wpList _ _ _ [_] _ w2
 unfold wpList
 rw[if_pos (by simp[Region.wanted])]
 left
 unfold Oper.wp
 rw[run_store2 (p:=q) (z:=[.int .i64 3]) (fun w=>by kernel_rfl) (by simp[Act.eval,Act.put,Array.replicate]) (by simp[Act.eval,Value.cells]) h2]
 show bodyPostS _ _ _ _ _ .normal _ _ w3
 cases c₀
 simp_all[bodyPostS,results,Tryd.results41]
 try exact rfl
theorem def_parse:DefSpec Tryd.prog 41 (.iface 116 (.agg #[])) [.int .i64 0,.slice none 0 0] [.int .i64 3]:=
 ⟨Tryd.call41,idle_parse,fun p q w h=>caught_parse p q w h fun _ _ _ hx h1 h2=>⟨rfl,rfl,_,_,hx,h1,h2⟩⟩
theorem idle_expand(p q:Addr)(w:World):CallsD Tryd.prog 56 #[.pointer (some p),.pointer (some q)] .returning w fun e u' w'=>e = .returned (.tuple #[])/\u' = .returning/\Ext w w':=by
 refine callsD_of_wpS Tryd.func56 rfl fun c₀ cs hu=>?_
 apply wpS_seq
 apply wpS_region
 simp[wpOpsS,go_sem,recoverD,hu,Tryd.ntmps56,Exit.thenS]
 refine (ours_nil w).mono ?_
 rintro e w' ⟨rfl,rfl⟩
 refine wpS_cond (t:=false) (by simp[Act.eval,Act.put,Array.replicate]) ?_
 simp only[Bool.false_eq_true,if_false]
 refine wpS_of_wp (wp_skip ?_)
 cases c₀
 simp_all[bodyPostS,results,Tryd.results56]
 exact Ext.refl _
theorem caught_expand(p q:Addr)(w:World){R:Ending->FrameMode->World->Prop}(h:∀ w1,Ext w w1->∃ w2,(storeCells p [.slice none 0 0]).run Tryd.prog w1 = .ok () w2/\∃ w3,(storeCells q [.int .i64 3]).run Tryd.prog w2 = .ok () w3)
    (hR:∀ w1 w2 w3,Ext w w1->(storeCells p [.slice none 0 0]).run Tryd.prog w1 = .ok () w2->(storeCells q [.int .i64 3]).run Tryd.prog w2 = .ok () w3->R (.returned (.tuple #[])) (.panicking [{ v:=.iface 116 (.agg #[]),recovered:=true }]) w3) :
    CallsD Tryd.prog 56 #[.pointer (some p),.pointer (some q)] (.panicking [{ v:=.iface 116 (.agg #[]),recovered:=false }]) w R:=by
 refine callsD_of_wpS Tryd.func56 rfl fun c₀ cs hu=>?_
 apply wpS_seq
 apply wpS_region
 simp[wpOpsS,go_sem,recoverD,hu,Tryd.ntmps56,Exit.thenS]
 refine (ours_passed w).mono ?_
 rintro e w1 ⟨rfl,hx⟩
 obtain⟨w2,h1,w3,h2⟩:=h w1 hx
 have hr:=hR w1 w2 w3 hx h1 h2
 refine wpS_cond (t:=true) (by simp[Act.eval,Act.put,Array.replicate]) ?_
 simp only[if_true]
 refine wpS_of_wp ?_
 refine wp_region_lit ?_
 unfold wpList
 rw[if_pos (by simp[Region.wanted])]
 left
 unfold Oper.wp
 rw[run_store2 (p:=p) (z:=[.slice none 0 0]) (fun w=>by kernel_rfl) (by simp[Act.eval,Act.put,Array.replicate]) (by simp[Act.eval,Act.put,Array.replicate,Value.cells]) h1]
 show wpList _ _ _ [_] _ w2
 unfold wpList
 rw[if_pos (by simp[Region.wanted])]
 left
 unfold Oper.wp
 rw[run_store2 (p:=q) (z:=[.int .i64 3]) (fun w=>by kernel_rfl) (by simp[Act.eval,Act.put,Array.replicate]) (by simp[Act.eval,Value.cells]) h2]
 show bodyPostS _ _ _ _ _ .normal _ _ w3
 cases c₀
 simp_all[bodyPostS,results,Tryd.results56]
 try exact rfl
theorem def_expand:DefSpec Tryd.prog 56 (.iface 116 (.agg #[])) [.slice none 0 0] [.int .i64 3]:=
 ⟨Tryd.call56,idle_expand,fun p q w h=>caught_expand p q w h fun _ _ _ hx h1 h2=>⟨rfl,rfl,_,_,hx,h1,h2⟩⟩
end Go.Proofs.YtaiondckookpiaaDoor
namespace Go.Vx
open Go.RowKit
def memN:List Nat->Nat->Bool
 | [],_=>false
 | x :: r,t=>match Nat.beq x t with|true=>true|false=>memN r t
theorem memN_iff:∀ {l:List Nat} {t:Nat},memN l t=true ↔ t ∈ l
 | [],t=>by simp[memN]
 | x :: r,t=>by
  unfold memN
  cases h:Nat.beq x t with
  | true=>
   have:=beq_nat_true h
   simp[this]
  | false=>
   have:x ≠ t:=fun e=>by subst e;simp at h
   simp[memN_iff (l:=r) (t:=t),Ne.symm this]
def dstsN:List Oper->List Nat
 | []=>[]
 | o :: r=>match o.dst with|some t=>t :: dstsN r|none=>dstsN r
theorem dstsN_mem:∀ {l:List Oper} {o:Oper} {t:Nat},o ∈ l->o.dst=some t->t ∈ dstsN l
 | [],o,t,h,_=>by simp at h
 | x :: r,o,t,h,hd=>by
  unfold dstsN
  rcases List.mem_cons.1 h with rfl|h
  . rw[hd];simp
  . have:=dstsN_mem h hd
    split
    . simp[this]
    . exact this
def hidS(ds:List Nat):List (Nat × D)->(List (Nat × D)->Prop)->Prop
 | [],K=>K []
 | (t,d) :: r,K=>match memN ds t with|false=>hidS ds r fun r=>K ((t,d) :: r)|true=>hidS ds r K
def hidSL(ds:List Nat)(l:List (Nat × D)):List (Nat × D):=l.filter fun x=>!memN ds x.1
theorem hidS_eq(ds:List Nat):∀ (l:List (Nat × D)) (K:List (Nat × D)->Prop),hidS ds l K=K (hidSL ds l)
 | [],K=>rfl
 | (t,d) :: r,K=>by
  simp only[hidS,hidSL]
  cases h:memN ds t with
  | true=>simp[hidS_eq ds r,hidSL,h]
  | false=>simp[hidS_eq ds r,hidSL,h]
theorem hidSL_look(ds:List Nat)(l:List (Nat × D))(t:Nat):look (hidSL ds l) t=if t ∈ ds then .u else look l t:=by
 induction l with
 | nil=>simp[hidSL,look]
 | cons x l ih=>
  obtain⟨q,d⟩:=x
  unfold hidSL
  cases h:memN ds q with
  | false=>
   have hnq:q ∉ ds:=fun e=>by rw[<- memN_iff,h] at e;cases e
   rw[List.filter_cons_of_pos (by simp[h])]
   show look ((q,d) :: hidSL ds l) t=_
   unfold look
   cases hq:Nat.beq q t with
   | true=>
    have:=beq_nat_true hq
    subst this
    simp[hnq]
   | false=>exact ih
  | true=>
   have hnq:q ∈ ds:=memN_iff.1 h
   rw[List.filter_cons_of_neg (by simp[h])]
   show look (hidSL ds l) t=_
   rw[ih]
   split
   . rfl
   . rename_i hnt
     conv=>rhs;unfold look
     cases hq:Nat.beq q t with
     | true=>have:=beq_nat_true hq;subst this;exact absurd hnq hnt
     | false=>rfl
def callPanS(P:Program)(T:Tab)(ls:List Nat)(Q:Exit->St->Prop)(o:Oper)(s:St):Prop:=
 match o.guard with
 | some _=>False
 | none=>match o.op with
  | .call { callee:=.value (.func f),args,argTypes }=>expos T s.row argTypes.toList (s.gets args.toList) fun ds=>∃ v,PSpec P T f ds v/\(match s with|⟨env,box,row,n⟩=>hidS ls env fun env=>Q (.panic [{ v:=v,recovered:=false }]) ⟨env,box,row,n⟩)
  | _=>False
def panAtS(P:Program)(T:Tab)(l:List Oper)(i:Nat)(Q:Exit->St->Prop)(s:St):Prop:=match l[i]? with|some o=>callPanS P T (dstsN l) Q o s|none=>False
section
variable {w0 w w' : World} {V0 : Fr} {V : Vw} {μ : List Nat} {ω : List Value} {s : St} {a : Act} {P : Program} {T : Tab}
theorem dopsF2_sound(hT:TOk P T){ops:List Oper}{A:Waits}(hns:Region.noSelect ops.toArray=true)(hA:waitsB ops.toArray A=true){Q:Exit->Act->World->Prop}(hQ:∀ c o v a w,o ∈ ops->Q (.panic c) (Act.put a o.dst v) w->Q (.panic c) a w){i0 k:Nat} :
    ∀ (mvs:List Mv) (listed:Array Bool) (ps:Pends) (sps:List (Nat × Src)) (s:St) (V:Vw) (μ:List Nat) (ω:List Value) (a:Act) (w:World) (K:St->Prop),
     planF ops.toArray i0 mvs listed=true->Closed ops.toArray listed->Sim (szOf T) w0 V0 V μ ω s a w->All2 (PendOK V μ ω w) ps sps->dops P T ops A mvs sps s K ->
     (∀ s V μ ω a w (next:Act->World->Prop),K s->Sim (szOf T) w0 V0 V μ ω s a w->wpOp P ops.toArray Q i0 next a w)->wpAnyP P ops.toArray (befW A) Q (mvs.length+(k+1)) ps listed a w
 | [],listed,ps,sps,s,V,μ,ω,a,w,K,hB,hcl,hS,hps,h,hq=>by
  simp only[planF,beq_iff_eq] at hB
  rw[List.length_nil,Nat.zero_add]
  refine⟨fun h0=>(by rw[hB] at h0;cases h0),fun j hj=>?_⟩
  rw[hB] at hj
  have hji:j=i0:=by simpa using hj
  subst hji
  exact hq s V μ ω a w _ h hS
 | .q i :: r,listed,ps,sps,s,V,μ,ω,a,w,K,hB,hcl,hS,hps,h,hq=>by
  simp only[planF,Bool.and_eq_true] at hB
  obtain⟨⟨⟨hr,hf⟩,hq1⟩,hB⟩:=hB
  simp only[dops] at h
  rw[List.length_cons,show r.length+1+(k+1)=(r.length+(k+1))+1 by omega]
  cases ho:ops[i]? with
  | none=>rw[ho] at h;exact h.elim
  | some o=>
   rw[ho] at h
   dsimp only at h
   have ho':ops.toArray[i]? = some o:=by simpa using ho
   rw[ho'] at hq1
   have hri:i ∈ Region.ready .any ops.toArray listed:=by simpa using hr
   have hall:∀ x ∈ ps,x.2 w:=fun x hx=>let ⟨y,hy⟩:=hps.left x hx;hy.mono_
   rcases wantK_sound (o:=o) hS h with⟨hw,s1,h,hS⟩|⟨hw,s1,h,hS⟩
   . obtain⟨d,v,s2,h,hr2,hS2,p,n,hsrc,hq2⟩:=qop_sound hT hS h
     obtain⟨s3,h,hS3⟩:=putK_sound hS2 hr2 h
     refine wpAnyP_first (C:=KeepN p n w) (v:=v) (fun i j=>befW_spec hA i j) ho' (Region.noSelect_spec hns) (fun c a w hc=>hQ _ _ _ _ _ (List.mem_of_getElem? ho) hc) _ ps listed a w hcl (Region.free_spec ho' hf) hri
      (.inl ⟨hw,fun w' hk=>quiet_value (by simpa using hq1) (hq2 w' ?_)⟩) (fun _ _ _ h=>h) hall ?_
     . unfold QR
       split
       . exact hk
       . rename_i heq;simp[isQ,heq] at hq1
       . rename_i heq;simp[isQ,heq] at hq1
       . trivial
     . exact dopsF2_sound hT hns hA hQ r _ _ _ s3 V μ ω _ w K hB (hcl.set hri) hS3 (.cons ⟨rfl,p,n,w,rfl,hsrc,fun _ _ _ h=>h⟩ hps) h hq
   . obtain⟨s3,h,hS3⟩:=putK_sound hS (v:=undef) (d:=.tup []) (RS.tup [] #[] rfl (fun j v d h=>by simp at h)) h
     refine wpAnyP_first (C:=KeepN ⟨0,0,none⟩ 0 w) (v:=undef) (fun i j=>befW_spec hA i j) ho' (Region.noSelect_spec hns) (fun c a w hc=>hQ _ _ _ _ _ (List.mem_of_getElem? ho) hc) _ ps listed a w hcl (Region.free_spec ho' hf) hri
      (.inr ⟨hw,rfl⟩) (fun _ _ _ h=>h) hall ?_
     exact dopsF2_sound hT hns hA hQ r _ _ _ s3 V μ ω _ w K hB (hcl.set hri) hS3 (.cons ⟨rfl,⟨0,0,none⟩,0,w,rfl,SrcP.zero _,fun _ _ _ h=>h⟩ hps) h hq
 | .l i :: r,listed,ps,sps,s,V,μ,ω,a,w,K,hB,hcl,hS,hps,h,hq=>by
  simp only[planF,Bool.and_eq_true,beq_iff_eq] at hB
  obtain⟨hr,hB⟩:=hB
  simp only[dops] at h
  rw[List.length_cons,show r.length+1+(k+1)=(r.length+(k+1))+1 by omega]
  cases ho:ops[i]? with
  | none=>rw[ho] at h;exact h.elim
  | some o=>
   rw[ho] at h
   dsimp only at h
   have ho':ops.toArray[i]? = some o:=by simpa using ho
   have hri:i ∈ Region.ready .any ops.toArray listed:=by rw[hr];simp
   refine⟨fun h0=>(by rw[hr] at h0;cases h0),fun j hj=>?_⟩
   rw[hr] at hj
   have hji:j=i:=by simpa using hj
   subst hji
   unfold wpOp
   rw[ho']
   dsimp only
   rcases wantK_sound (o:=o) hS h with⟨hw,s1,h,hS⟩|⟨hw,s1,h,hS⟩
   . rw[if_pos hw]
     obtain⟨h,hst⟩:=clearK_step hS.mem hps h
     refine .inl (dop_sound hT hS h _ _ fun d v s2 V2 μ2 ω2 w2 hk hr2 hS2 hstep=>?_)
     obtain⟨h1,h2⟩:=hst _ _ _ _ hstep
     obtain⟨s3,h,hS3⟩:=putK_sound hS2 hr2 hk
     exact⟨h1,dopsF2_sound hT hns hA hQ r _ _ _ s3 _ _ _ _ w2 K hB (hcl.set hri) hS3 h2 h hq⟩
   . rw[if_neg (by rw[hw];simp)]
     obtain⟨s3,h,hS3⟩:=putK_sound hS (v:=undef) (d:=.tup []) (RS.tup [] #[] rfl (fun j v d h=>by simp at h)) h
     exact⟨fun x hx _=>let ⟨y,hy⟩:=hps.left x hx;hy.mono_,dopsF2_sound hT hns hA hQ r _ _ _ s3 _ _ _ _ w K hB (hcl.set hri) hS3 (hps.filter fun _ _ h=>h.1) h hq⟩
theorem Ok.region_planpanS(hT:TOk P T)(hm:P.follows .mixedOrders=true){s:St}{Q:Exit->St->Prop}{id:Nat}{l:List Oper}(A:Waits)(mvs:List Mv)(i0:Nat)(hB:planPOk l.toArray A mvs i0=true)
    (h:dops P T l A mvs [] s (panAtS P T l i0 Q)):Ok P T (.region id l.toArray true) Q s:=by
 refine⟨fun w0 V0 V μ ω a w hS=>?_⟩
 simp only[planPOk,Bool.and_eq_true] at hB
 obtain⟨⟨⟨hns,hA⟩,hlen⟩,hB⟩:=hB
 have hlt:mvs.length<l.toArray.size:=blt_true hlen
 have hd:Ext w { w with drawn:=w.drawn+1 }:=(Below.refl w.heap.size w).drew
 refine wp_mono (Q:=fun e a' w'=>∃ c,e = .panic c/\∃ s' V' μ' ω',Q e s'/\(∀ t,t ∈ dstsN l->look s'.env t = .u)/\Sim (szOf T) w0 V0 V' μ' ω' s' a' w') (wp_region_any hm ?_) ?_
 . refine wpAny_of_P (bef:=befW A) _ [] _ _ _ ?_
   have hz:∀ m j:Nat,(Array.replicate m false).getD j false=false:=fun m j=>by
    rcases Nat.lt_or_ge j m with h|h<;>simp[h]
   have hw:=dopsF2_sound hT hns hA (Q:=fun e a' w'=>∃ c,e = .panic c/\∃ s' V' μ' ω',Q e s'/\(∀ t,t ∈ dstsN l->look s'.env t = .u)/\Sim (szOf T) w0 V0 V' μ' ω' s' a' w')
    (by
     rintro c o v a w ho ⟨_,_,s',V',μ',ω',hq,hhid,hS'⟩
     refine⟨c,rfl,s',V',μ',ω',hq,hhid,⟨?_,?_,fun t=>?_,hS'.mem⟩⟩
     . have:=hS'.tmps
       cases hd:o.dst<;>simpa[Act.put,hd] using this
     . have:=hS'.defers
       cases hd:o.dst<;>simpa[Act.put,hd] using this
     . by_cases ht:t ∈ dstsN l
       . rw[hhid t ht];exact .imm _ _ (.u _)
       . have:=hS'.env t
         cases hd:o.dst with
         | none=>rw[hd] at this;exact this
         | some d=>
          have hne:d ≠ t:=fun e=>ht (by rw[<- e];exact dstsN_mem ho hd)
          rw[hd] at this
          unfold slotV at this ⊢
          split
          . rename_i hlt
            rw[if_pos hlt] at this
            have e1:(a.put (some d) v).tmps.getD t undef=a.tmps.getD t undef:=by
             show (a.tmps.setIfInBounds d v).getD t undef=_
             rw[Array.getD_eq_getD_getElem?,Array.getD_eq_getD_getElem?,Array.getElem?_setIfInBounds_ne hne]
            rw[<- e1]
            exact this
          . rename_i hlt
            rw[if_neg hlt] at this
            exact this) (i0:=i0) (k:=l.toArray.size - mvs.length - 1) mvs _ [] [] s V μ ω a _ _ hB
    (fun j o _ hl=>by rw[hz] at hl;cases hl) (hS.ext hd) .nil h ?_
   . rw[show mvs.length+(l.toArray.size - mvs.length - 1+1)=l.toArray.size by omega] at hw
     exact hw
   . intro s V μ ω a w next hk hS
     unfold panAtS at hk
     split at hk
     case h_2=>exact hk.elim
     rename_i o ho
     obtain⟨dst,op,type,pos,after,guard⟩:=o
     unfold callPanS at hk
     split at hk
     . exact hk.elim
     rename_i hg
     dsimp only at hg
     subst hg
     split at hk
     case h_2=>exact hk.elim
     rename_i f args argTypes hop
     dsimp only at hop
     subst hop
     obtain⟨es,⟨v,hp,hq⟩,hes,hri⟩:=expos_sound hS.mem argTypes.toList (s.gets args.toList) (args.toList.map a.eval) _ (by simp[St.gets]) (hS.gets args.toList).2 hk
     unfold wpOp
     have ho':l.toArray[i0]? = some ⟨dst,.call ⟨.value (.func f),args,argTypes⟩,type,pos,after,none⟩:=by simpa using ho
     rw[ho']
     dsimp only
     rw[if_pos (by simp[Region.wanted])]
     left
     unfold Oper.wp
     have hrun:(execOp a.eval ⟨dst,.call ⟨.value (.func f),args,argTypes⟩,type,pos,after,none⟩).run P w = .ok (.enter f (args.map a.eval)) w:=by
      simp only[execOp,resolve,Act.eval,Deferred.ofValue,invoke,Sem.run_bind,Sem.run_pure,Result.andThen_ok]
      rw[show (#[]++args.map a.eval)++#[]=args.map a.eval by simp,hp.call]
     rw[hrun]
     show Calls P f (args.map a.eval) w _
     have hcalls:=hp.run (heapV w) w (args.map a.eval) (.heap hS.mem.vok.gl (Ext.refl w)) (by simp[hes,St.gets]) (fun j v d h1 h2=>hri j v d (by simpa using h1) h2)
     refine hcalls.mono ?_
     rintro e w' ⟨rfl,hb⟩
     obtain⟨env,box,row,n⟩:=s
     dsimp only at hq
     rw[hidS_eq] at hq
     have hS2:=hS.ext hb
     refine⟨_,rfl,⟨hidSL (dstsN l) env,box,row,n⟩,V,μ,ω,hq,fun t ht=>by rw[hidSL_look,if_pos ht],⟨hS2.tmps,hS2.defers,fun t=>?_,hS2.mem⟩⟩
     show RS _ _ _ _ (slotV V0 n a t) (look (hidSL (dstsN l) env) t)
     rw[hidSL_look]
     split
     . exact .imm _ _ (.u _)
     . exact hS2.env t
 . rintro e a' w' ⟨c,rfl,s',V',μ',ω',hk,_,hS'⟩
   exact⟨s',V',μ',ω',hk,hS'⟩
end
section
variable {P : Program} {T : Tab}
theorem FSpec.of_deferK(k:Nat)(hT:TOk P T){f:FuncId}{fn:Func}{c:Code}(hf:P.funcs[f]? = some fn)(hb:fn.body=some c)(hcall:∀ args w,(callFunc f args).run P w = .ok (.enter f args) w){ds:List D}{R:D->Rows->Prop}(hn:ds.length<=fn.ntmps)
    {g:FuncId}{pv:Value}{z1 z2:List Value}(hD:DefSpec P g pv z1 z2){zd1 zd2:List D}(hz1:z1.map ofVal=zd1)(hz2:z2.map ofVal=zd2)(ho1:∀ v ∈ z1,v.oneCell'=true)(ho2:∀ v ∈ z2,v.oneCell'=true){id t p q:Nat}{ty1 ty2:TypeId}{p1 p2:String}{e1 e2:Array Edge}{Bs:List Code}
    (hflat:(flatC c).drop k = .region id #[⟨some t,.makeFunc (.func g) #[] #[.tmp p,.tmp q],ty1,p1,e1,none⟩,⟨none,.defer ⟨.value (.tmp t),#[],#[]⟩,ty2,p2,e2,none⟩] false :: Bs)
    (h:OkL P T ((flatC c).take k) (defA P T fn R pv zd1 zd2 t p q Bs) ⟨envOf 0 ds,[],[],fn.ntmps⟩):FSpec P T f ds R:=
 FSpec.of_defer hT hf hb hcall hn hz1 hz2 ho1 ho2 hD (by rw[<- hflat,List.take_append_drop]) h
end
end Go.Vx
namespace Go.Proofs.YtaiondckookpiaaDoor
open Go Go.Vx Go.Shelf
def PSp(n:Int)(ts:List Term)(d:D):Prop:=∃ (ks:List TR) (rm:List (List D)),d = .agg [.i .i64 n,.lst 81 (ks.map trow) rm]/\ks.map TR.t=ts
def POut(o:Int × Int × List Term)(d:D)(rows:Vx.Rows):Prop:=rows=[]/\∃ a,d = .tup [a,.i .i64 o.1]/\PSp o.2.1 o.2.2 a
theorem PSp.nil(n:Int):PSp n [] (.agg [.i .i64 n,.lst 81 [] []]):=⟨[],[],rfl,rfl⟩
theorem splitAt(t:Str)(c:UInt8)(h:t.length<4294967281):FSpec Tryd.prog T 43 [.s t,.s [c]] fun d rows=>d = .own 0 (cutL c t).length/\rows=[some (9,(cutL c t).map srow)]:=
 Go.Vx.split_at Tryd.vxSplit (by kernel_rfl) Tryd.call43 rfl t c h
theorem perr_of{t:Str}(h:okC t):perr t=0:=by unfold perr;rw[if_neg (by have:=h.1.len;omega),if_pos h]
theorem perr_not{t:Str}(h:¬ okC t):perr t ≠ 0:=by
 unfold perr
 split
 . decide
 . decide
theorem lrows{lss:List LR}{ms:List (List Str)}{i:Nat}{m:List Str}(h:lss.map LR.l=ms)(hm:ms[i]? = some m):∃ rm,lss[i]? = some ⟨m,rm⟩:=by
 subst h
 rw[List.getElem?_map] at hm
 obtain⟨x,hx,rfl⟩:=Option.map_eq_some_iff.1 hm
 exact⟨x.room,hx⟩
set_option maxRecDepth 100000 in
set_option maxHeartbeats 8000000 in
theorem parse2_at(b:Int)(s:Str):FSpec Tryd.prog T 13 [.i .i64 b,.s s] (POut (parO b s)):=by
 refine FSpec.of_deferK 7 tok Tryd.func13 rfl Tryd.call13 (by simp) def_parse (zd1:=[.i .i64 0,.nilS]) (zd2:=[.i .i64 3]) rfl rfl (by simp[Value.oneCell']) (by simp[Value.oneCell']) rfl ?_
 by_cases hlong:33024<s.length
 . rw[parO_long hlong]
   (try (conv=>whnf));repeat' (first|refine Ok.seq ?_|refine OkL.cons ?_|((first|refine Ok.region tok ?_|refine Ok.cond ?_|refine Ok.ret ?_);conv=>whnf)|(refine bI ?_ ?_<;>intro<;>(conv=>whnf)<;>(try (exfalso;omega)))|fail)
   refine Or.inl ?_;(conv=>whnf)
   exact⟨rfl,_,rfl,PSp.nil 0⟩
 by_cases hb:b<1\/256<b
 . rw[parO_arg hlong hb]
   (try (conv=>whnf));repeat' (first|refine Ok.seq ?_|refine OkL.cons ?_|((first|refine Ok.region tok ?_|refine Ok.cond ?_|refine Ok.skip ?_|refine Ok.ret ?_);conv=>whnf)|(refine bI ?_ ?_<;>intro<;>(conv=>whnf)<;>(try (exfalso;omega)))|fail)
   all_goals
    refine Or.inl ?_;(conv=>whnf)
    exact⟨rfl,_,rfl,PSp.nil 0⟩
 have hnb:noneB b=b:=by unfold noneB;rw[if_neg hb]
 have hnone:=none_at b
 rw[hnb] at hnone
 by_cases hnn:s=[110,111,110,101]
 . rw[parO_none hlong hb hnn]
   (try (conv=>whnf));repeat' (first|refine Ok.seq ?_|refine OkL.cons ?_|((first|refine Ok.region tok ?_|refine Ok.cond ?_|refine Ok.skip ?_|refine Ok.ret ?_);conv=>whnf)|(refine Or.inr (Or.inl ?_);(conv=>whnf);(repeat (refine aI ?_;conv=>whnf));refine⟨_,hnone,?_⟩;rintro _ _ ⟨rfl,rfl⟩<;>(conv=>whnf))|(refine bI ?_ ?_<;>intro<;>(conv=>whnf)<;>(try (exfalso;omega)))|fail)
   . refine Or.inl ?_;(conv=>whnf)
     exact⟨rfl,_,rfl,PSp.nil b⟩
   . exact absurd hnn (by assumption)
 have hLn:=cutL_len 43 s
 have hLl:((cutL 43 s).map srow).length=(cutL 43 s).length:=by simp
 have hLm:∀ x ∈ cutL 43 s,x.length<=s.length:=fun x hx=>cutL_mem 43 hx
 have hcl:∀ i,cntP ((pieces s).take i)<=(pieces s).length*(s.length+1):=cntP_le fun m hm=>(pieces_mem hm).2.1
 have hpl:=pieces_len s
 have hmul:(pieces s).length*(s.length+1)<=33025*33025:=Nat.mul_le_mul (by omega) (by omega)
 (try (conv=>whnf));repeat' (first|refine Ok.seq ?_|refine OkL.cons ?_|((first|refine Ok.region tok ?_|refine Ok.cond ?_|refine Ok.skip ?_|refine Ok.ret ?_);conv=>whnf)|(refine Or.inr (Or.inl ?_);(conv=>whnf);(repeat (refine aI ?_;conv=>whnf));refine⟨_,hnone,?_⟩;rintro _ _ ⟨rfl,rfl⟩<;>(conv=>whnf))|(refine bI ?_ ?_<;>intro<;>(conv=>whnf)<;>(try (exfalso;omega)))|fail)
 . exact absurd (by assumption) hnn
 refine OkL.nil ?_
 (conv=>whnf)
 refine⟨0,1,rfl,rfl,by decide,by decide,by decide,rfl,?_⟩
 have hsp:∀ t:Str,∀ c:UInt8,t.length<=s.length->FSpec Tryd.prog T 43 [.s t,.s [c]] fun d rows=>d = .own 0 (cutL c t).length/\rows=[some (9,(cutL c t).map srow)]:=fun t c h=>splitAt t c (by omega)
 (try (conv=>whnf));repeat' (first|refine OkL.cons ?_|(refine Ok.region tok ?_;conv=>whnf)|refine Ok.block ?_|(refine Or.inr (Or.inl ?_);(conv=>whnf);(repeat (refine aI ?_;conv=>whnf));refine⟨_,hsp s 43 (Nat.le_refl _),?_⟩;rintro _ _ ⟨rfl,rfl⟩;conv=>whnf)|fail)
 refine Ok.ghost 6 52 rfl ?_
 (conv=>whnf)
 refine Ok.loopU [0,4,5,37,38] [6,7,39] 2 2 (fun (x:Nat × List LR)=>[.own 1 x.2.length,.i .i64 (cntP ((pieces s).take x.1):Nat),.i .i64 (x.1:Nat)]) (fun _ b=>b) (fun (x:Nat × List LR) (_:Vx.Rows)=>[some (9,(cutL 43 s).map srow),some (52,x.2.map lrow)]) (fun (x:Nat × List LR)=>x.1<=(cutL 43 s).length/\x.2.map LR.l=(pieces s).take x.1/\OkP b ((pieces s).take x.1)) (fun (x:Nat × List LR)=>(cutL 43 s).length - x.1) ((0,[])) (⟨Nat.zero_le _,by simp,by simp[OkP]⟩) ?_;(conv=>whnf);refine⟨by ((conv=>whnf);first|rfl|(simp[envCat,List.take_of_length_le,crow,trow];done)|(simp[envCat,List.take_of_length_le,crow,trow];rw[IntKind.wrap_i64];omega)),?_⟩
 rintro⟨i,lss⟩ ⟨hi,hls,hok⟩
 dsimp only at hi hls hok ⊢
 have hlsl:(lss.map lrow).length=lss.length:=by simp
 have hlsn:lss.length<=40000:=by
  have:=congrArg List.length hls
  simp at this
  omega
 have hci:=hcl i
 (conv=>whnf)
 by_cases hil:i<(cutL 43 s).length
 . obtain⟨x,hx⟩:∃ x,(cutL 43 s)[i]? = some x:=⟨_,List.getElem?_eq_getElem hil⟩
   have hpx:=pieces_get hx
   have hxl:=hLm x (List.mem_of_getElem? hx)
   have hnx:=cntP_take hpx
   have hml:=cutL_len 45 x
   have hmm:((cutL 45 x).map srow).length=(cutL 45 x).length:=by simp
   have hokx:=okP_take (b:=b) hpx hok
   have hwl:∀ w ∈ cutL 45 x,w.length<=x.length:=fun w hw=>cutL_mem 45 hw
   have hbad:∀ w ∈ cutL 45 x,¬ OkW b w->¬ OkP b (pieces s):=fun w hw h q=>h (q _ (List.mem_of_getElem? hpx) w hw)
   have hsx:=hsp x 45 hxl
   generalize cntP ((pieces s).take i)=K at *
   generalize hM:cutL 45 x=M at *
   (try (conv=>whnf));repeat' (first|refine Ok.seq ?_|((first|refine Ok.region tok ?_|refine Ok.cond ?_);conv=>whnf)|refine Ok.block ?_|(refine Ok.skip ?_;conv=>whnf)|(refine Or.inr (Or.inl ?_);(conv=>whnf);(repeat (refine aI ?_;conv=>whnf));refine⟨_,hsx,?_⟩;rintro _ _ ⟨rfl,rfl⟩;conv=>whnf)|(refine rd rfl (by assumption) ?_;conv=>whnf)|(refine bI ?_ ?_<;>intro<;>(conv=>whnf)<;>(try (exfalso;omega)))|(refine aJ ?_;conv=>whnf)|fail)
   refine Ok.ghost 10 69 rfl ?_
   (conv=>whnf)
   refine Ok.loopU [0,4,5,6,7,37,38,39,44,45] [10,46] 4 2 (fun (j:Nat)=>[.own 3 j,.i .i64 (j:Nat)]) (fun _ b=>b) (fun (j:Nat) (_:Vx.Rows)=>[some (9,(cutL 43 s).map srow),some (52,lss.map lrow),some (9,M.map srow),some (69,(M.take j).map crow)]) (fun (j:Nat)=>j<=M.length/\∀ w ∈ M.take j,OkW b w) (fun (j:Nat)=>M.length - j) (0) (⟨Nat.zero_le _,by simp⟩) ?_;(conv=>whnf);refine⟨by ((conv=>whnf);first|rfl|(simp[envCat,List.take_of_length_le,crow,trow];done)|(simp[envCat,List.take_of_length_le,crow,trow];rw[IntKind.wrap_i64];omega)),?_⟩
   rintro j ⟨hj,hw⟩
   have hjm:((M.take j).map crow).length=j:=by simp;omega
   (conv=>whnf)
   by_cases hjl:j<M.length
   . obtain⟨y,hy⟩:∃ y,M[j]? = some y:=⟨_,List.getElem?_eq_getElem hjl⟩
     have hyI:M[((j:Nat):Int).toNat]? = some y:=hy
     have hym:=List.mem_of_getElem? hy
     have hyl:=hwl y hym
     have hpy:=parse_at y
     by_cases hgood:OkW b y
     . have hg1:=hgood.1
       rw[zer_of hgood.2,perr_of hgood.2] at hpy
       (try (conv=>whnf));repeat' (first|refine Ok.seq ?_|((first|refine Ok.region tok ?_|refine Ok.cond ?_);conv=>whnf)|refine Ok.block ?_|((first|refine Ok.skip ?_|refine nI ?_);conv=>whnf)|(refine Or.inr (Or.inl ?_);(conv=>whnf);(repeat (refine aI ?_;conv=>whnf));refine⟨_,hpy,?_⟩;rintro _ _ ⟨rfl,rfl⟩<;>(conv=>whnf))|((first|refine Alt2.l (aI ?_)|refine rd rfl (by assumption) ?_|refine⟨_,.inl ⟨rfl,rfl⟩,?_⟩|refine⟨_,_,rfl,rfl,?_⟩);conv=>whnf)|(refine bI ?_ ?_<;>intro<;>(conv=>whnf)<;>(try (exfalso;omega)))|(refine aJ ?_;conv=>whnf)|fail)
       refine⟨j+1,by omega,⟨by omega,fun w hw2=>?_⟩,?_⟩
       . rw[take_snoc hy] at hw2
         rcases List.mem_append.1 hw2 with h|h
         . exact hw w h
         . simp at h;rw[h];exact hgood
       . rw[take_snoc hy]
         (conv=>whnf)
         simp[envCat]
         omega
     . have hno:=hbad y hym hgood
       by_cases hoc:okC y
       . have hne:(y.length:Int) ≠ b:=fun e=>hgood ⟨e,hoc⟩
         rw[perr_of hoc] at hpy
         (try (conv=>whnf));repeat' (first|refine Ok.seq ?_|((first|refine Ok.region tok ?_|refine Ok.cond ?_);conv=>whnf)|refine Ok.block ?_|((first|refine Ok.skip ?_|refine Ok.ret ?_);conv=>whnf)|(refine Or.inr (Or.inl ?_);(conv=>whnf);(repeat (refine aI ?_;conv=>whnf));refine⟨_,hpy,?_⟩;rintro _ _ ⟨rfl,rfl⟩<;>(conv=>whnf))|(refine rd rfl (by assumption) ?_;conv=>whnf)|(refine bI ?_ ?_<;>intro<;>(conv=>whnf)<;>(try (exfalso;omega)))|(refine aJ ?_;conv=>whnf)|fail)
         all_goals first
          | (rw[parO_word hlong hb hnn hno]
             refine Or.inl ?_;(conv=>whnf)
             exact⟨rfl,_,rfl,PSp.nil 0⟩)
          | (exfalso;omega)
       . have hpe:=perr_not hoc
         generalize perr y=E at *
         (try (conv=>whnf));repeat' (first|refine Ok.seq ?_|((first|refine Ok.region tok ?_|refine Ok.cond ?_);conv=>whnf)|refine Ok.block ?_|((first|refine Ok.skip ?_|refine Ok.ret ?_);conv=>whnf)|(refine Or.inr (Or.inl ?_);(conv=>whnf);(repeat (refine aI ?_;conv=>whnf));refine⟨_,hpy,?_⟩;rintro _ _ ⟨rfl,rfl⟩<;>(conv=>whnf))|(refine rd rfl (by assumption) ?_;conv=>whnf)|(refine bI ?_ ?_<;>intro<;>(conv=>whnf)<;>(try (exfalso;omega)))|(refine aJ ?_;conv=>whnf)|fail)
         all_goals first
          | (rw[parO_word hlong hb hnn hno]
             refine Or.inl ?_;(conv=>whnf)
             exact⟨rfl,_,rfl,PSp.nil 0⟩)
          | (exfalso;omega)
   . have hje:j=M.length:=by omega
     subst hje
     rw[List.take_length] at hw hjm ⊢
     have hok2:=hokx hw
     refine Ok.pub 3 ?_
     (conv=>whnf)
     (try (conv=>whnf));repeat' (first|refine Ok.seq ?_|((first|refine Ok.region tok ?_|refine Ok.cond ?_|refine Ok.exit ?_|refine nI ?_|refine Alt2.l (aI ?_)|refine⟨_,.inl ⟨rfl,rfl⟩,?_⟩|refine⟨_,_,rfl,rfl,?_⟩);conv=>whnf)|(refine bI ?_ ?_<;>intro<;>(conv=>whnf)<;>(try (exfalso;omega)))|((first|refine aJ ?_|refine num_any ?_);conv=>whnf)|fail)
     refine⟨(i+1,lss++[⟨M,List.drop M.length (M.map crow)⟩]),by dsimp only;omega,⟨by dsimp only;omega,?_,hok2⟩,?_⟩
     . dsimp only
       rw[List.map_append,hls,take_snoc hpx]
       rfl
     . dsimp only
       rw[hnx]
       (conv=>whnf)
       simp[envCat,List.take_of_length_le]
       rw[IntKind.wrap_i64]<;>omega
 . have hie:i=(cutL 43 s).length:=by omega
   subst hie
   rw[pieces_all] at hok hci hls
   rw[pieces_all]
   have hgood:=trms_good (n:=b) (fun m hm=>(pieces_mem hm).1) hok
   have hne:∀ m ∈ pieces s,m ≠ []:=fun m hm=>(pieces_mem hm).1
   have hlsL:lss.length=(cutL 43 s).length:=by
    have:=congrArg List.length hls
    simp[pieces] at this
    exact this
   by_cases hmany:128<cntP (pieces s)
   . rw[parO_many hlong hb hnn hok hmany]
     (try (conv=>whnf));repeat' (first|refine Ok.seq ?_|refine OkL.cons ?_|((first|refine Ok.region tok ?_|refine Ok.cond ?_|refine Ok.exit ?_|refine Ok.ret ?_);conv=>whnf)|(refine bI ?_ ?_<;>intro<;>(conv=>whnf)<;>(try (exfalso;omega)))|fail)
     . refine Or.inl ?_;(conv=>whnf)
       exact⟨rfl,_,rfl,PSp.nil 0⟩
     all_goals exact absurd hmany (by omega)
   . rw[parO_form hlong hb hnn hok hmany]
     have hsz:=szT_trms hne
     (try (conv=>whnf));repeat' (first|refine Ok.seq ?_|refine OkL.cons ?_|((first|refine Ok.region tok ?_|refine Ok.cond ?_);conv=>whnf)|refine Ok.block ?_|((first|refine Ok.skip ?_|refine Ok.exit ?_);conv=>whnf)|(refine bI ?_ ?_<;>intro<;>(conv=>whnf)<;>(try (exfalso;omega)))|fail)
     refine Ok.ghost 15 81 rfl ?_
     (conv=>whnf)
     refine Ok.loopU [0,4,5,81,82] [15,83] 3 2 (fun (x:Nat × List TR)=>[.own 2 x.2.length,.i .i64 (x.1:Nat)]) (fun _ b=>b) (fun (x:Nat × List TR) (_:Vx.Rows)=>[some (9,(cutL 43 s).map srow),some (52,lss.map lrow),some (81,x.2.map trow)]) (fun (x:Nat × List TR)=>x.1<=(cutL 43 s).length/\x.2.map TR.t=trms ((pieces s).take x.1)/\x.2.length<=x.1) (fun (x:Nat × List TR)=>(cutL 43 s).length - x.1) ((0,[])) (⟨Nat.zero_le _,by simp[trms],by simp⟩) ?_;(conv=>whnf);refine⟨by ((conv=>whnf);first|rfl|(simp[envCat,List.take_of_length_le,crow,trow];done)|(simp[envCat,List.take_of_length_le,crow,trow];rw[IntKind.wrap_i64];omega)),?_⟩
     rintro⟨i,l⟩ ⟨hi,hl,hll⟩
     dsimp only at hi hl hll ⊢
     have hlm:(l.map trow).length=l.length:=by simp
     (conv=>whnf)
     by_cases hil:i<(cutL 43 s).length
     . obtain⟨x,hx⟩:∃ x,(cutL 43 s)[i]? = some x:=⟨_,List.getElem?_eq_getElem hil⟩
       have hpx:=pieces_get hx
       have hxl:=hLm x (List.mem_of_getElem? hx)
       have hml:=cutL_len 45 x
       have hoks:=hok _ (List.mem_of_getElem? hpx)
       obtain⟨p,less,hm⟩:∃ p less,cutL 45 x=p :: less:=by
        cases h:cutL 45 x with
        | nil=>exact absurd h (cutL_ne _ _)
        | cons a l=>exact⟨a,l,rfl⟩
       rw[hm] at hpx hml hoks
       simp at hml
       obtain⟨rm1,hlx⟩:=lrows hls hpx
       have hp:=hoks p (by simp)
       have hlo:∀ m ∈ less,CT m:=fun m h=>(hoks m (by simp[h])).2.1
       have hlm2:(less.map crow).length=less.length:=by simp
       have hsl:∀ rm:List (List D),List.drop 1 (List.take (List.map crow (p :: less)).length (List.map crow (p :: less)++rm))=less.map crow:=fun rm=>by
        rw[List.take_left' rfl]
        rfl
       have hnew:∀ rl room,rl=List.map lrow [⟨less,List.drop (List.map crow (p :: less)).length (List.map crow (p :: less)++rm1)⟩]->FSpec Tryd.prog T 45 [.agg (crow p),.lst 52 rl room] (NewT p less):=fun rl room h=>by
        have:=newTerm_at p [⟨less,List.drop (List.map crow (p :: less)).length (List.map crow (p :: less)++rm1)⟩] (room:=room) ⟨hp.2.1,hp.2.2⟩ (by simpa using hlo) (by simp[allL];omega) (by simp) h
        rwa [show allL [⟨less,List.drop (List.map crow (p :: less)).length (List.map crow (p :: less)++rm1)⟩]=less by simp[allL]] at this
       (try (conv=>whnf));repeat' (first|refine Ok.seq ?_|((first|refine Ok.region tok ?_|refine Ok.region_tree (id:=31) tok follows [(2,6,[]),(5,6,[]),(2,11,[]),(5,11,[]),(6,11,[]),(10,11,[])] (.q 0 (.q 1 (.q 2 (.q 3 (.q 4 (.alt 5 (.alt 6 (.q 7 (.q 8 (.q 9 (.l 10 (.l 11 (.q 12 .nil)))))) (.alt 10 (.l 6 (.q 7 (.q 8 (.q 9 (.l 11 (.q 12 .nil)))))) .nil)) (.alt 10 (.l 5 (.l 6 (.q 7 (.q 8 (.q 9 (.l 11 (.q 12 .nil))))))) .nil))))))) (by kernel_rfl) ?_|refine Ok.cond ?_);conv=>whnf)|refine Ok.block ?_|((first|refine Ok.skip ?_|refine nI ?_);conv=>whnf)|(refine Or.inr (Or.inl ?_);(conv=>whnf);(repeat (refine aI ?_;conv=>whnf));refine⟨_,hnew _ _ (by simp only[hsl];rfl) , ?_⟩;rintro _ _ ⟨rfl,(⟨ht,rfl⟩|⟨t,rm3,ht,rfl⟩)⟩<;>(conv=>whnf))|((first|refine Alt2.l (aI ?_)|refine rd rfl (by assumption) ?_|refine⟨_,.inl ⟨rfl,rfl⟩,?_⟩|refine⟨_,_,rfl,rfl,?_⟩);conv=>whnf)|(refine bI ?_ ?_<;>intro<;>(conv=>whnf)<;>(try (exfalso;omega)))|((first|refine aJ ?_|refine⟨_,rfl,?_⟩);conv=>whnf)|(exact True.intro)|(refine And.intro ?_ ?_<;>(conv=>whnf))|fail)
       all_goals first
        | (rename_i h;exact absurd trivial h)
        | (refine⟨(i+1,l),by dsimp only;omega,⟨by dsimp only;omega,by dsimp only;rw[trms_none hpx (show trm (p :: less)=none from ht)];exact hl,by dsimp only;omega⟩,?_⟩
           (conv=>whnf)
           rfl)
        | (refine⟨(i+1,l++[⟨t,rm3⟩]),by dsimp only;omega,⟨by dsimp only;omega,by dsimp only;rw[trms_some hpx (show trm (p :: less)=some t from ht),List.map_append,hl];rfl,by simp;omega⟩,?_⟩
           (conv=>whnf)
           simp[envCat])
     . have hie:i=(cutL 43 s).length:=by omega
       subst hie
       rw[pieces_all] at hl
       have hto:∀ x ∈ l,TO b.toNat x:=fun x hx=>(hgood _ (mem_of_map hl hx)).to (by
        have:=szT_mem (mem_of_map hl hx)
        omega)
       have hll2:l.length<=1048576:=by
        have:=szT_len (trms (pieces s))
        rw[<- hl,List.length_map] at this
        omega
       have hsz2:szT (formT (l.map TR.t))<=128:=by
        rw[hl]
        have:=szT_form (trms (pieces s))
        omega
       have htk:List.take l.length (l.map trow)=l.map trow:=List.take_of_length_le (by simp)
       (try (conv=>whnf));repeat' (first|refine Ok.seq ?_|refine OkL.cons ?_|((first|refine Ok.region tok ?_|refine Ok.cond ?_|refine Ok.exit ?_|refine Ok.ret ?_);conv=>whnf)|(refine Or.inr (Or.inl ?_);(conv=>whnf);(repeat (refine aI ?_;conv=>whnf));refine⟨_,form_at b b.toNat l hll2 hto htk hsz2 , ?_⟩;rintro _ _ ⟨ks,rm4,rfl,rfl,hks,hkm⟩<;>(conv=>whnf))|(refine bI ?_ ?_<;>intro<;>(conv=>whnf)<;>(try (exfalso;omega)))|fail)
       refine Or.inl ?_;(conv=>whnf)
       exact⟨rfl,_,rfl,ks,rm4,rfl,by rw[hks,hl]⟩
end Go.Proofs.YtaiondckookpiaaDoor
namespace Go.Proofs.YtaiondckookpiaaDoor
open Go Go.Vx
theorem Fine.cast{n:Int}{ts:List Term}(h:Fine n ts):((n.toNat:Nat):Int)=n:=by have:=h.n0;omega
theorem Fine.mlen{n:Int}{ts:List Term}(h:Fine n ts){l:List TR}(e:l.map TR.t=ts):l.length<=1048576:=by
 have:=h.len
 rw[<- e,List.length_map] at this
 omega
theorem Fine.mless{n:Int}{ts:List Term}(h:Fine n ts){l:List TR}(e:l.map TR.t=ts):∀ x ∈ l,x.t.less.length<=1048576:=fun x hx=>Nat.le_trans (h.less (mem_of_map e hx)) (by decide)
end Go.Proofs.YtaiondckookpiaaDoor
namespace Go.Proofs.YtaiondckookpiaaDoor
open Go Go.Vx
def bndO(n:Int)(l:List Term):Int × Int × List Term:=if szT l<=128 then (0,n,l) else (3,0,[])
theorem bndO_le{n:Int}{l:List Term}(h:szT l<=128):bndO n l=(0,n,l):=if_pos h
theorem DOut.form{n:Int}{l:List Term}{ks:List TR}{rm:List (List D)}(e:ks.map TR.t=formT l)(h:szT (ks.map TR.t)<=128):DOut (bndO n (formT l)) (.tup [.agg [.i .i64 n,.lst 111 (ks.map drow) rm],.i .i64 0]) []:=by
 rw[bndO_le (by rw[<- e];exact h)]
 exact⟨rfl,_,rfl,ks,rm,rfl,e⟩
end Go.Proofs.YtaiondckookpiaaDoor
namespace Go.Proofs.YtaiondckookpiaaDoor
open Go Go.Vx
theorem GoodT.len{n:Nat}{t:Term}(h:GoodT n t):t.p.length=n:=h.ok.p
theorem tr_get{ks:List TR}{ts:List Term}{i:Nat}{x:TR}(e:ks.map TR.t=ts)(h:ks[i]? = some x):ts[i]? = some x.t:=by rw[<- e,List.getElem?_map,h];rfl
end Go.Proofs.YtaiondckookpiaaDoor
namespace Go.Vx
open Go.RowKit
variable {P : Program} {T : Tab} {s : St}
theorem FSpec.mono{f:FuncId}{ds:List D}{R R':D->Rows->Prop}(h:FSpec P T f ds R)(hR:∀ d rows,R d rows->R' d rows):FSpec P T f ds R':=
 ⟨h.1,fun V w args a b c=>(h.2 V w args a b c).mono fun e w' ⟨V',ω,row,v,d,h1,h2,h3⟩=>⟨V',ω,row,v,d,h1,hR _ _ h2,h3⟩⟩
end Go.Vx
namespace Go.Proofs.YtaiondckookpiaaDoor
open Go Go.Vx
theorem drop_get{α:Type}{l:List α}{i:Nat}{x:α}(h:l[i]? = some x):l.drop i=x :: l.drop (i+1):=by
 obtain⟨hl,e⟩:=List.getElem?_eq_some_iff.1 h
 rw[List.drop_eq_getElem_cons hl,e]
end Go.Proofs.YtaiondckookpiaaDoor
namespace Go.Vx
open Go.RowKit
variable {P : Program} {T : Tab}
inductive Pk(box:List (List D)):D->D->Prop
 | i (k n):Pk box (.i k n) (.i k n)
 | s (l):Pk box (.s l) (.s l)
 | bp (i off cs) (h:box[i]? = some cs) (hg:∀ d ∈ cs.drop off,∃ k n,d = .i k n):Pk box (.bp i off) (.ep (cs.drop off))
theorem RS.i_ri{sz:TypeId->Nat}{V V':Vw}{μ:List Nat}{ω:List Value}{v:Value}{k:IntKind}{n:Int}(h:RS sz V μ ω v (.i k n)):RI sz V' v (.i k n)/\v.oneCell'=true:=by
 cases h with
 | imm _ _ h=>cases h;exact⟨.i _ _,rfl⟩
theorem effK.peek{s:St}{f:FuncId}{ds es:List D}{K:D->St->Prop}{R:D->Rows->Prop}(hl:es.length=ds.length)(hp:∀ (j:Nat) d e,ds[j]? = some d->es[j]? = some e->Pk s.box d e)(hf:FSpec P T f es R)
    (h:∀ d rows,R d rows->gRowsP rows/\boolP d.ownOrG2 (match s with
     | ⟨env,box,row,n⟩=>shiftD row.length d fun d=>catK row rows fun row=>K d ⟨env,box,row,n⟩)):effK P T s f ds K:=by
 refine⟨hf.call,fun w0 V0 V μ ω a w vs hS hvl hvR=>?_⟩
 have hri:∀ (j:Nat) v e,vs[j]? = some v->es[j]? = some e->RI (szOf T) (heapV w) v e:=by
  intro j v e h1 h2
  have hj:j<ds.length:=by rw[<- hl];exact (List.getElem?_eq_some_iff.1 h2).1
  have h3:=List.getElem?_eq_getElem hj
  have hr:=hvR j v _ h1 h3
  generalize ds[j]=d0 at h3 hr
  cases hp j _ e h3 h2 with
  | i k n=>exact hr.i_ri.1
  | s l=>cases hr with
   | imm _ _ hr=>cases hr;exact .s _
  | bp i off cs hb hg=>
   obtain⟨g,rfl,hμ⟩:∃ g,v = .pointer (some ⟨g,off,none⟩)/\μ[i]? = some g:=by
    cases hr with
    | imm _ _ hr=>cases hr
    | bp _ _ g h=>exact⟨g,rfl,h⟩
   obtain⟨us,t,hu,hs,ho,hR',_⟩:=hS.mem.hbox i g cs hμ hb
   have key:∀ (j:Nat) d,(cs.drop off)[j]? = some d->∃ hj:off+j<us.size,RI (szOf T) (heapV w) us[off+j] d/\us[off+j].oneCell'=true:=by
    intro j d hj
    have hj2:cs[off+j]? = some d:=by rw[List.getElem?_drop] at hj;exact hj
    have hlt:off+j<us.size:=by rw[hs];exact (List.getElem?_eq_some_iff.1 hj2).1
    obtain⟨k,n,rfl⟩:=hg d (List.mem_of_getElem? hj)
    exact⟨hlt,(hR' (off+j) us[off+j] _ (by simp[hlt]) hj2).i_ri⟩
   refine .ep _ ⟨g,off,none⟩ (fun j=>us.getD (off+j) undef) (fun j d hj=>?_) (fun j d hj=>?_)
   . obtain⟨hlt,h1,h2⟩:=key j d hj
     have hgd:us.getD (off+j) undef=us[off+j]:=by simp[Array.getD,hlt]
     rw[hgd]
     refine⟨?_,h2⟩
     have ha:(⟨g,off,none⟩:Addr).add j=⟨g,off+j,none⟩:=by cases j<;>simp[Addr.add]
     show w.cell? _=_
     rw[ha]
     simp[World.cell?,hu,hlt]
   . obtain⟨hlt,h1,h2⟩:=key j d hj
     have hgd:us.getD (off+j) undef=us[off+j]:=by simp[Array.getD,hlt]
     rw[hgd]
     exact h1
 have hcalls:=hf.run (heapV w) w vs.toArray (.heap hS.mem.vok.gl (Ext.refl w)) (by simp[hl,hvl]) (fun j v d h1 h2=>hri j v d (by simpa using h1) h2)
 refine hcalls.mono ?_
 rintro e w'' ⟨V',ω0,row0,v,d,rfl,hR,hrs,hres⟩
 obtain⟨hg,hk⟩:=h d row0 hR
 obtain⟨hd,hk⟩:=boolP_iff.1 hk
 have hres2:=hres.less hS.mem.vok hg
 have hrs2:=hrs.ownOrG2 (V':=fun p=>if p.block<w.heap.size then V p else V' p) hd
 obtain⟨env,box,row,n⟩:=s
 have hM:=hS.mem.call hres2
 have hl:row.length=ω.length:=hS.mem.rl.symm
 dsimp only at hk
 rw[hl] at hk
 obtain⟨d',hk,hr⟩:=shiftD_sound (μ:=μ) (ω':=ω++ω0) (VLe.refl _) (fun r u hu=>by rw[List.getElem?_append_right (by omega),Nat.add_sub_cancel];exact hu) hrs2 hk
 rw[catK_eq] at hk
 exact⟨v,d',_,_,μ,ω++ω0,rfl,hk,hr,⟨hS.tmps,hS.defers.ext hres2.below,fun t=>(hS.env t).mono hres2.le (.refl μ) (.append _ _),hM⟩,hres2.le,.refl _,.append _ _,fun q v hq=>by rw[hres2.below.cell (World.block_lt_of_cell? _ _ hq)];exact hq⟩
end Go.Vx
namespace Go.Vx
open Go.RowKit
def fen(ρ:Option Nat):Fence:={ Fence.wide with round:=ρ }
section
variable {P : Program} {T : Tab} {s : St} {Q : Exit → St → Prop} {w0 : World} {V0 : Fr}
theorem fen_room(ρ:Option Nat)(k:Nat):(fen ρ).room k:=fun _ h=>by cases h
theorem opIn_of{ρ:Option Nat}{o:Oper}{a:Act}{w:World}{next:Act->World->Prop}{R:Exit->Act->World->Prop}(h:o.wp P a w next R)(hd:∀ c,o.op ≠ .defer c):o.wpIn (fen ρ) 0 P a w next R:=by
 refine⟨fun _ _=>trivial,?_⟩
 show o.uponIn (fen ρ) 0 P a next R ((o.semAt ρ a.eval).run P w)
 rw[Oper.semAt_eq ρ _ _ hd]
 unfold Oper.wp at h
 generalize (execOp a.eval o).run P w=r at h
 unfold Oper.upon at h
 unfold Oper.uponIn
 split at h
 . exact h
 . exact h
 . exact h
 . refine⟨(fun hh=>by cases hh),?_⟩
   exact (callsIn_wide (n:=0)).2 h
 . refine⟨(fun hh=>by cases hh),?_⟩
   intro c cs _
   obtain⟨v,w',hr,hs⟩:=h c cs
   exact⟨v,w',hr,stepsIn_wide.2 hs⟩
 . exact h
 . exact h.elim
theorem vop_nodefer{o:Oper}{K:D->St->Prop}(h:vop P T s o K):∀ c,o.op ≠ .defer c:=by
 intro c hc
 unfold vop at h
 rw[hc] at h
 dsimp only at h
 unfold qop at h
 rw[hc] at h
 exact h
theorem vopsIn_sound(hT:TOk P T){ρ:Option Nat}{ops:List Oper}{R:Exit->Act->World->Prop}:∀ (rest:List Oper) (s:St) (V:Vw) (μ:List Nat) (ω:List Value) (a:Act) (w:World) (K:St->Prop),Sim (szOf T) w0 V0 V μ ω s a w ->
    vops P T ops rest s K->(∀ s V μ ω a w,K s->Sim (szOf T) w0 V0 V μ ω s a w->R .normal a w)->wpListIn (fen ρ) 0 P ops.toArray R rest a w
 | [],s,V,μ,ω,a,w,K,hS,h,hq=>hq s V μ ω a w h hS
 | o :: rest,s,V,μ,ω,a,w,K,hS,h,hq=>by
  simp only[vops] at h
  unfold wpListIn
  rcases wantK_sound hS h with⟨hw,s1,h,hS⟩|⟨hw,s1,h,hS⟩
  . rw[if_pos hw]
    refine opIn_of (vop_sound hT hS h _ _ fun d v s2 V2 μ2 ω2 w2 hk hr hS2 _=>?_) (vop_nodefer h)
    obtain⟨s3,h,hS3⟩:=putK_sound hS2 hr hk
    exact vopsIn_sound hT rest s3 _ _ _ _ _ K hS3 h hq
  . rw[if_neg (by rw[hw];simp)]
    obtain⟨s3,h,hS3⟩:=putK_sound hS (v:=undef) (d:=.tup []) (RS.tup [] #[] rfl (fun j v d h=>by simp at h)) h
    exact⟨fun _ _=>trivial,vopsIn_sound hT rest s3 _ _ _ _ _ K hS3 h hq⟩
theorem vopsCutIn_sound(hT:TOk P T){ρ:Option Nat}{ops:List Oper}{R:Exit->Act->World->Prop}:∀ (n:Nat) (rest:List Oper) (s:St) (V:Vw) (μ:List Nat) (ω:List Value) (a:Act) (w:World) (K:Oper->St->Prop),Sim (szOf T) w0 V0 V μ ω s a w ->
    vopsCut P T ops n rest s K->(∀ o r s V μ ω a w,rest.drop n=o :: r->K o s->Sim (szOf T) w0 V0 V μ ω s a w->wpListIn (fen ρ) 0 P ops.toArray R (o :: r) a w)->wpListIn (fen ρ) 0 P ops.toArray R rest a w
 | 0,[],_,_,_,_,_,_,_,_,h,_=>by simp[vopsCut] at h
 | _+1,[],_,_,_,_,_,_,_,_,h,_=>by simp[vopsCut] at h
 | 0,o :: rest,s,V,μ,ω,a,w,K,hS,h,hq=>hq o rest s V μ ω a w rfl h hS
 | n+1,o :: rest,s,V,μ,ω,a,w,K,hS,h,hq=>by
  simp only[vopsCut] at h
  unfold wpListIn
  rcases wantK_sound hS h with⟨hw,s1,h,hS⟩|⟨hw,s1,h,hS⟩
  . rw[if_pos hw]
    refine opIn_of (vop_sound hT hS h _ _ fun d v s2 V2 μ2 ω2 w2 hk hr hS2 _=>?_) (vop_nodefer h)
    obtain⟨s3,h,hS3⟩:=putK_sound hS2 hr hk
    exact vopsCutIn_sound hT n rest s3 _ _ _ _ _ K hS3 h hq
  . rw[if_neg (by rw[hw];simp)]
    obtain⟨s3,h,hS3⟩:=putK_sound hS (v:=undef) (d:=.tup []) (RS.tup [] #[] rfl (fun j v d h=>by simp at h)) h
    exact⟨fun _ _=>trivial,vopsCutIn_sound hT n rest s3 _ _ _ _ _ K hS3 h hq⟩
structure OkR(P:Program)(T:Tab)(c:Code)(Q:Exit->St->Prop)(s:St):Prop where
 run:∀ (l:Nat) (w0:World) (V0:Fr) (V:Vw) (μ:List Nat) (ω:List Value) (a:Act) (w:World),(∃ r0,(l,Obj.loop r0) ∈ V0.kp)->Sim (szOf T) w0 V0 V μ ω s a w ->
  c.wpIn (fen (some l)) 0 P (fun e a' w'=>∃ s' V' μ' ω',Q e s'/\Sim (szOf T) w0 V0 V' μ' ω' s' a' w') a w
theorem OkR.mono{c:Code}{Q':Exit->St->Prop}(h:OkR P T c Q s)(hq:∀ e s,Q e s->Q' e s):OkR P T c Q' s:=by
 refine⟨fun l w0 V0 V μ ω a w hl hS=>wpIn_mono (h.run l w0 V0 V μ ω a w hl hS) ?_⟩
 rintro e a' w' ⟨s',V',μ',ω',hk,hS'⟩
 exact⟨s',V',μ',ω',hq _ _ hk,hS'⟩
theorem OkR.region(hT:TOk P T){id:Nat}{l:List Oper}(h:vops P T l l s (Q .normal)):OkR P T (.region id l.toArray false) Q s:=
 ⟨fun _ w0 V0 V μ ω a w _ hS=>wpIn_region_lit (vopsIn_sound hT l s V μ ω a w _ hS h fun s' V' μ' ω' a' w' hk hS'=>⟨s',V',μ',ω',hk,hS'⟩)⟩
theorem OkR.seq{x y:Code}(h:OkR P T x (thenQ (OkR P T y Q) Q) s):OkR P T (.seq x y) Q s:=by
 refine⟨fun l w0 V0 V μ ω a w hl hS=>wpIn_seq (wpIn_mono (h.run l w0 V0 V μ ω a w hl hS) ?_)⟩
 rintro e a' w' ⟨s',V',μ',ω',hk,hS'⟩
 cases e with
 | normal=>exact OkR.run hk l w0 V0 V' μ' ω' a' w' hl hS'
 | _=>exact⟨s',V',μ',ω',hk,hS'⟩
theorem OkR.skip(h:Q .normal s):OkR P T .skip Q s:=⟨fun _ _ _ V μ ω _ _ _ hS=>wpIn_skip ⟨s,V,μ,ω,h,hS⟩⟩
theorem OkR.ret(h:Q .ret s):OkR P T .ret Q s:=⟨fun _ _ _ V μ ω _ _ _ hS=>wpIn_ret ⟨s,V,μ,ω,h,hS⟩⟩
theorem OkR.exit{id:Nat}(h:Q (.exit id) s):OkR P T (.exit id) Q s:=⟨fun _ _ _ V μ ω _ _ _ hS=>wpIn_exit ⟨s,V,μ,ω,h,hS⟩⟩
theorem OkR.block{id:Nat}{c:Code}(h:OkR P T c (blockQ id Q) s):OkR P T (.block id c) Q s:=by
 refine⟨fun l w0 V0 V μ ω a w hl hS=>wpIn_block (wpIn_mono (h.run l w0 V0 V μ ω a w hl hS) ?_)⟩
 rintro e a' w' ⟨s',V',μ',ω',hk,hS'⟩
 cases e with
 | exit id'=>
  simp only[blockQ] at hk
  simp only[Exit.inBlock]
  split at hk
  . rename_i hb
    rw[if_pos (beq_nat_true hb)]
    exact⟨s',V',μ',ω',hk,hS'⟩
  . rename_i hb
    rw[if_neg (by rintro rfl;rw[Nat.beq_refl] at hb;cases hb)]
    exact⟨s',V',μ',ω',hk,hS'⟩
 | _=>exact⟨s',V',μ',ω',hk,hS'⟩
theorem OkR.cond{c:Operand}{x y:Code}(h:condK s c (OkR P T x Q) (OkR P T y Q)):OkR P T (.cond c x y) Q s:=by
 refine⟨fun l w0 V0 V μ ω a w hl hS=>?_⟩
 have hc:=hS.get c
 unfold condK at h
 split at h
 . rename_i hd;rw[hd] at hc;exact wpIn_cond_true hc.tt_ (h.run l w0 V0 V μ ω a w hl hS)
 . rename_i hd;rw[hd] at hc;exact wpIn_cond_false hc.ff_ (h.run l w0 V0 V μ ω a w hl hS)
 . rename_i p hd
   rw[hd] at hc
   obtain⟨b,hb,hbp⟩:=hc.bool
   cases b with
   | true=>exact wpIn_cond_true hb ((h.1 (hbp.1 rfl)).run l w0 V0 V μ ω a w hl (hS.know c (by rw[hb];exact .imm _ _ .tt)))
   | false=>exact wpIn_cond_false hb ((h.2 (fun hp=>by simpa using hbp.2 hp)).run l w0 V0 V μ ω a w hl (hS.know c (by rw[hb];exact .imm _ _ .ff)))
 . exact h.elim
theorem OkR.region_throw{id t1 t2 n:Nat}{ty:TypeId}{env:List (Nat × D)}{box:List (List D)}{row:Rows}{y1 y2 y3:TypeId}{p1 p2 p3:String}{a1 a2 a3:Array Edge}
    (hb:∀ w,(Instr.build ty #[]).run P w = .ok (.agg #[]) w)(hc:P.concrete ty=true)(h1:t1<n)(h2:t2<n)
    (h:Q (.panic [{ v:=.iface ty (.agg #[]),recovered:=false }]) ⟨(t2,.u) :: (t1,.u) :: env,box,row,n⟩) :
    OkR P T (.region id #[⟨some t1,.build ty #[],y1,p1,a1,none⟩,⟨some t2,.makeInterface ty (.tmp t1),y2,p2,a2,none⟩,⟨none,.panic (.tmp t2),y3,p3,a3,none⟩] false) Q ⟨env,box,row,n⟩:=by
 refine⟨fun l w0 V0 V μ ω a w hl hS=>wpIn_region_lit ?_⟩
 have hsz:a.tmps.size=n:=hS.tmps
 have ps:∀ {a:Act} {t:Nat} {v:Value},t<a.tmps.size->(a.put (some t) v).eval (.tmp t)=v:=fun h=>by simp[Act.put,Act.eval,Array.getD,h]
 unfold wpListIn
 rw[if_pos (by simp[Region.wanted])]
 refine opIn_of ?_ (by intro c;simp)
 unfold Oper.wp
 have r1:(execOp a.eval ⟨some t1,.build ty #[],y1,p1,a1,none⟩).run P w = .ok (.value (.agg #[])) w:=by
  simp only[execOp,Sem.run_bind,Array.map_empty,List.map_toArray,List.map_nil,hb,Result.andThen_ok,Sem.run_pure]
 rw[r1]
 show wpListIn _ _ P _ _ [_,_] (a.put (some t1) _) w
 unfold wpListIn
 rw[if_pos (by simp[Region.wanted])]
 refine opIn_of ?_ (by intro c;simp)
 unfold Oper.wp
 have r2:(execOp (a.put (some t1) (.agg #[])).eval ⟨some t2,.makeInterface ty (.tmp t1),y2,p2,a2,none⟩).run P w = .ok (.value (.iface ty (.agg #[]))) w:=by
  simp only[execOp,ps (a:=a) (t:=t1) (v:=.agg #[]) (by omega),Sem.run_bind,run_makeInterface w ty _ hc,Result.andThen_ok,Sem.run_pure]
 rw[r2]
 show wpListIn _ _ P _ _ [_] ((a.put (some t1) _).put (some t2) _) w
 unfold wpListIn
 rw[if_pos (by simp[Region.wanted])]
 refine opIn_of ?_ (by intro c;simp)
 unfold Oper.wp
 have r3:(execOp ((a.put (some t1) (.agg #[])).put (some t2) (.iface ty (.agg #[]))).eval ⟨none,.panic (.tmp t2),y3,p3,a3,none⟩).run P w = .halt (.panic (.iface ty (.agg #[]))) w:=by
  have e:((a.put (some t1) (.agg #[])).put (some t2) (.iface ty (.agg #[]))).eval (.tmp t2) = .iface ty (.agg #[]):=ps (by simp[Act.put];omega)
  simp[execOp,e,Instr.panic,goPanic]
 rw[r3]
 exact⟨_,V,μ,ω,h,(hS.put h1 (.imm _ _ (.u _))).put h2 (.imm _ _ (.u _))⟩
end
end Go.Vx
namespace Go.Vx
open Go.RowKit
section
variable {P : Program} {T : Tab}
def wpG(P:Program)(G:FuncId->Prop)(c:Code)(Q:Exit->Act->World->Prop)(a:Act)(w:World):Prop:=
 ∀ (b:Frame) (k:List Item) (cs:List Frame),G b.fn->∃ e a' w',Q e a' w'/\Arrives P (lone (b.at a (.code c :: k)) cs w) b k cs e a' w'
variable {G : FuncId → Prop} {Q : Exit → Act → World → Prop} {a : Act} {w : World}
theorem wpG_of{c:Code}(h:c.wp P Q a w):wpG P G c Q a w:=fun b k cs _=>h b k cs
theorem wpG_mono{c:Code}{Q':Exit->Act->World->Prop}(h:wpG P G c Q a w)(hq:∀ e a w,Q e a w->Q' e a w):wpG P G c Q' a w:=
 fun b k cs hG=>let ⟨e,a',w',q,r⟩:=h b k cs hG;⟨e,a',w',hq _ _ _ q,r⟩
theorem wpG_seq{x y:Code}(h:wpG P G x (Exit.then (wpG P G y Q) Q) a w):wpG P G (Code.seq x y) Q a w:=by
 intro b k cs hG
 obtain⟨e,a₁,w₁,hq,harr⟩:=h b (.code y :: k) cs hG
 cases e with
 | normal=>
  obtain⟨e₂,a₂,w₂,hq₂,harr₂⟩:=hq b k cs hG
  exact⟨e₂,a₂,w₂,hq₂,.of_steps (.head step_seq harr) harr₂⟩
 | exit id=>exact⟨_,a₁,w₁,hq,.of_steps (.one step_seq) (.pass (x:=.code y) rfl (fun _ _=>.inl (by simp)) harr)⟩
 | goto l=>exact⟨_,a₁,w₁,hq,.of_steps (.one step_seq) (.pass (x:=.code y) rfl (fun _ _=>.inl (by simp)) harr)⟩
 | ret=>exact⟨_,a₁,w₁,hq,.of_steps (.one step_seq) (.pass (x:=.code y) rfl (fun _ _=>.inl (by simp)) harr)⟩
 | panic ch=>exact⟨_,a₁,w₁,hq,.of_steps (.one step_seq) (.pass (x:=.code y) rfl (fun _ _=>.inl (by simp)) harr)⟩
 | outgrown=>exact⟨_,a₁,w₁,hq,.of_steps (.one step_seq) (.pass (x:=.code y) rfl (fun _ _=>.inl (by simp)) harr)⟩
theorem wpG_block{id:Nat}{c:Code}(h:wpG P G c (Exit.inBlock id Q) a w):wpG P G (Code.block id c) Q a w:=by
 intro b k cs hG
 obtain⟨e,a₁,w₁,hq,harr⟩:=h b (.inBlock id :: k) cs hG
 cases e with
 | normal=>exact⟨.normal,a₁,w₁,hq,.head step_block (Steps.trans harr (.one step_inBlock))⟩
 | exit id'=>
  by_cases hid:id'=id
  . simp only[Exit.inBlock,hid,if_true] at hq
    exact⟨.normal,a₁,w₁,hq,.head step_block (harr k (by simp[exitTo,hid]))⟩
  . simp only[Exit.inBlock,hid,if_false] at hq
    refine⟨.exit id',a₁,w₁,hq,fun k' hk=>.head step_block (harr k' ?_)⟩
    have:(id == id')=false:=by simp;exact fun h=>hid h.symm
    simp[exitTo,this,hk]
 | goto l=>exact⟨_,a₁,w₁,hq,fun k' hk=>.head step_block (harr k' (by simp[gotoIn,hk]))⟩
 | ret=>exact⟨_,a₁,w₁,hq,.of_steps (.one step_block) harr⟩
 | panic ch=>exact⟨_,a₁,w₁,hq,.of_steps (.one step_block) harr⟩
 | outgrown=>exact⟨_,a₁,w₁,hq,.of_steps (b:=b) (k:=k) (cs:=cs) (e:=.outgrown) (.one step_block) harr⟩
theorem calls_of_wpG{f:FuncId}{fn:Func}{c:Code}{args:Array Value}{w:World}{R:Ending->World->Prop}(hf:P.funcs[f]? = some fn)(hb:fn.body=some c)(hG:G f)
    (h:wpG P G c (bodyPostX P fn R) { tmps:=args++Array.replicate (fn.ntmps - args.size) undef,defers:=[] } w):Calls P f args w R:=by
 intro cs
 let b:Frame:={ (default:Frame) with fn:=f,kind:=.normal }
 have henter:Frame.enter P f args .normal =
     b.at { tmps:=args++Array.replicate (fn.ntmps - args.size) undef,defers:=[] } [.code c]:=by
  simp[Frame.enter,Frame.at,hf,hb,b]
 obtain⟨e,a',w',hq,harr⟩:=h b [] cs hG
 rw[<- henter] at harr
 cases e with
 | normal=>
  obtain⟨e',w'',fr',hR,hs,hfn,hl⟩:=leaves_stepsX a'.defers .returning w' { b.at a' [] with mode:=.returning } cs rfl rfl rfl hf rfl hq
  exact⟨e',w'',fr',hR,Comes.of_steps (Steps.trans harr (.one step_end)) hs,hfn,hl⟩
 | ret=>
  obtain⟨todo,hs₀⟩:=harr
  obtain⟨e',w'',fr',hR,hs,hfn,hl⟩:=leaves_stepsX a'.defers .returning w' { b.at a' todo with mode:=.returning } cs rfl rfl rfl hf rfl hq
  exact⟨e',w'',fr',hR,Comes.of_steps hs₀ hs,hfn,hl⟩
 | panic chain=>
  obtain⟨todo,hs₀⟩:=harr
  obtain⟨e',w'',fr',hR,hs,hfn,hl⟩:=leaves_stepsX a'.defers (.panicking chain) w' { b.at a' todo with mode:=.panicking chain } cs rfl rfl rfl hf rfl hq
  exact⟨e',w'',fr',hR,Comes.of_steps hs₀ hs,hfn,hl⟩
 | exit id=>exact hq.elim
 | goto l=>exact hq.elim
 | outgrown=>exact⟨.outgrown,w',b,hq,harr.resolve_left (by simp[b]),rfl,trivial⟩
def rangePostG(P:Program)(G:FuncId->Prop)(l:Nat)(Q:Exit->Act->World->Prop)(a':Act):Ending->World->Prop
 | .returned _,w₃=>∃ jump w₄,(Instr.endLoop l).run P w₃ = .ok jump w₄ /\
     (match jump with
      | none=>Q .normal a' w₄
      | some c=>wpG P G c Q a' w₄)
 | .panicked chain,w₃=>Q (.panic chain) a' w₃
 | .outgrown,_=>False
theorem wpG_rangeFunc{g:Operand}{ps:Array Tmp}{assign body:Code}
    (h:∀ fn,G fn->∃ (l:Nat) (mark:List Deferred) (w₁:World) (d:Deferred) (w₁':World) (f:FuncId) (args:Array Value) (w₂:World),
     (Instr.enterLoop fn a.tmps ps assign body none).run P w = .ok (l,mark) w₁ /\
     (resolve a.eval (rangeCall g l) 0).run P w₁ = .ok d w₁' /\
     (invoke d.target d.args).run P w₁' = .ok (.enter f args) w₂ /\
     Calls P f args w₂ (rangePostG P G l Q { a with defers:=mark++a.defers })) :
    wpG P G (Code.rangeFunc g ps assign body) Q a w:=by
 intro b k cs hG
 obtain⟨l,mark,w₁,d,w₁',f,args,w₂,he,hres,hinv,hcall⟩:=h b.fn hG
 obtain⟨b0,hb0⟩:∃ b0:Frame,b0={ b with roundOf:=none }:=⟨_,rfl⟩
 have hr0:b0.roundOf=none:=by rw[hb0]
 have hat:∀ a k,b0.atR a k=b.at a k:=fun a k=>by rw[Frame.atR_of_none hr0,hb0];rfl
 have henter:=stepR_rangeFunc (P:=P) (b:=b0) (a:=a) (k:=k) (cs:=cs) (w:=w) (by rw[hr0,hb0];exact he) hres hinv
 obtain⟨e,w₃,fr,hR,hsteps,hfn,hleave⟩:=hcall (b0.atR { a with defers:=mark++a.defers } (.inRangeFunc l :: k) :: cs)
 rw[hat] at henter
 cases e with
 | outgrown=>exact hR.elim
 | returned v=>
  obtain⟨jump,w₄,hend,hj⟩:=hR
  have sback:Steps P (lone (b.at a (.code (.rangeFunc g ps assign body) :: k)) cs w) (lone (b.at { a with defers:=mark++a.defers } ((jump.map Item.code).toList++k)) cs w₄):=by
   have s2:step P (lone fr (b0.atR { a with defers:=mark++a.defers } (.inRangeFunc l :: k) :: cs) w₃) = .next (lone (b0.atR { a with defers:=mark++a.defers } (.endRangeFunc l :: k)) cs w₃):=by
    rw[<- finish_atR_inRangeFunc l v];exact step_leave_returned hleave
   have s3:=stepR_endRangeFunc (P:=P) (b:=b0) (a:={ a with defers:=mark++a.defers }) (k:=k) (cs:=cs) hend
   rw[hat _ ((jump.map Item.code).toList++k)] at s3
   exact .head henter (Steps.trans hsteps (.head s2 (.one s3)))
  cases jump with
  | none=>exact⟨.normal,_,w₄,hj,sback⟩
  | some c=>
   obtain⟨e',a'',w₅,hq,harr⟩:=hj b k cs hG
   exact⟨e',a'',w₅,hq,.of_steps sback harr⟩
 | panicked chain=>
  refine⟨.panic chain,_,w₃,hR,.inRangeFunc l :: k,.head henter (Steps.trans hsteps (.one ?_))⟩
  have:=step_leave_panicked (P:=P) (c:=b0.atR { a with defers:=mark++a.defers } (.inRangeFunc l :: k)) (cs:=cs) hleave
  rw[Frame.raise_atR,hat] at this
  rw[hat]
  exact this
def roundPostV(P:Program)(l:Nat)(f:FuncId)(R:Ending->World->Prop):Exit->Act->World->Prop
 | .panic ch,a,w=>∃ fn,P.funcs[f]? = some fn/\LeavesX P fn a.tmps (fun e w'=>e = .panicked ch/\R e w') a.defers (.panicking ch) w
 | .normal,_,w=>∃ v w',(Instr.endRound l none).run P w = .ok v w'/\R (.returned v) w'
 | .ret,_,w=>∃ v w',(Instr.endRound l (some .ret)).run P w = .ok v w'/\R (.returned v) w'
 | .exit id,_,w=>∃ v w',(Instr.endRound l (some (.exit id))).run P w = .ok v w'/\R (.returned v) w'
 | .goto _,_,_=>False
 | .outgrown,_,_=>False
theorem roundIn_of{l:Nat}{f:FuncId}{tmps:Array Value}{assign body:Code}{w:World}{R:Ending->World->Prop}
    (h:assign.wpIn (fen (some l)) 0 P (Exit.then (fun a₁ w₁=>∃ w₂,(Instr.beginRound l).run P w₁ = .ok () w₂/\body.wpIn (fen (some l)) 0 P (roundPostV P l f R) a₁ w₂) (fun _ _ _=>False))
     { tmps:=tmps,defers:=[] } w) :
    RoundIn Fence.wide 0 P l f tmps assign body w R:=by
 refine⟨trivial,fun c cs hr=>?_⟩
 let b:Frame:={ (default:Frame) with fn:=f,kind:=.normal,roundOf:=some l }
 have hb0:Frame.round l f tmps assign body .normal=b.atR { tmps:=tmps,defers:=[] } [.code assign,.beginRound,.code body]:=by
  simp[Frame.round,Frame.atR,b]
 obtain⟨e,a₁,w₁,hq,harr⟩:=h b [.beginRound,.code body] (c :: cs) rfl trivial (fen_room _ _)
 rw[<- hb0] at harr
 have w_:∀ {m m'},StepsIn (Machine.fenced P (fen (some l))) P m m'->Steps P m m':=fun h=>h.steps
 cases e with
 | normal=>
  obtain⟨w₂,hbr,hbody⟩:=hq
  have s1:Steps P (lone (b.atR a₁ [.beginRound,.code body]) (c :: cs) w₁) (lone (b.atR a₁ [.code body]) (c :: cs) w₂):=.one (stepR_beginRound rfl hbr)
  obtain⟨e₂,a₂,w₃,hq₂,harr₂⟩:=hbody b [] (c :: cs) rfl trivial (fen_room _ _)
  cases e₂ with
  | normal=>
   obtain⟨v,w₄,hend,hR⟩:=hq₂
   exact⟨.returned v,w₄,hR,comesIn_wide.2 (((w_ harr).trans s1).trans ((w_ harr₂).trans (.one (stepR_round_end rfl rfl hend))))⟩
  | ret=>
   obtain⟨v,w₄,hend,hR⟩:=hq₂
   obtain⟨k₁,hs⟩:=harr₂.2 rfl
   exact⟨.returned v,w₄,hR,comesIn_wide.2 (((w_ harr).trans s1).trans ((w_ hs).trans (.one (stepR_round_ret rfl rfl hend))))⟩
  | exit id=>
   obtain⟨v,w₄,hend,hR⟩:=hq₂
   obtain⟨k₁,hk,hs⟩:=harr₂.2 rfl rfl
   exact⟨.returned v,w₄,hR,comesIn_wide.2 (((w_ harr).trans s1).trans ((w_ hs).trans (.one (stepR_round_exit rfl rfl hk hend))))⟩
  | goto t=>exact hq₂.elim
  | panic chain=>
   obtain⟨fn,hfn,hl⟩:=hq₂
   obtain⟨todo,hs⟩:=harr₂
   obtain⟨e',w'',fr',⟨he',hR'⟩,hs',hfn',hl'⟩:=leaves_stepsX a₂.defers (.panicking chain) w₃ { b.atR a₂ todo with mode:=.panicking chain } (c :: cs) rfl rfl rfl hfn rfl hl
   subst he'
   exact⟨.panicked chain,w'',hR',comesIn_wide.2 (((w_ harr).trans s1).trans ((w_ hs).trans (Steps.trans hs' (.one (step_leave_panicked hl')))))⟩
  | outgrown=>exact hq₂.elim
 | exit id=>exact hq.elim
 | goto l=>exact hq.elim
 | ret=>exact hq.elim
 | panic chain=>exact hq.elim
 | outgrown=>exact hq.elim
end
end Go.Vx
namespace Go.Vx
open Go.RowKit
section
variable {P : Program} {T : Tab}
structure Yields(P:Program)(T:Tab)(l B:Nat)(xs:List (List D))(J:Option Nat->Vw->World->Prop)(Jp:List PanicEntry->World->Prop):Prop where
 vok:∀ k V W,J k V W->VOk V W
 size:∀ k V W,J k V W->B<=W.heap.size
 grow:∀ k V V' W W',J k V W->Ext W W'->VLe V V'->VOk V' W'->(∀ p v,V' p=some v->V p=some v\/W.heap.size<=p.block)->J k V' W'
 shut:∀ k V W D,J k V W->B<=D->W.heap[D]? = some (.deferred (some []))->J k V (W.putObj D (.deferred none))
 shutp:∀ c W D,Jp c W->B<=D->W.heap[D]? = some (.deferred (some []))->Jp c (W.putObj D (.deferred none))
 round:∀ (k:Nat) x V W (vs:List Value),xs[k]? = some x->J (some k) V W->vs.length=x.length->(∀ (j:Nat) v d,vs[j]? = some v->x[j]? = some d->RI (szOf T) V v d) ->
  ∀ E:List (Nat × Obj),(∀ x ∈ E,B<=x.1/\W.heap[x.1]? = some x.2/\noC x.2) ->
  ∃ fn tmps assign body,(Instr.yield l vs.toArray).run P W = .ok (.round l fn tmps assign body) W /\
   RoundIn Fence.wide 0 P l fn tmps assign body W fun e W'=>(∀ x ∈ E,W'.heap[x.1]? = some x.2) /\
    ((∃ V',VLe V V'/\((e = .returned (.bool true)/\J (some (k+1)) V' W')\/(e = .returned (.bool false)/\J none V' W')))\/∃ c,e = .panicked c/\Jp c W')
structure YSpec(P:Program)(T:Tab)(f:FuncId)(cap:List D)(xs:List (List D)):Prop where
 call:∀ args w,(callFunc f args).run P w = .ok (.enter f args) w
 run:∀ (V:Vw) (w:World) (args:Array Value),args.size=cap.length->(∀ (j:Nat) v d,args[j]? = some v->cap[j]? = some d->RI (szOf T) V v d) ->
  ∀ l J Jp,Yields P T l w.heap.size xs J Jp->J (some 0) V w ->
  Calls P f (#[.func (.yield l) #[] #[]]++args) w fun e w'=>((∃ v,e = .returned v)/\∃ V',J (some xs.length) V' w'\/J none V' w')\/∃ c,e = .panicked c/\Jp c w'
structure YSpecI(P:Program)(T:Tab)(f:FuncId)(cap:List D)(xs:List (List D))(I:Nat->Prop):Prop where
 call:∀ args w,(callFunc f args).run P w = .ok (.enter f args) w
 run:∀ (V:Vw) (w:World) (args:Array Value),args.size=cap.length->(∀ (j:Nat) v d,args[j]? = some v->cap[j]? = some d->RI (szOf T) V v d) ->
  ∀ l J Jp,Yields P T l w.heap.size xs J Jp->(∀ k V W,J (some k) V W->I k)->J (some 0) V w ->
  Calls P f (#[.func (.yield l) #[] #[]]++args) w fun e w'=>((∃ v,e = .returned v)/\∃ V',J (some xs.length) V' w'\/J none V' w')\/∃ c,e = .panicked c/\Jp c w'
theorem YSpec.toI{f:FuncId}{cap:List D}{xs:List (List D)}(h:YSpec P T f cap xs)(I:Nat->Prop):YSpecI P T f cap xs I:=⟨h.call,fun V w args a b l J Jp hY _ hJ=>h.run V w args a b l J Jp hY hJ⟩
variable {w0 w w' : World} {V V' : Vw} {μ : List Nat} {ω : List Value} {box : List (List D)} {row : Rows} {s : St} {a : Act} {sz : TypeId → Nat}
theorem Mem.grow{F:Fr}(h:Mem sz w0 F V μ ω box row w)(he:Ext w w')(hV:VLe V V')(hok:VOk V' w')(hn:∀ p v,V' p=some v->V p=some v\/w.heap.size<=p.block):Mem sz w0 F V' μ ω box row w':=by
 have h1:=h.ext he
 refine⟨h1.below,hok,fun p v hp=>hV p v (h.vle p v hp),fun p hp=>?_,h1.bl,fun i g cs a b=>?_,h1.rl,fun r v e xs a b=>?_,h1.uniq,h1.new,fun p u l hp ho=>?_,fun x hx=>let ⟨a,b,c,d,e⟩:=h1.away x hx;⟨a,b,c,fun p u hp hb=>(hn p u hp).elim (fun hq=>d p u hq hb) (fun hq=>by have:=(Array.getElem?_eq_some_iff.1 (h.away x hx).1).1;omega),e⟩⟩
 . rw[<- h.vold p hp]
   cases hv:V' p with
   | none=>
    cases hv2:V p with
    | none=>rfl
    | some u=>rw[hV p u hv2] at hv;cases hv
   | some u=>
    rcases hn p u hv with hq|hq
    . exact hq.symm
    . have:=h.below.size;omega
 . obtain⟨vs,t,c1,c2,c3,c4,c5⟩:=h1.hbox i g cs a b
   exact⟨vs,t,c1,c2,c3,fun j v d e1 e2=>(c4 j v d e1 e2).mono hV (.refl _) (.refl _),c5⟩
 . obtain⟨vals,c1,c2,c3,c4⟩:=h1.hrow r v e xs a b
   exact⟨vals,c1,c2,c3,fun i rw j d e1 e2=>let ⟨u,x1,x2⟩:=c4 i rw j d e1 e2;⟨u,x1,x2.mono hV⟩⟩
 . have hg:=(h.new l p.block ho).2
   rcases hn p u hp with hq|hq
   . exact h.vmut p u l hq ho
   . omega
theorem Sim.grow{F:Fr}(h:Sim sz w0 F V μ ω s a w)(he:Ext w w')(hV:VLe V V')(hok:VOk V' w')(hn:∀ p v,V' p=some v->V p=some v\/w.heap.size<=p.block):Sim sz w0 F V' μ ω s a w':=
 ⟨h.tmps,h.defers.ext he,fun t=>(h.env t).mono hV (.refl _) (.refl _),h.mem.grow he hV hok hn⟩
theorem Sim.turn{V0:Vw}{kc:List (Nat × Obj)}{gv:Nat->Value}{df:List Deferred}{l:Nat}{o:Obj}{R:List (Nat × Obj)}(h:Sim sz w0 ⟨V0,gv,df,(l,o) :: R,kc⟩ V μ ω s a w)(o':Obj)(hR:∀ x ∈ R,x.1 ≠ l)(ho':noC o') :
    Sim sz w0 ⟨V0,gv,df,(l,o') :: R,kc⟩ V μ ω s a (w.putObj l o'):=by
 obtain⟨h1,h2,h3⟩:=h.defers.kept (l,o) (by simp)
 have hlt:l<w.heap.size:=(Array.getElem?_eq_some_iff.1 h1).1
 refine⟨h.tmps,⟨?_,fun x hx=>?_⟩,h.env,(h.mem.putOther o' h1 h2 h3).fr rfl⟩
 . obtain⟨ms,e1,e2,e3⟩:=h.defers.marks
   refine⟨ms,e1,e2,fun D hD=>?_⟩
   obtain⟨k1,k2,k3⟩:=e3 D hD
   have hne:l ≠ D:=k3 (l,o) (by simp)
   refine⟨(World.putObj_heap_other (Ne.symm hne)).trans k1,k2,fun x hx=>?_⟩
   rcases List.mem_cons.1 hx with rfl|hx
   . exact hne
   . exact k3 x (List.mem_cons_of_mem _ hx)
 . rcases List.mem_cons.1 hx with rfl|hx
   . exact⟨World.putObj_heap_same hlt,ho',h3⟩
   . obtain⟨k1,k2⟩:=h.defers.kept x (List.mem_cons_of_mem _ hx)
     exact⟨(World.putObj_heap_other (hR x hx)).trans k1,k2⟩
theorem Sim.unkeep{V0:Vw}{kc:List (Nat × Obj)}{gv:Nat->Value}{df:List Deferred}{x:Nat × Obj}{R:List (Nat × Obj)}(h:Sim sz w0 ⟨V0,gv,df,x :: R,kc⟩ V μ ω s a w):Sim sz w0 ⟨V0,gv,df,R,kc⟩ V μ ω s a w:=by
 refine⟨h.tmps,⟨?_,fun y hy=>h.defers.kept y (List.mem_cons_of_mem _ hy)⟩,h.env,h.mem.fr rfl⟩
 obtain⟨ms,e1,e2,e3⟩:=h.defers.marks
 exact⟨ms,e1,e2,fun D hD=>⟨(e3 D hD).1,(e3 D hD).2.1,fun y hy=>(e3 D hD).2.2 y (List.mem_cons_of_mem _ hy)⟩⟩
theorem Sim.putOld{F:Fr}(h:Sim sz w0 F V μ ω s a w){D:Nat}{o:Obj}(o':Obj)(hD:w.heap[D]? = some o)(hn:noC o)(hb:w0.heap.size<=D)(hk:∀ x ∈ F.kp,x.1 ≠ D)(hm:∀ ms:List Nat,a.defers=ms.map mkD++F.df->D ∉ ms) :
    Sim sz w0 F V μ ω s a (w.putObj D o'):=by
 refine⟨h.tmps,⟨?_,fun x hx=>⟨(World.putObj_heap_other (hk x hx)).trans (h.defers.kept x hx).1,(h.defers.kept x hx).2⟩⟩,h.env,h.mem.putOther o' hD hn hb⟩
 obtain⟨ms,e1,e2,e3⟩:=h.defers.marks
 refine⟨ms,e1,e2,fun E hE=>⟨(World.putObj_heap_other (k:=E) (r:=D) fun e=>hm ms e1 (e ▸ hE)).trans (e3 E hE).1,(e3 E hE).2⟩⟩
theorem Mem.base{F F':Fr}(h:Mem sz w0 F V μ ω box row w)(h1:VLe F'.V F.V)(h2:∀ p,p.block<w0.heap.size->F.V p=F'.V p)(hc:∀ x ∈ F'.kc,x ∈ F.kc:=by exact fun _ h=>h):Mem sz w0 F' V μ ω box row w:=
 ⟨h.below,h.vok,fun p v hp=>h.vle p v (h1 p v hp),fun p hp=>(h.vold p hp).trans (h2 p hp),h.bl,h.hbox,h.rl,h.hrow,h.uniq,h.new,h.vmut,fun x hx=>h.away x (hc x hx)⟩
theorem Mem.rebase{F F':Fr}(h:Mem sz w0 F V μ ω box row w)(h1:F'.V=V)(hc:∀ x ∈ F'.kc,x ∈ F.kc:=by exact fun _ h=>h):Mem sz w0 F' V μ ω box row w:=
 ⟨h.below,h.vok,by rw[h1];exact fun _ _ h=>h,fun p _=>by rw[h1],h.bl,h.hbox,h.rl,h.hrow,h.uniq,h.new,h.vmut,fun x hx=>h.away x (hc x hx)⟩
def putPs:List Nat->List D->List (Nat × D)->(List (Nat × D)->Prop)->Prop
 | p :: ps,x :: xs,env,K=>x.force fun x=>putPs ps xs ((p,x) :: env) K
 | [],[],env,K=>K env
 | _,_,_,_=>False
def cutE(n:Nat):List (Nat × D)->(List (Nat × D)->Prop)->Prop
 | [],K=>K []
 | (t,d) :: r,K=>match Nat.blt t n with|true=>cutE n r fun r=>K ((t,d) :: r)|false=>cutE n r K
def inRoundK(ps:List Nat)(x:List D)(s:St)(K:St->Prop):Prop:=
 match s with
 | ⟨env,box,row,n⟩=>shE n env fun env2=>cutE n env fun env1=>catK env1 env2 fun env2=>putPs ps x env2 fun env2=>K ⟨env2,box,row,n⟩
def offRoundK(s:St)(K:St->Prop):Prop:=match s with|⟨env,box,row,n⟩=>unE n env fun env=>K ⟨env,box,row,n⟩
theorem cutE_eq(n:Nat):∀ (env:List (Nat × D)) (K:List (Nat × D)->Prop),cutE n env K->K (env.filter fun x=>x.1<n)
 | [],K,h=>h
 | (t,d) :: r,K,h=>by
  unfold cutE at h
  split at h
  . rename_i hb
    have:=cutE_eq n r _ h
    rw[List.filter_cons_of_pos (by simpa using blt_true hb)]
    exact this
  . rename_i hb
    have:=cutE_eq n r _ h
    rw[List.filter_cons_of_neg (by
     simp only[decide_eq_true_eq]
     intro hlt
     have:Nat.blt t n=true:=by unfold Nat.blt;rw[Nat.ble_eq];exact hlt
     rw[hb] at this
     cases this)]
    exact this
theorem look_filter(env:List (Nat × D))(n t:Nat):look (env.filter fun x=>x.1<n) t=if t<n then look env t else .u:=by
 induction env with
 | nil=>simp[look]
 | cons x r ih=>
  obtain⟨k,d⟩:=x
  by_cases hk:k<n
  . rw[List.filter_cons_of_pos (by simpa using hk)]
    unfold look
    cases hb:Nat.beq k t with
    | true=>
     have:=beq_nat_true hb
     subst this
     rw[if_pos hk]
    | false=>exact ih
  . rw[List.filter_cons_of_neg (by simpa using hk),ih]
    split
    . rename_i ht
      show look r t=(match Nat.beq k t with|true=>d|false=>look r t)
      cases hb:Nat.beq k t with
      | true=>have:=beq_nat_true hb;omega
      | false=>rfl
    . rfl
theorem putPs_sound{F:Fr}{n:Nat}:∀ (ps:List Nat) (x:List D) (env:List (Nat × D)) (a:Act) (vs:List Value) (K:List (Nat × D)->Prop),(∀ p ∈ ps,p<n)->a.tmps.size=n->vs.length=x.length->(∀ (j:Nat) v d,vs[j]? = some v->x[j]? = some d->RS sz V μ ω v d) ->
    (∀ t,RS sz V μ ω (slotV F n a t) (look env t))->putPs ps x env K ->
    ∃ env',K env'/\(List.foldl (fun tmps (x:Nat × Value)=>tmps.setIfInBounds x.1 x.2) a.tmps (ps.zip vs)).size=n/\∀ t,RS sz V μ ω (slotV F n { a with tmps:=List.foldl (fun tmps (x:Nat × Value)=>tmps.setIfInBounds x.1 x.2) a.tmps (ps.zip vs) } t) (look env' t)
 | [],[],env,a,vs,K,_,hn,hl,_,he,h=>by
  obtain rfl:vs=[]:=List.eq_nil_of_length_eq_zero hl
  exact⟨env,h,by simpa using hn,by simpa using he⟩
 | [],_ :: _,_,_,_,_,_,_,_,_,_,h=>h.elim
 | _ :: _,[],_,_,_,_,_,_,_,_,_,h=>h.elim
 | p :: ps,d :: x,env,a,v :: vs,K,hp,hn,hl,hR,he,h=>by
  simp only[putPs,D.force_eq] at h
  exact putPs_sound ps x ((p,d) :: env) (a.put (some p) v) vs K (fun q hq=>hp q (by simp[hq])) (by simpa[Act.put] using hn) (by simpa using hl) (fun j u e h1 h2=>hR (j+1) u e (by simpa using h1) (by simpa using h2))
   (fun t=>look_put hn (hp p (by simp)) (hR 0 v d rfl rfl) he) h
 | _ :: _,_ :: _,_,_,[],_,_,_,hl,_,_,_=>by simp at hl
theorem zip_fold(ps:Array Tmp)(vs:List Value)(A:Array Value):(ps.zip vs.toArray).foldl (fun tmps (t,a)=>tmps.setIfInBounds t a) A=List.foldl (fun tmps (x:Nat × Value)=>tmps.setIfInBounds x.1 x.2) A (ps.toList.zip vs):=by
 obtain⟨ps⟩:=ps
 simp[List.zip_toArray]
theorem look_round{env:List (Nat × D)}{n:Nat}{F F':Fr}{a:Act}(he:∀ t,RS sz V μ ω (slotV F n a t) (look env t))(hF:∀ t,F'.gv t=slotV F n a (t - n))(ds:List Deferred) :
    ∀ t,RS sz V μ ω (slotV F' n { tmps:=a.tmps,defers:=ds } t) (look (env.filter (fun x=>x.1<n)++env.map fun x=>(x.1+n,x.2)) t):=by
 intro t
 by_cases ht:t<n
 . have h1:=he t
   unfold slotV at h1 ⊢
   rw[if_pos ht] at h1 ⊢
   have h2:look (env.filter (fun x=>x.1<n)++env.map fun x=>(x.1+n,x.2)) t=look env t:=by
    by_cases hx:∃ x ∈ env.filter (fun x=>x.1<n),x.1=t
    . rw[look_append_in _ _ _ hx,look_filter,if_pos ht]
    . rw[look_append _ _ _ (fun x hm e=>hx ⟨x,hm,e⟩),look_shift_lt _ _ _ ht]
      have h3:=look_filter env n t
      rw[if_pos ht] at h3
      rw[<- h3]
      have:∀ l:List (Nat × D),(¬ ∃ x ∈ l,x.1=t)->look l t = .u:=by
       intro l
       induction l with
       | nil=>intro _;rfl
       | cons y r ih=>
        intro hno
        unfold look
        cases hb:Nat.beq y.1 t with
        | true=>exact absurd ⟨y,by simp,beq_nat_true hb⟩ hno
        | false=>exact ih fun⟨x,hm,e⟩=>hno ⟨x,by simp[hm],e⟩
      rw[this _ hx]
   rw[h2]
   exact h1
 . unfold slotV
   rw[if_neg ht,hF]
   rw[look_append _ _ _ (fun x hm=>by
    have:=(List.mem_filter.1 hm).2
    simp only[decide_eq_true_eq] at this
    omega)]
   have e2:t=(t - n)+n:=by omega
   rw[e2,look_shift,<- e2]
   exact he (t - n)
end
end Go.Vx
namespace Go.Vx
open Go.RowKit
theorem mkD_inj{l m:List Nat}(h:l.map mkD=m.map mkD):l=m:=by
 induction l generalizing m with
 | nil=>cases m with
  | nil=>rfl
  | cons _ _=>simp at h
 | cons x l ih=>cases m with
  | nil=>simp at h
  | cons y m=>
   simp only[List.map_cons,List.cons.injEq] at h
   obtain⟨h1,h2⟩:=h
   simp only[mkD,Deferred.mk.injEq,Target.collected.injEq,and_true] at h1
   rw[h1,ih h2]
section
variable {P : Program} {T : Tab} {G : FuncId → Prop} {Q : Exit → St → Prop}
def rndQ(P:Program)(G:FuncId->Prop)(Q:Exit->St->Prop)(L:List Nat)(nr nb:Nat)(s1:St)(p:Prop):Exit->St->Prop
 | .normal,s'=>p/\offRoundK s' fun s'=>keepK L nr nb s' (·=s1)
 | .ret,s'=>offRoundK s' (Q .ret)
 | .exit id,s'=>offRoundK s' (Q (.exit id))
 | .panic c,s'=>(∀ fn,G fn->(P.funcs[fn]?).isSome=true)/\offRoundK s' (Q (.panic c))
 | _,_=>False
theorem RS.fn_{sz:TypeId->Nat}{V:Vw}{μ:List Nat}{ω:List Value}{v:Value}{f:FuncId}{cap:List D}(h:RS sz V μ ω v (.fn f [] cap)):∃ us:Array Value,v = .func (.func f) #[] us/\us.size=cap.length/\∀ (j:Nat) v d,us[j]? = some v->cap[j]? = some d->RI sz V v d:=by
 cases h with
 | imm _ _ h=>
  cases h with
  | fn f first cap vs us h1 h2 hR1 hR2=>
   obtain rfl:vs=#[]:=Array.eq_empty_of_size_eq_zero h1
   exact⟨us,rfl,h2,hR2⟩
theorem Sim.offRound{sz:TypeId->Nat}{w0 w:World}{V0 V V':Vw}{gv:Nat->Value}{df:List Deferred}{kp kc:List (Nat × Obj)}{F:Fr}{μ:List Nat}{ω:List Value}{a a':Act}{n:Nat}{x:Nat × Obj}{msA:List Nat}{s':St}{K:St->Prop}
    (h:Sim sz w0 F V' μ ω s' a w)(hF:F.V=V)(hg:∀ t,F.gv t=slotV ⟨V0,gv,df,kp,kc⟩ n a' (t - n)){E:List (Nat × Obj)}(hk:F.kp=x :: (kp++keptOf msA++E))(hV:VLe V0 V)(hVo:∀ p,p.block<w0.heap.size->V p=V0 p)(hc:F.kc=kc)(hn:a'.tmps.size=n)
    (hd:a'.defers=msA.map mkD++df)(hm1:msA.Nodup)(hm2:∀ D ∈ msA,w0.heap.size<=D/\(∀ y ∈ kp,y.1 ≠ D)/\x.1 ≠ D)(hn2:s'.n=n)(hK:offRoundK s' K) :
    ∃ s2,K s2/\s2.n=n/\Sim sz w0 ⟨V0,gv,df,x :: kp,kc⟩ V' μ ω s2 a' w:=by
 obtain⟨env,box,row,m⟩:=s'
 dsimp only at hn2
 subst hn2
 simp only[offRoundK,unE_eq] at hK
 refine⟨_,hK,rfl,hn,⟨⟨msA,hd,hm1,fun D hD=>⟨?_,(hm2 D hD).1,fun y hy=>?_⟩⟩,fun y hy=>h.defers.kept y ?_⟩,fun t=>?_,h.mem.base (by rw[hF];exact hV) (by rw[hF];exact hVo) (by rw[hc];exact fun _ h=>h)⟩
 . exact (h.defers.kept (D,.deferred (some [])) (by rw[hk];exact List.mem_cons_of_mem _ (List.mem_append_left _ (List.mem_append_right _ (List.mem_map.2 ⟨D,hD,rfl⟩))))).1
 . rcases List.mem_cons.1 hy with rfl|hy
   . exact (hm2 D hD).2.2
   . exact (hm2 D hD).2.1 y hy
 . rw[hk]
   rcases List.mem_cons.1 hy with rfl|hy
   . simp
   . exact List.mem_cons_of_mem _ (List.mem_append_left _ (List.mem_append_left _ hy))
 . have:=h.env (t+m)
   unfold slotV at this
   dsimp only at this
   rw[if_neg (by omega),hg] at this
   dsimp only
   rw[look_unEF]
   have e3:t+m - m=t:=by omega
   rw[e3] at this
   exact this
theorem range_sound{s:St}{g:Operand}{ps:Array Tmp}{assign body:Code}{f:FuncId}{cap:List D}{xs:List (List D)}{n:Nat}(L:List Nat)(nr nb:Nat)(mk:Nat->St)(I:Nat->Prop)(hI:I 0)(hs:keepK L nr nb s (·=mk 0))(hg:(mk 0).get g = .fn f [] cap)
    (hY:YSpecI P T f cap xs I)(hmk:∀ k,(mk k).n=n)(hps:∀ p ∈ ps.toList,p<n)
    (round:∀ (k:Nat) x,xs[k]? = some x->I k->x.length=ps.size/\inRoundK ps.toList x (mk k) fun s1=>OkR P T assign (thenQ (fun s2=>OkR P T body (fun e s3=>s3.n=n/\rndQ P G Q L nr nb (mk (k+1)) (I (k+1)) e s3) s2) (fun _ _=>False)) s1)
    (done:I xs.length->Q .normal (mk xs.length)){w0:World}{V0:Fr}{V:Vw}{μ:List Nat}{ω:List Value}{a:Act}{w:World}(hS:Sim (szOf T) w0 V0 V μ ω s a w) :
    wpG P G (.rangeFunc g ps assign body) (fun e a' w'=>∃ s' V' μ' ω',Q e s'/\Sim (szOf T) w0 V0 V' μ' ω' s' a' w') a w:=by
 obtain⟨_,μ,ω,rfl,hS⟩:=keepK_sound hS hs
 clear hs
 obtain⟨V00,gv,df,kp,kc⟩:=V0
 refine wpG_rangeFunc ?_
 intro fn hfn
 obtain⟨rec,hrec⟩:∃ rec:LoopState->Option Code->Loop,rec=fun st pe=>{ state:=st,pending:=pe,fn,tmps:=a.tmps,params:=ps,assign,body,defers:=w.heap.size }:=⟨_,rfl⟩
 obtain⟨W1,hW1⟩:∃ W1,(w.alloc (.deferred (some []))).alloc (.loop (rec .ready none))=W1:=⟨_,rfl⟩
 obtain⟨a',ha'⟩:∃ a':Act,a'={ a with defers:=mkD w.heap.size :: a.defers }:=⟨_,rfl⟩
 obtain⟨l,hl⟩:∃ l,l=w.heap.size+1:=⟨_,rfl⟩
 have hL1:W1.heap[l]? = some (.loop (rec .ready none)):=by
  rw[<- hW1,hl];have:=World.alloc_heap_new (w.alloc (.deferred (some []))) (.loop (rec .ready none));rwa [World.size_alloc] at this
 have hK1:W1.heap[w.heap.size]? = some (.deferred (some [])):=by
  rw[<- hW1];exact (Below.heap_alloc _ _ _ (by simp)).trans (World.alloc_heap_new w _)
 have hx1:Ext w W1:=by
  rw[<- hW1];exact (Ext.alloc w _).trans (Ext.alloc _ _)
 obtain⟨ms0,e1,e2,e3⟩:=hS.defers.marks
 have hsz0:=hS.mem.below.size
 have hkl:∀ x ∈ kp,x.1<w.heap.size:=fun x hx=>(Array.getElem?_eq_some_iff.1 (hS.defers.kept x hx).1).1
 have hml:∀ D ∈ ms0,D<w.heap.size:=fun D hD=>(Array.getElem?_eq_some_iff.1 (e3 D hD).1).1
 obtain⟨msA,hmsA⟩:∃ msA,msA=w.heap.size :: ms0:=⟨_,rfl⟩
 have hda:a'.defers=msA.map mkD++df:=by rw[ha',hmsA];simp[e1]
 have hmn:msA.Nodup:=by rw[hmsA];exact List.nodup_cons.2 ⟨fun h=>by have:=hml _ h;omega,e2⟩
 have hm2:∀ D ∈ msA,w0.heap.size<=D/\(∀ y ∈ kp,y.1 ≠ D)/\l ≠ D:=by
  intro D hD
  rw[hmsA] at hD
  rcases List.mem_cons.1 hD with rfl|hD
  . exact⟨hsz0,fun y hy e=>by have:=hkl y hy;omega,by omega⟩
  . exact⟨(e3 D hD).2.1,(e3 D hD).2.2,by have:=hml D hD;omega⟩
 have hlk:∀ x ∈ kp,x.1 ≠ l:=fun x hx=>by have:=hkl x hx;omega
 have htm:a'.tmps=a.tmps:=by rw[ha']
 have hns:a'.tmps.size=n:=by rw[htm,hS.tmps,hmk]
 have noL:∀ r,noC (.loop r):=fun r _ _ _ e=>by cases e
 have hS1:Sim (szOf T) w0 ⟨V00,gv,df,(l,.loop (rec .ready none)) :: kp,kc⟩ V μ ω (mk 0) a' W1:=by
  have h:=hS.ext hx1
  refine⟨by rw[htm];exact h.tmps,⟨⟨msA,hda,hmn,fun D hD=>⟨?_,(hm2 D hD).1,fun x hx=>?_⟩⟩,fun x hx=>?_⟩,fun t=>?_,h.mem.fr rfl⟩
  . rw[hmsA] at hD
    rcases List.mem_cons.1 hD with rfl|hD
    . exact hK1
    . exact hx1.heap (e3 D hD).1
  . rcases List.mem_cons.1 hx with rfl|hx
    . exact (hm2 D hD).2.2
    . exact (hm2 D hD).2.1 x hx
  . rcases List.mem_cons.1 hx with rfl|hx
    . exact⟨hL1,noL _,by show w0.heap.size<=l;omega⟩
    . exact h.defers.kept x hx
  . have:=h.env t
    unfold slotV at this ⊢
    rw[htm]
    exact this
 obtain⟨us,hev,hus,hri⟩:=(by have:=hS1.get g;rw[hg] at this;exact this.fn_:∃ us:Array Value,a'.eval g = .func (.func f) #[] us/\us.size=cap.length/\∀ (j:Nat) v d,us[j]? = some v->cap[j]? = some d->RI (szOf T) V v d)
 have hev:a.eval g = .func (.func f) #[] us:=by rw[<- hev];cases g<;>simp[Act.eval,htm]
 obtain⟨J,hJ⟩:∃ J:Option Nat->Vw->World->Prop,J=fun k V W=>match k with
  | some k=>I k/\∃ μ ω,Sim (szOf T) w0 ⟨V00,gv,df,(l,.loop (rec .ready none)) :: kp,kc⟩ V μ ω (mk k) a' W
  | none=>∃ c s' μ ω,((c=Code.ret/\Q .ret s')\/∃ id,c=Code.exit id/\Q (.exit id) s')/\Sim (szOf T) w0 ⟨V00,gv,df,(l,.loop (rec .done (some c))) :: kp,kc⟩ V μ ω s' a' W:=⟨_,rfl⟩
 obtain⟨Jp,hJp⟩:∃ Jp:List PanicEntry->World->Prop,Jp=fun c W=>∃ s' V' μ' ω',Q (.panic c) s'/\Sim (szOf T) w0 ⟨V00,gv,df,kp,kc⟩ V' μ' ω' s' a' W:=⟨_,rfl⟩
 have hYl:Yields P T l W1.heap.size xs J Jp:=by
  have hBl:l<W1.heap.size:=(Array.getElem?_eq_some_iff.1 hL1).1
  have hBm:∀ (D:Nat),W1.heap.size<=D->∀ ms:List Nat,a'.defers=ms.map mkD++df->D ∉ ms:=fun D hD ms hm hin=>by
   rw[hda] at hm
   rw[<- mkD_inj (List.append_cancel_right hm),hmsA] at hin
   have hws:=hx1.size
   rcases List.mem_cons.1 hin with rfl|hin
   . omega
   . have:=hml D hin;omega
  have hBk:∀ (D:Nat),W1.heap.size<=D->∀ (r:Loop),∀ x ∈ ((l,Obj.loop r) :: kp),x.1 ≠ D:=fun D hD r x hx e=>by
   have hws:=hx1.size
   rcases List.mem_cons.1 hx with rfl|hx
   . dsimp only at e;omega
   . have:=hkl x hx;omega
  have hB0:∀ (D:Nat),W1.heap.size<=D->w0.heap.size<=D:=fun D hD=>by have:=hx1.size;omega
  refine⟨fun k V W h=>?_,fun k V W h=>?_,fun k V V' W W' h he hV hok hn=>?_,fun k V W D h hD hh=>?_,fun c W D h hD hh=>?_,fun k x V W vs hx h hvl hvr E hE=>?_⟩
  . subst hJ
    cases k with
    | some k=>obtain⟨_,μ,ω,h⟩:=h;exact h.mem.vok
    | none=>obtain⟨c,s',μ,ω,_,h⟩:=h;exact h.mem.vok
  . subst hJ
    have hBs:W1.heap.size=l+1:=by rw[<- hW1,hl];simp
    have key:∀ {r:Loop} {W:World},W.heap[l]? = some (.loop r)->W1.heap.size<=W.heap.size:=fun h=>by have:=(Array.getElem?_eq_some_iff.1 h).1;omega
    cases k with
    | some k=>obtain⟨_,μ,ω,h⟩:=h;exact key (h.defers.kept _ (List.mem_cons_self)).1
    | none=>obtain⟨c,s',μ,ω,_,h⟩:=h;exact key (h.defers.kept _ (List.mem_cons_self)).1
  . subst hJ
    cases k with
    | some k=>obtain⟨hik,μ,ω,h⟩:=h;exact⟨hik,μ,ω,h.grow he hV hok hn⟩
    | none=>obtain⟨c,s',μ,ω,hc,h⟩:=h;exact⟨c,s',μ,ω,hc,h.grow he hV hok hn⟩
  . subst hJ
    cases k with
    | some k=>obtain⟨hik,μ,ω,h⟩:=h;exact⟨hik,μ,ω,h.putOld _ hh (fun _ _ _ e=>by cases e) (hB0 D hD) (hBk D hD _) (hBm D hD)⟩
    | none=>obtain⟨c,s',μ,ω,hc,h⟩:=h;exact⟨c,s',μ,ω,hc,h.putOld _ hh (fun _ _ _ e=>by cases e) (hB0 D hD) (hBk D hD _) (hBm D hD)⟩
  . subst hJp
    obtain⟨s',V',μ',ω',hq,h⟩:=h
    exact⟨s',V',μ',ω',hq,h.putOld _ hh (fun _ _ _ e=>by cases e) (hB0 D hD) (fun x hx=>hBk D hD (rec .ready none) x (List.mem_cons_of_mem _ hx)) (hBm D hD)⟩
  . have h':I k/\∃ μ ω,Sim (szOf T) w0 ⟨V00,gv,df,(l,.loop (rec .ready none)) :: kp,kc⟩ V μ ω (mk k) a' W:=by rw[hJ] at h;exact h
    obtain⟨hik,μ,ω,hS⟩:=h'
    obtain⟨hxl,hround⟩:=round k x hx hik
    have hlW:=(hS.defers.kept (l,.loop (rec .ready none)) (by simp)).1
    have hy:=run_yield (P:=P) (args:=vs.toArray) hlW (by rw[hrec];simp[hvl,hxl])
    rw[hrec] at hy
    rw[zip_fold] at hy
    refine⟨fn,_,assign,body,hy,?_⟩
    clear hy
    have hV0:VLe V00 V:=hS.mem.vle
    have hVo:∀ p,p.block<w0.heap.size->V p=V00 p:=hS.mem.vold
    obtain⟨gv2,hgv2⟩:∃ gv2:Nat->Value,gv2=fun t=>slotV ⟨V00,gv,df,kp,kc⟩ n a' (t - n):=⟨_,rfl⟩
    obtain⟨R2,hR2⟩:∃ R2,R2=kp++keptOf msA++E:=⟨_,rfl⟩
    have hRk:∀ x ∈ R2,x.1 ≠ l:=fun x hx=>by
     rw[hR2] at hx
     rcases List.mem_append.1 hx with hx|hx
     . rcases List.mem_append.1 hx with hx|hx
       . exact hlk x hx
       . obtain⟨D,hD,rfl⟩:=List.mem_map.1 hx;exact fun e=>(hm2 D hD).2.2 e.symm
     . have:=(hE x hx).1
       have:=(Array.getElem?_eq_some_iff.1 hL1).1
       omega
    have hmk':=hmk k
    obtain⟨env,box,row,n',hmkk⟩:∃ env box row n',mk k=⟨env,box,row,n'⟩:=⟨_,_,_,_,rfl⟩
    rw[hmkk] at hround hS hmk'
    dsimp only at hmk'
    subst hmk'
    simp only[inRoundK,shE_eq] at hround
    have hround:=cutE_eq _ _ _ hround
    rw[catK_eq] at hround
    obtain⟨env',hk,hsz',henv'⟩:=putPs_sound (F:=⟨V,gv2,[],(l,.loop (rec .ready none)) :: R2,kc⟩) (μ:=μ) (ω:=ω) ps.toList x _ { tmps:=a.tmps,defers:=[] } vs _ hps (by rw[<- htm];exact hns) hvl (fun j v d h1 h2=>.imm _ _ (hvr j v d h1 h2))
     (by rw[<- htm];exact look_round hS.env (fun t=>by rw[hgv2];rfl) []) hround
    have hmarks:∀ D ∈ msA,W.heap[D]? = some (.deferred (some [])):=by
     obtain⟨ms',f1,f2,f3⟩:=hS.defers.marks
     have f1:a'.defers=ms'.map mkD++df:=f1
     rw[hda] at f1
     have:=mkD_inj (List.append_cancel_right f1)
     rw[this]
     exact fun D hD=>(f3 D hD).1
    have hSr:Sim (szOf T) w0 ⟨V,gv2,[],(l,.loop (rec .ready none)) :: R2,kc⟩ V μ ω ⟨env',box,row,n'⟩ { tmps:=List.foldl (fun tmps (x:Nat × Value)=>tmps.setIfInBounds x.1 x.2) a.tmps (ps.toList.zip vs),defers:=[] } W:=by
     refine⟨hsz',⟨⟨[],rfl,List.nodup_nil,by simp⟩,fun x hx=>?_⟩,henv',hS.mem.rebase rfl⟩
     rcases List.mem_cons.1 hx with rfl|hx
     . exact hS.defers.kept _ (by simp)
     . rw[hR2] at hx
       rcases List.mem_append.1 hx with hx|hx
       . rcases List.mem_append.1 hx with hx|hx
         . exact hS.defers.kept _ (List.mem_cons_of_mem _ hx)
         . obtain⟨D,hD,rfl⟩:=List.mem_map.1 hx
           exact⟨hmarks D hD,(fun _ _ _ e=>by cases e),(hm2 D hD).1⟩
       . have:=hx1.size
         exact⟨(hE x hx).2.1,(hE x hx).2.2,by have:=(hE x hx).1;omega⟩
    have keepE:∀ {r:Loop} {V':Vw} {μ':List Nat} {ω':List Value} {s3:St} {a3:Act} {W3:World},Sim (szOf T) w0 ⟨V,gv2,[],(l,.loop r) :: R2,kc⟩ V' μ' ω' s3 a3 W3->∀ x ∈ E,W3.heap[x.1]? = some x.2:=fun h x hx=>
     (h.defers.kept x (List.mem_cons_of_mem _ (by rw[hR2];exact List.mem_append_right _ hx))).1
    have back:∀ {r:Loop} {V':Vw} {μ':List Nat} {ω':List Value} {s3:St} {a3:Act} {W3:World} {K:St->Prop},Sim (szOf T) w0 ⟨V,gv2,[],(l,.loop r) :: R2,kc⟩ V' μ' ω' s3 a3 W3->s3.n=n'->offRoundK s3 K ->
        ∃ s2,K s2/\s2.n=n'/\Sim (szOf T) w0 ⟨V00,gv,df,(l,.loop r) :: kp,kc⟩ V' μ' ω' s2 a' W3:=fun h hn hK=>
     h.offRound rfl (fun t=>by rw[hgv2]) (by rw[hR2]) hV0 hVo rfl hns hda hmn (fun D hD=>hm2 D hD) hn hK
    refine roundIn_of (wpIn_mono (hk.run l w0 _ V μ ω _ W ⟨_,List.mem_cons_self⟩ hSr) ?_)
    rintro e a1 W1' ⟨s2,V2,μ2,ω2,hq,hS2⟩
    cases e with
    | normal=>
     have hl2:=(hS2.defers.kept (l,.loop (rec .ready none)) (by simp)).1
     have hS3:=hS2.turn (.loop { rec .ready none with state:=.busy }) hRk (noL _)
     refine⟨_,run_beginRound hl2 (by rw[hrec]),wpIn_mono (OkR.run hq l w0 _ V2 μ2 ω2 a1 _ ⟨_,List.mem_cons_self⟩ hS3) ?_⟩
     rintro e a2 W2 ⟨s3,V3,μ3,ω3,⟨hn3,hq3⟩,hS4⟩
     have hl4:=(hS4.defers.kept (l,.loop { rec .ready none with state:=.busy }) (by simp)).1
     cases e with
     | normal=>
      obtain⟨hik1,hq3⟩:=hq3
      have hq3:offRoundK s3 (fun s'=>keepK L nr nb s' (·=mk (k+1))):=hq3
      have hS5:=hS4.turn (.loop (rec .ready none)) hRk (noL _)
      obtain⟨s4,hk4,_,hS6⟩:=back hS5 hn3 hq3
      obtain⟨_,μ5,ω5,rfl,hS7⟩:=keepK_sound hS6 hk4
      refine⟨_,W2.putObj l (.loop (rec .ready none)),by have:=run_endRound (P:=P) none hl4;rw[hrec] at this ⊢;exact this,keepE hS5,.inl ⟨V3,hS4.mem.vle,.inl ⟨rfl,?_⟩⟩⟩
      rw[hJ]
      exact⟨hik1,μ5,ω5,hS7⟩
     | ret=>
      have hq3:offRoundK s3 (Q .ret):=hq3
      have hS5:=hS4.turn (.loop (rec .done (some .ret))) hRk (noL _)
      obtain⟨s4,hk4,_,hS6⟩:=back hS5 hn3 hq3
      refine⟨_,W2.putObj l (.loop (rec .done (some .ret))),by have:=run_endRound (P:=P) (some .ret) hl4;rw[hrec] at this ⊢;exact this,keepE hS5,.inl ⟨V3,hS4.mem.vle,.inr ⟨rfl,?_⟩⟩⟩
      rw[hJ]
      exact⟨_,s4,μ3,ω3,.inl ⟨rfl,hk4⟩,hS6⟩
     | exit id=>
      have hq3:offRoundK s3 (Q (.exit id)):=hq3
      have hS5:=hS4.turn (.loop (rec .done (some (.exit id)))) hRk (noL _)
      obtain⟨s4,hk4,_,hS6⟩:=back hS5 hn3 hq3
      refine⟨_,W2.putObj l (.loop (rec .done (some (.exit id)))),by have:=run_endRound (P:=P) (some (.exit id)) hl4;rw[hrec] at this ⊢;exact this,keepE hS5,.inl ⟨V3,hS4.mem.vle,.inr ⟨rfl,?_⟩⟩⟩
      rw[hJ]
      exact⟨_,s4,μ3,ω3,.inr ⟨id,rfl,hk4⟩,hS6⟩
     | panic c=>
      obtain⟨hval,hq3⟩:=hq3
      obtain⟨fn',hfn'⟩:=Option.isSome_iff_exists.1 (hval fn hfn)
      obtain⟨ms2,f1,f2,f3,hS5⟩:=hS4.shut
      obtain⟨s4,hk4,_,hS6⟩:=back hS5 hn3 hq3
      refine⟨fn',hfn',?_⟩
      rw[f1]
      refine leavesX_marks (by simp) ms2 W2 f2 f3 ⟨rfl,keepE hS5,.inr ⟨c,rfl,?_⟩⟩
      rw[hJp]
      exact⟨s4,V3,μ3,ω3,hk4,hS6.unkeep⟩
     | goto t=>exact hq3.elim
     | outgrown=>exact hq3.elim
    | _=>exact hq.elim
 refine⟨l,[mkD w.heap.size],W1,{ target:=.fn (.func f) us,args:=#[.func (.yield l) #[] #[]] },W1,f,#[.func (.yield l) #[] #[]]++us,W1,?_,?_,?_,?_⟩
 . rw[<- hW1,hrec,hl];exact run_enterLoop_outer _ _ _ _ _
 . simp only[resolve,hev]
   simp[go_sem]
 . simp[invoke,go_sem,hY.call]
 . refine (hY.run V W1 us hus hri l J Jp hYl (fun k V W h=>by rw[hJ] at h;exact h.1) (by rw[hJ];exact⟨hI,μ,ω,hS1⟩)).mono ?_
   have haa:({ a with defers:=[mkD w.heap.size]++a.defers }:Act)=a':=by rw[ha'];rfl
   rw[haa]
   rintro e w' (⟨⟨v,rfl⟩,V',h⟩|⟨c,rfl,h⟩)
   . rw[hJ] at h
     rcases h with⟨hik,μ',ω',hS'⟩|⟨c,s',μ',ω',hc,hS'⟩
     . have hl':=(hS'.defers.kept (l,.loop (rec .ready none)) (by simp)).1
       refine⟨none,_,by have:=run_endLoop (P:=P) hl' (by rw[hrec];simp);rw[hrec] at this;exact this,?_⟩
       exact⟨_,V',μ',ω',done hik,(hS'.turn _ hlk (noL _)).unkeep⟩
     . have hl':=(hS'.defers.kept (l,.loop (rec .done (some c))) (by simp)).1
       refine⟨some c,_,by have:=run_endLoop (P:=P) hl' (by rw[hrec];simp);rw[hrec] at this;exact this,?_⟩
       have hS2:=(hS'.turn (.loop { rec .done (some c) with state:=.exhausted }) hlk (noL _)).unkeep
       rw[hrec] at hS2
       rcases hc with⟨rfl,hq⟩|⟨id,rfl,hq⟩
       . exact wpG_of (wp_ret ⟨_,V',μ',ω',hq,hS2⟩)
       . exact wpG_of (wp_exit ⟨_,V',μ',ω',hq,hS2⟩)
   . rw[hJp] at h
     obtain⟨s',V',μ',ω',hq,hS'⟩:=h
     exact⟨s',V',μ',ω',hq,hS'⟩
end
end Go.Vx
namespace Go.Vx
open Go.RowKit
section
variable {P : Program} {T : Tab} {G : FuncId → Prop} {Q : Exit → St → Prop} {s : St}
structure OkG(P:Program)(T:Tab)(G:FuncId->Prop)(c:Code)(Q:Exit->St->Prop)(s:St):Prop where
 run:∀ (w0:World) (V0:Fr) (V:Vw) (μ:List Nat) (ω:List Value) (a:Act) (w:World),Sim (szOf T) w0 V0 V μ ω s a w ->
  wpG P G c (fun e a' w'=>∃ s' V' μ' ω',Q e s'/\Sim (szOf T) w0 V0 V' μ' ω' s' a' w') a w
theorem OkG.of{c:Code}(h:Ok P T c Q s):OkG P T G c Q s:=⟨fun w0 V0 V μ ω a w hS=>wpG_of (h.run w0 V0 V μ ω a w hS)⟩
theorem OkG.seq{x y:Code}(h:OkG P T G x (thenQ (OkG P T G y Q) Q) s):OkG P T G (.seq x y) Q s:=by
 refine⟨fun w0 V0 V μ ω a w hS=>wpG_seq (wpG_mono (h.run w0 V0 V μ ω a w hS) ?_)⟩
 rintro e a' w' ⟨s',V',μ',ω',hk,hS'⟩
 cases e with
 | normal=>exact OkG.run hk w0 V0 V' μ' ω' a' w' hS'
 | _=>exact⟨s',V',μ',ω',hk,hS'⟩
theorem OkG.block{id:Nat}{c:Code}(h:OkG P T G c (blockQ id Q) s):OkG P T G (.block id c) Q s:=by
 refine⟨fun w0 V0 V μ ω a w hS=>wpG_block (wpG_mono (h.run w0 V0 V μ ω a w hS) ?_)⟩
 rintro e a' w' ⟨s',V',μ',ω',hk,hS'⟩
 cases e with
 | exit id'=>
  simp only[blockQ] at hk
  simp only[Exit.inBlock]
  split at hk
  . rename_i hb
    rw[if_pos (beq_nat_true hb)]
    exact⟨s',V',μ',ω',hk,hS'⟩
  . rename_i hb
    rw[if_neg (by rintro rfl;rw[Nat.beq_refl] at hb;cases hb)]
    exact⟨s',V',μ',ω',hk,hS'⟩
 | _=>exact⟨s',V',μ',ω',hk,hS'⟩
theorem OkG.range{g:Operand}{ps:Array Tmp}{assign body:Code}{f:FuncId}{cap:List D}{xs:List (List D)}{n:Nat}(L:List Nat)(nr nb:Nat)(mk:Nat->St)(I:Nat->Prop)(hI:I 0)(hs:keepK L nr nb s (·=mk 0))(hg:(mk 0).get g = .fn f [] cap)
    (hY:YSpec P T f cap xs)(hmk:∀ k,(mk k).n=n)(hps:∀ p ∈ ps.toList,p<n)
    (round:∀ (k:Nat) x,xs[k]? = some x->I k->x.length=ps.size/\inRoundK ps.toList x (mk k) fun s1=>OkR P T assign (thenQ (fun s2=>OkR P T body (fun e s3=>s3.n=n/\rndQ P G Q L nr nb (mk (k+1)) (I (k+1)) e s3) s2) (fun _ _=>False)) s1)
    (done:I xs.length->Q .normal (mk xs.length)):OkG P T G (.rangeFunc g ps assign body) Q s:=
 ⟨fun _ _ _ _ _ _ _ hS=>range_sound L nr nb mk I hI hs hg (hY.toI I) hmk hps round done hS⟩
def isFn(P:Program)(f:FuncId):Prop:=(P.funcs[f]?).isSome=true
theorem FSpec.of_okG(hT:TOk P T){f:FuncId}{fn:Func}{c:Code}(hf:P.funcs[f]? = some fn)(hb:fn.body=some c)(hcall:∀ args w,(callFunc f args).run P w = .ok (.enter f args) w){ds:List D}{R:D->Rows->Prop}(hn:ds.length<=fn.ntmps)
    (h:OkG P T (isFn P) c (endQ T fn R) ⟨envOf 0 ds,[],[],fn.ntmps⟩):FSpec P T f ds R:=by
 refine⟨hcall,fun V w args hV hl hR=>calls_of_wpG hf hb (G:=isFn P) (by unfold isFn;rw[hf];rfl) ?_⟩
 refine wpG_mono (h.run w ⟨V,fun _=>undef,[],[],[]⟩ V [] [] _ w (start_sim hn hV hl hR)) ?_
 rintro e a' w' ⟨s',V',μ',ω',hq,hS'⟩
 have fin:retK T fn R s'->LeavesX P fn a'.tmps (fun e w'=>∃ V' ω row v' d,e = .returned v'/\R d row/\RS (szOf T) V' [] ω v' d/\Res (szOf T) V V' ω row w w') a'.defers .returning w':=by
  intro hr
  obtain⟨ms',e1,e2,e3,hS'⟩:=hS'.shut
  rw[e1]
  refine leavesX_marks (by simp) ms' w' e2 e3 ?_
  obtain⟨v,hv,hr⟩:=retK_leaves (P:=P) hT rfl hS' hr
  exact⟨v,hv,hr⟩
 cases e<;>simp only[endQ] at hq
 . exact fin hq
 . exact fin hq
theorem PSpec.of_okG{f:FuncId}{fn:Func}{c:Code}(hf:P.funcs[f]? = some fn)(hb:fn.body=some c)(hcall:∀ args w,(callFunc f args).run P w = .ok (.enter f args) w){ds:List D}{v:Value}(hn:ds.length<=fn.ntmps)
    (h:OkG P T (isFn P) c (panQ v) ⟨envOf 0 ds,[],[],fn.ntmps⟩):PSpec P T f ds v:=by
 refine⟨hcall,fun V w args hV hl hR=>calls_of_wpG hf hb (G:=isFn P) (by unfold isFn;rw[hf];rfl) ?_⟩
 refine wpG_mono (h.run w ⟨V,fun _=>undef,[],[],[]⟩ V [] [] _ w (start_sim hn hV hl hR)) ?_
 rintro e a' w' ⟨s',V',μ',ω',hq,hS'⟩
 cases e<;>simp only[panQ] at hq
 subst hq
 obtain⟨ms',e1,e2,e3,hS'⟩:=hS'.shut
 show LeavesX _ _ _ _ a'.defers _ _
 rw[e1]
 exact leavesX_marks (by simp) ms' w' e2 e3 ⟨rfl,hS'.mem.below⟩
def pbD1(box:List (List D))(d:D)(K:D->Prop):Prop:=
 match d with
 | .bp i off=>match box[i]? with|some cs=>forceL (cs.drop off) fun cs=>K (.ep cs)|none=>K .u
 | .own ..=>K .u
 | .op ..=>K .u
 | .agg cs=>match immL cs with|true=>K (.agg cs)|false=>K .u
 | .tup _=>K .u
 | .fnh ..=>K .u
 | .osl ..=>K .u
 | .tie ..=>K .u
 | d=>d.force K
def pbL(box:List (List D)):List D->(List D->Prop)->Prop
 | [],K=>K []
 | d :: r,K=>pbD1 box d fun d=>pbL box r fun r=>K (d :: r)
def pbD(box:List (List D))(d:D)(K:D->Prop):Prop:=
 match d with
 | .fnh f x y=>pbL box x fun x=>pbL box y fun y=>K (.fn f x y)
 | d=>pbD1 box d K
def pbE(box:List (List D)):List (Nat × D)->(List (Nat × D)->Prop)->Prop
 | [],K=>K []
 | (t,d) :: r,K=>pbD box d fun d=>pbE box r fun r=>K ((t,d) :: r)
def immLL:List (List D)->Bool|[]=>true|c :: r=>immL c && immLL r
theorem immLL_at:∀ {l:List (List D)},immLL l=true->∀ (i:Nat) c,l[i]? = some c->immL c=true
 | [],_,i,c,h=>by simp at h
 | x :: l,hf,i,c,h=>by
  simp only[immLL,Bool.and_eq_true] at hf
  cases i with
  | zero=>simp at h;subst h;exact hf.1
  | succ i=>exact immLL_at hf.2 i c (by simpa using h)
section
variable {sz : TypeId → Nat} {w0 w : World} {V0 : Fr} {V V' : Vw} {μ : List Nat} {ω : List Value} {box : List (List D)} {row : Rows} {a : Act}
theorem RS.fnh_{v:Value}{f:FuncId}{x y:List D}(h:RS sz V μ ω v (.fnh f x y)):∃ vs us:Array Value,v = .func (.func f) vs us/\vs.size=x.length/\us.size=y.length/\(∀ (j:Nat) v d,vs[j]? = some v->x[j]? = some d->RS sz V μ ω v d) /\
    ∀ (j:Nat) v d,us[j]? = some v->y[j]? = some d->RS sz V μ ω v d:=by
 cases h with
 | imm _ _ h=>cases h
 | fnh f x y vs us h1 h2 hR1 hR2=>exact⟨vs,us,rfl,h1,h2,hR1,hR2⟩
theorem pbD1_sound(hM:Mem sz w0 V0 V μ ω box row w)(hi:immLL box=true)(hV:VLe V V')(hp:∀ (i g:Nat) (off:Nat) v,μ[i]? = some g->w.cell? ⟨g,off,none⟩=some v->V' ⟨g,off,none⟩=some v){d:D}{K:D->Prop}(h:pbD1 box d K) :
    ∃ d',K d'/\∀ v,RS sz V μ ω v d->RI sz V' v d':=by
 unfold pbD1 at h
 split at h
 . rename_i i off
   split at h
   . rename_i cs hcs
     rw[forceL_eq] at h
     refine⟨_,h,fun v hv=>?_⟩
     obtain⟨g,hg,rfl⟩:=hv.bp_
     obtain⟨vs,t,hh,hs,ho,hR,_⟩:=hM.hbox i g cs hg hcs
     refine .ep _ _ (fun j=>vs.getD (off+j) undef) (fun j d hd=>?_) fun j d hd=>?_
     . rw[List.getElem?_drop] at hd
       have hlt:off+j<vs.size:=by rw[hs];exact (List.getElem?_eq_some_iff.1 hd).1
       have hvj:vs[off+j]? = some vs[off+j]:=Array.getElem?_eq_getElem hlt
       have hadd:(⟨g,off,none⟩:Addr).add j=⟨g,off+j,none⟩:=by unfold Addr.add;split<;>simp_all
       rw[hadd]
       have hcell:w.cell? ⟨g,off+j,none⟩=some vs[off+j]:=by rw[cell_of_row w g (off+j) vs t (0,0) hh,hvj]
       refine⟨?_,?_⟩
       . rw[hp i g _ _ hg hcell]
         simp[Array.getD,hlt]
       . rw[show vs.getD (off+j) undef=vs[off+j] by simp[Array.getD,hlt]]
         exact ho _ (by simp)
     . rw[List.getElem?_drop] at hd
       have hlt:off+j<vs.size:=by rw[hs];exact (List.getElem?_eq_some_iff.1 hd).1
       rw[show vs.getD (off+j) undef=vs[off+j] by simp[Array.getD,hlt]]
       exact (imm1_ri (hR _ _ d (Array.getElem?_eq_getElem hlt) hd) (immL_at (immLL_at hi i cs hcs) _ d hd)).mono hV
   . exact⟨_,h,fun v _=>.u v⟩
 . exact⟨_,h,fun v _=>.u v⟩
 . exact⟨_,h,fun v _=>.u v⟩
 . split at h
   . rename_i cs hc
     exact⟨_,h,fun v hv=>(immD_ri hv hc).mono hV⟩
   . exact⟨_,h,fun v _=>.u v⟩
 . exact⟨_,h,fun v _=>.u v⟩
 . exact⟨_,h,fun v _=>.u v⟩
 . exact⟨_,h,fun v _=>.u v⟩
 . exact⟨_,h,fun v _=>.u v⟩
 . rename_i h1 h2 h3 h4 h5 h6 h7 h8
   rw[D.force_eq] at h
   refine⟨d,h,fun v hv=>(imm1_ri hv ?_).mono hV⟩
   cases d<;>first|rfl|(exfalso;first|exact h1 _ _ rfl|exact h2 _ _ rfl|exact h3 _ _ _ _ rfl|exact h4 _ rfl|exact h5 _ rfl|exact h6 _ _ _ rfl|exact h7 _ _ _ _ rfl|exact h8 _ _ _ _ rfl)
theorem pbL_sound(hM:Mem sz w0 V0 V μ ω box row w)(hi:immLL box=true)(hV:VLe V V')(hp:∀ (i g:Nat) (off:Nat) v,μ[i]? = some g->w.cell? ⟨g,off,none⟩=some v->V' ⟨g,off,none⟩=some v):∀ {l:List D} {K:List D->Prop},pbL box l K ->
    ∃ l',K l'/\l'.length=l.length/\∀ (j:Nat) d d' v,l[j]? = some d->l'[j]? = some d'->RS sz V μ ω v d->RI sz V' v d'
 | [],K,h=>⟨[],h,rfl,fun j d d' v h1=>by simp at h1⟩
 | d :: l,K,h=>by
  simp only[pbL] at h
  obtain⟨d',h,hd⟩:=pbD1_sound hM hi hV hp h
  obtain⟨l',h,hl,hr⟩:=pbL_sound hM hi hV hp h
  refine⟨d' :: l',h,by simp[hl],fun j e e' v h1 h2 hv=>?_⟩
  cases j with
  | zero=>simp at h1 h2;subst h1 h2;exact hd v hv
  | succ j=>exact hr j e e' v (by simpa using h1) (by simpa using h2) hv
theorem pbD_sound(hM:Mem sz w0 V0 V μ ω box row w)(hi:immLL box=true)(hV:VLe V V')(hp:∀ (i g:Nat) (off:Nat) v,μ[i]? = some g->w.cell? ⟨g,off,none⟩=some v->V' ⟨g,off,none⟩=some v){d:D}{K:D->Prop}(h:pbD box d K) :
    ∃ d',K d'/\∀ v,RS sz V μ ω v d->RI sz V' v d':=by
 unfold pbD at h
 split at h
 . obtain⟨x',h,hx,hxr⟩:=pbL_sound hM hi hV hp h
   obtain⟨y',h,hy,hyr⟩:=pbL_sound hM hi hV hp h
   refine⟨_,h,fun v hv=>?_⟩
   obtain⟨vs,us,rfl,h1,h2,hR1,hR2⟩:=hv.fnh_
   refine .fn _ _ _ vs us (by rw[h1,hx]) (by rw[h2,hy]) (fun j v d' a b=>?_) fun j v d' a b=>?_
   . obtain⟨hlt,_⟩:=Array.getElem?_eq_some_iff.1 a
     have:=List.getElem?_eq_getElem (show j<_ by rw[<- h1];exact hlt)
     exact hxr j _ d' v this b (hR1 j v _ a this)
   . obtain⟨hlt,_⟩:=Array.getElem?_eq_some_iff.1 a
     have:=List.getElem?_eq_getElem (show j<_ by rw[<- h2];exact hlt)
     exact hyr j _ d' v this b (hR2 j v _ a this)
 . exact pbD1_sound hM hi hV hp h
theorem pbE_sound{n:Nat}(hM:Mem sz w0 V0 V μ ω box row w)(hi:immLL box=true)(hV:VLe V V')(hp:∀ (i g:Nat) (off:Nat) v,μ[i]? = some g->w.cell? ⟨g,off,none⟩=some v->V' ⟨g,off,none⟩=some v):∀ {env:List (Nat × D)} {K:List (Nat × D)->Prop},pbE box env K ->
    ∃ env',K env'/\∀ t v,RS sz V μ ω v (look env t)->RI sz V' v (look env' t)
 | [],K,h=>⟨[],h,fun t v _=>.u v⟩
 | (k,d) :: env,K,h=>by
  simp only[pbE] at h
  obtain⟨d',h,hd⟩:=pbD_sound hM hi hV hp h
  obtain⟨env',h,he⟩:=pbE_sound (n:=n) hM hi hV hp h
  refine⟨(k,d') :: env',h,fun t v hv=>?_⟩
  unfold look at hv ⊢
  cases hb:Nat.beq k t with
  | true=>rw[hb] at hv;exact hd v hv
  | false=>rw[hb] at hv;exact he t v hv
theorem Ok.pubB{c:Code}{env:List (Nat × D)}{box:List (List D)}{row:Rows}{n:Nat}(hi:immLL box=true)(h:pbE box env fun env'=>Ok P T c Q ⟨env',[],[],n⟩):Ok P T c Q ⟨env,box,row,n⟩:=by
 refine⟨fun w0 V0 V μ ω a w hS=>?_⟩
 have hM:=hS.mem
 dsimp only at hM
 classical
 obtain⟨V',hV'⟩:∃ V':Vw,V'=(fun p=>if ∃ i:Nat,μ[i]? = some p.block then w.cell? p else V p:Vw):=⟨(fun p=>if ∃ i:Nat,μ[i]? = some p.block then w.cell? p else V p:Vw),rfl⟩
 have hle:VLe V V':=fun p v hp=>by
  rw[hV']
  dsimp only
  split
  . exact hM.vok.2 p v hp
  . exact hp
 have hok:VOk V' w:=⟨⟨fun p v hp=>hle p v (hM.vok.1.1 p v hp),hM.vok.1.2⟩,fun p v hp=>by
  rw[hV'] at hp
  dsimp only at hp
  split at hp
  . exact hp
  . exact hM.vok.2 p v hp⟩
 obtain⟨env',hk,he⟩:=pbE_sound (n:=n) hM hi hle (fun i g off v h1 h2=>by rw[hV'];dsimp only;rw[if_pos ⟨i,h1⟩];exact h2) h
 refine hk.run w0 V0 V' [] [] a w ⟨hS.tmps,hS.defers,fun t=>.imm _ _ (he t _ (hS.env t)),?_⟩
 refine⟨hM.below,hok,fun p v hp=>hle p v (hM.vle p v hp),fun p hp=>?_,rfl,by simp,rfl,by simp,fun l l' g h1=>?_,fun l g h1=>?_,fun p u l _ h1=>?_,fun x hx=>let ⟨a,b,c,d,e⟩:=hM.away x hx;⟨a,b,fun l h1=>by
     cases l with
     | inl i=>simp[Own] at h1
     | inr r=>obtain⟨v,x,h1,_⟩:=h1;simp at h1,fun p u hp hb=>by
     rw[hV'] at hp
     dsimp only at hp
     split at hp
     . rename_i hh
       obtain⟨i,hi⟩:=hh
       exact c (.inl i) (hb ▸ hi)
     . exact d p u hp hb,e⟩⟩
 . rw[<- hM.vold p hp,hV']
   dsimp only
   rw[if_neg]
   rintro⟨i,hi⟩
   have:=(hM.new (.inl i) p.block hi).1
   omega
 all_goals
  cases l with
  | inl i=>simp[Own] at h1
  | inr r=>obtain⟨v,x,h1,_⟩:=h1;simp at h1
end
end
end Go.Vx
namespace Go.Vx
open Go.RowKit
section
variable {P : Program} {T : Tab}
structure PureS(sz:TypeId->Nat)(B:Nat)(V:Vw)(env:List (Nat × D))(n:Nat)(a:Act)(w:World):Prop where
 tmps:a.tmps.size=n
 marks:∃ ms:List Nat,a.defers=ms.map mkD/\ms.Nodup/\∀ D ∈ ms,B<=D/\w.heap[D]? = some (.deferred (some []))
 size:B<=w.heap.size
 vok:VOk V w
 env:∀ t,RS sz V [] [] (slotV ⟨V,fun _=>undef,[],[],[]⟩ n a t) (look env t)
theorem PureS.sim{B:Nat}{V:Vw}{env:List (Nat × D)}{n:Nat}{a:Act}{w:World}(h:PureS (szOf T) B V env n a w):Sim (szOf T) w ⟨V,fun _=>undef,a.defers,[],[]⟩ V [] [] ⟨env,[],[],n⟩ a w:=
 ⟨h.tmps,.start,h.env,(Mem.start h.vok).fr rfl⟩
def purE:List (Nat × D)->(List (Nat × D)->Prop)->Prop
 | [],K=>K []
 | (t,d) :: r,K=>match immD d with|true=>d.force fun d=>purE r fun r=>K ((t,d) :: r)|false=>purE r fun r=>K ((t,.u) :: r)
def purK(n:Nat)(s:St)(K:List (Nat × D)->Prop):Prop:=match s with|⟨env,_,_,m⟩=>eqN m n <| purE env K
theorem purE_sound{sz:TypeId->Nat}{V:Vw}{μ:List Nat}{ω:List Value}:∀ {env:List (Nat × D)} {K:List (Nat × D)->Prop},purE env K->∃ env',K env'/\∀ t v,RS sz V μ ω v (look env t)->RI sz V v (look env' t)
 | [],K,h=>⟨[],h,fun t v _=>.u v⟩
 | (k,d) :: env,K,h=>by
  simp only[purE] at h
  split at h
  . rename_i hd
    rw[D.force_eq] at h
    obtain⟨env',h,he⟩:=purE_sound (sz:=sz) (V:=V) (μ:=μ) (ω:=ω) h
    refine⟨_,h,fun t v hv=>?_⟩
    unfold look at hv ⊢
    cases hb:Nat.beq k t with
    | true=>rw[hb] at hv;exact immD_ri hv hd
    | false=>rw[hb] at hv;exact he t v hv
  . obtain⟨env',h,he⟩:=purE_sound (sz:=sz) (V:=V) (μ:=μ) (ω:=ω) h
    refine⟨_,h,fun t v hv=>?_⟩
    unfold look at hv ⊢
    cases hb:Nat.beq k t with
    | true=>exact .u v
    | false=>rw[hb] at hv;exact he t v hv
theorem PureS.after{B:Nat}{V V':Vw}{env:List (Nat × D)}{n:Nat}{a a':Act}{w w':World}{μ':List Nat}{ω':List Value}{s':St}{K:List (Nat × D)->Prop}(h:PureS (szOf T) B V env n a w)
    (hS:Sim (szOf T) w ⟨V,fun _=>undef,a.defers,[],[]⟩ V' μ' ω' s' a' w')(hK:purK n s' K):∃ env',K env'/\PureS (szOf T) B V' env' n a' w':=by
 obtain⟨env2,box,row,m⟩:=s'
 obtain⟨hmn,hK2⟩:=eqN_iff hK
 subst hmn
 obtain⟨env',hk,he⟩:=purE_sound (sz:=szOf T) (V:=V') (μ:=μ') (ω:=ω') hK2
 obtain⟨ms,e1,e2,e3⟩:=h.marks
 obtain⟨ms',f1,f2,f3⟩:=hS.defers.marks
 have hsz:=h.size
 refine⟨env',hk,hS.tmps,⟨ms'++ms,?_,?_,fun D hD=>?_⟩,by have:=hS.mem.below.size;omega,hS.mem.vok,fun t=>.imm _ _ (he t _ (hS.env t))⟩
 . rw[f1,List.map_append]
   show ms'.map mkD++a.defers=_
   rw[e1]
 . refine List.nodup_append.2 ⟨f2,e2,fun x hx y hy e=>?_⟩
   have h1:=(f3 x hx).2.1
   have h2:=(Array.getElem?_eq_some_iff.1 (e3 y hy).2).1
   omega
 . rcases List.mem_append.1 hD with hD|hD
   . exact⟨by have:=(f3 D hD).2.1;omega,(f3 D hD).1⟩
   . exact⟨(e3 D hD).1,by rw[hS.mem.below.block D (Array.getElem?_eq_some_iff.1 (e3 D hD).2).1];exact (e3 D hD).2⟩
theorem fresh_of{F:Fr}{V V':Vw}{μ:List Nat}{ω:List Value}{box:List (List D)}{row:Rows}{w w':World}{sz:TypeId->Nat}(h:Mem sz w F V' μ ω box row w')(hF:F.V=V):∀ p v,V' p=some v->V p=some v\/w.heap.size<=p.block:=by
 intro p v hp
 by_cases hb:p.block<w.heap.size
 . left
   rw[<- hF,<- h.vold p hb]
   exact hp
 . right;omega
def yPost(P:Program)(T:Tab)(B:Nat)(J:Option Nat->Vw->World->Prop)(Jp:List PanicEntry->World->Prop)(n:Nat)(Q:Exit->Option Nat->List (Nat × D)->Prop)(e:Exit)(a':Act)(w':World):Prop:=
 (∃ g' env' V',Q e g' env'/\J g' V' w'/\PureS (szOf T) B V' env' n a' w') \/
  ∃ ch,e = .panic ch/\Jp ch w'/\∃ ms:List Nat,a'.defers=ms.map mkD/\ms.Nodup/\∀ D ∈ ms,B<=D/\w'.heap[D]? = some (.deferred (some []))
structure OkY(P:Program)(T:Tab)(l:Nat)(xs:List (List D))(n:Nat)(c:Code)(Q:Exit->Option Nat->List (Nat × D)->Prop)(g:Option Nat)(env:List (Nat × D)):Prop where
 run:∀ (B:Nat) J Jp,Yields P T l B xs J Jp->∀ (V:Vw) (a:Act) (w:World),J g V w->PureS (szOf T) B V env n a w->c.wp P (yPost P T B J Jp n Q) a w
variable {l : Nat} {xs : List (List D)} {n : Nat} {Q : Exit → Option Nat → List (Nat × D) → Prop} {g : Option Nat} {env : List (Nat × D)}
theorem OkY.piece{c:Code}(h:Ok P T c (fun e s'=>purK n s' fun env'=>Q e g env') ⟨env,[],[],n⟩):OkY P T l xs n c Q g env:=by
 refine⟨fun B J Jp hY V a w hJ hp=>wp_mono (h.run w _ V [] [] a w hp.sim) ?_⟩
 rintro e a' w' ⟨s',V',μ',ω',hq,hS⟩
 obtain⟨env',hk,hp'⟩:=hp.after hS hq
 exact .inl ⟨g,env',V',hk,hY.grow g V V' w w' hJ hS.mem.below hS.mem.vle hS.mem.vok (fresh_of hS.mem rfl),hp'⟩
theorem OkY.mono{c:Code}{Q':Exit->Option Nat->List (Nat × D)->Prop}(h:OkY P T l xs n c Q g env)(hq:∀ e g env,Q e g env->Q' e g env):OkY P T l xs n c Q' g env:=by
 refine⟨fun B J Jp hY V a w hJ hp=>wp_mono (h.run B J Jp hY V a w hJ hp) ?_⟩
 rintro e a' w' (⟨g',env',V',hk,h1,h2⟩|h)
 . exact .inl ⟨g',env',V',hq _ _ _ hk,h1,h2⟩
 . exact .inr h
def thenY(N:Option Nat->List (Nat × D)->Prop)(Q:Exit->Option Nat->List (Nat × D)->Prop):Exit->Option Nat->List (Nat × D)->Prop
 | .normal,g,env=>N g env
 | e,g,env=>Q e g env
theorem OkY.seq{x y:Code}(h:OkY P T l xs n x (thenY (OkY P T l xs n y Q) Q) g env):OkY P T l xs n (.seq x y) Q g env:=by
 refine⟨fun B J Jp hY V a w hJ hp=>wp_seq (wp_mono (h.run B J Jp hY V a w hJ hp) ?_)⟩
 rintro e a' w' (⟨g',env',V',hk,h1,h2⟩|⟨ch,rfl,h⟩)
 . cases e with
   | normal=>exact OkY.run hk B J Jp hY V' a' w' h1 h2
   | _=>exact .inl ⟨g',env',V',hk,h1,h2⟩
 . exact .inr ⟨ch,rfl,h⟩
theorem OkY.skip(h:Q .normal g env):OkY P T l xs n .skip Q g env:=⟨fun _ _ _ _ V _ _ hJ hp=>wp_skip (.inl ⟨g,env,V,h,hJ,hp⟩)⟩
theorem OkY.ret(h:Q .ret g env):OkY P T l xs n .ret Q g env:=⟨fun _ _ _ _ V _ _ hJ hp=>wp_ret (.inl ⟨g,env,V,h,hJ,hp⟩)⟩
theorem OkY.exit{id:Nat}(h:Q (.exit id) g env):OkY P T l xs n (.exit id) Q g env:=⟨fun _ _ _ _ V _ _ hJ hp=>wp_exit (.inl ⟨g,env,V,h,hJ,hp⟩)⟩
def blockY(id:Nat)(Q:Exit->Option Nat->List (Nat × D)->Prop):Exit->Option Nat->List (Nat × D)->Prop
 | .exit id',g,env=>match Nat.beq id' id with|true=>Q .normal g env|false=>Q (.exit id') g env
 | e,g,env=>Q e g env
theorem OkY.block{id:Nat}{c:Code}(h:OkY P T l xs n c (blockY id Q) g env):OkY P T l xs n (.block id c) Q g env:=by
 refine⟨fun B J Jp hY V a w hJ hp=>wp_block (wp_mono (h.run B J Jp hY V a w hJ hp) ?_)⟩
 rintro e a' w' (⟨g',env',V',hk,h1,h2⟩|⟨ch,rfl,h⟩)
 . cases e with
   | exit id'=>
    simp only[blockY] at hk
    simp only[Exit.inBlock]
    split at hk
    . rename_i hb
      rw[if_pos (beq_nat_true hb)]
      exact .inl ⟨g',env',V',hk,h1,h2⟩
    . rename_i hb
      rw[if_neg (by rintro rfl;rw[Nat.beq_refl] at hb;cases hb)]
      exact .inl ⟨g',env',V',hk,h1,h2⟩
   | _=>exact .inl ⟨g',env',V',hk,h1,h2⟩
 . exact .inr ⟨ch,rfl,h⟩
def condY(env:List (Nat × D))(n:Nat)(c:Operand)(X Y:List (Nat × D)->Prop):Prop:=
 condK ⟨env,[],[],n⟩ c (fun s=>X s.env) (fun s=>Y s.env)
theorem PureS.know{B:Nat}{V:Vw}{a:Act}{w:World}(hp:PureS (szOf T) B V env n a w)(c:Operand){d:D}(hd:RS (szOf T) V [] [] (a.eval c) d):PureS (szOf T) B V ((⟨env,[],[],n⟩:St).know c d).env n a w:=by
 have h:=hp.sim.know c hd
 have hn:((⟨env,[],[],n⟩:St).know c d).n=n:=by
  unfold St.know
  split
  . split<;>rfl
  . rfl
 refine⟨hp.tmps,hp.marks,hp.size,hp.vok,fun t=>?_⟩
 have:=h.env t
 rw[hn] at this
 exact this
theorem OkY.cond{c:Operand}{x y:Code}(h:condY env n c (OkY P T l xs n x Q g) (OkY P T l xs n y Q g)):OkY P T l xs n (.cond c x y) Q g env:=by
 refine⟨fun B J Jp hY V a w hJ hp=>?_⟩
 have hc:=hp.sim.get c
 unfold condY condK at h
 split at h
 . rename_i hd;rw[hd] at hc;exact wp_cond_true hc.tt_ (h.run B J Jp hY V a w hJ hp)
 . rename_i hd;rw[hd] at hc;exact wp_cond_false hc.ff_ (h.run B J Jp hY V a w hJ hp)
 . rename_i p hd
   rw[hd] at hc
   obtain⟨b,hb,hbp⟩:=hc.bool
   cases b with
   | true=>exact wp_cond_true hb ((h.1 (hbp.1 rfl)).run B J Jp hY V a w hJ (hp.know c (by rw[hb];exact .imm _ _ .tt)))
   | false=>exact wp_cond_false hb ((h.2 (fun hp=>by simpa using hbp.2 hp)).run B J Jp hY V a w hJ (hp.know c (by rw[hb];exact .imm _ _ .ff)))
 . exact h.elim
def selE(env:List (Nat × D)):List Nat->(List (Nat × D)->Prop)->Prop
 | [],K=>K []
 | t :: L,K=>(look env t).force fun d=>selE env L fun r=>K ((t,d) :: r)
theorem selE_sound{sz:TypeId->Nat}{V:Vw}{env:List (Nat × D)}:∀ {L:List Nat} {K:List (Nat × D)->Prop},selE env L K->∃ env',K env'/\∀ t v,RS sz V [] [] v (look env t)->RS sz V [] [] v (look env' t)
 | [],K,h=>⟨[],h,fun t v _=>.imm _ _ (.u v)⟩
 | x :: L,K,h=>by
  simp only[selE,D.force_eq] at h
  obtain⟨env',h,he⟩:=selE_sound (sz:=sz) (V:=V) h
  refine⟨_,h,fun t v hv=>?_⟩
  show RS sz V [] [] v (match Nat.beq x t with|true=>look env x|false=>look env' t)
  cases hb:Nat.beq x t with
  | true=>rw[<- beq_nat_true hb] at hv;exact hv
  | false=>exact he t v hv
theorem OkY.keep{c:Code}(L:List Nat)(h:selE env L fun env=>OkY P T l xs n c Q g env):OkY P T l xs n c Q g env:=by
 refine⟨fun B J Jp hY V a w hJ hp=>?_⟩
 obtain⟨env',hk,he⟩:=selE_sound (sz:=szOf T) (V:=V) h
 exact hk.run B J Jp hY V a w hJ ⟨hp.tmps,hp.marks,hp.size,hp.vok,fun t=>he t _ (hp.env t)⟩
theorem OkY.loopK{c:Code}{ι:Type}(L:List Nat)(mk:ι->List (Nat × D))(gk:ι->Option Nat)(I:ι->Prop)(m:ι->Nat)(x0:ι)(h0:I x0)(hg:g=gk x0)(hs:selE env L (·=mk x0))
    (round:∀ x,I x->OkY P T l xs n c (thenY (fun g' env'=>∃ x',m x' < m x/\I x'/\g'=gk x'/\selE env' L (·=mk x')) Q) (gk x) (mk x)):OkY P T l xs n (.loop c) Q g env:=by
 refine⟨fun B J Jp hY V a w hJ hp=>?_⟩
 obtain⟨env',hk,he⟩:=selE_sound (sz:=szOf T) (V:=V) hs
 subst hg
 refine wp_loop_at (fun k a w=>∃ x V,m x=k/\I x/\J (gk x) V w/\PureS (szOf T) B V (mk x) n a w) ?_ ⟨x0,V,rfl,h0,hJ,by rw[<- hk];exact⟨hp.tmps,hp.marks,hp.size,hp.vok,fun t=>he t _ (hp.env t)⟩⟩
 rintro k a w ⟨x,V,rfl,hI,hJ,hp⟩
 refine wp_mono ((round x hI).run B J Jp hY V a w hJ hp) ?_
 rintro e a' w' (⟨g',env',V',hk,h1,h2⟩|⟨ch,rfl,h⟩)
 . cases e with
   | normal=>
    obtain⟨x',hlt,hI',rfl,hs'⟩:=hk
    obtain⟨env2,hk2,he2⟩:=selE_sound (sz:=szOf T) (V:=V') hs'
    exact⟨m x',hlt,x',V',rfl,hI',h1,by rw[<- hk2];exact⟨h2.tmps,h2.marks,h2.size,h2.vok,fun t=>he2 t _ (h2.env t)⟩⟩
   | _=>exact .inl ⟨g',env',V',hk,h1,h2⟩
 . exact .inr ⟨ch,rfl,h⟩
theorem OkY.loop{c:Code}{ι:Type}(I:ι->Option Nat->List (Nat × D)->Prop)(m:ι->Nat)(x0:ι)(h0:I x0 g env)
    (round:∀ x g env,I x g env->OkY P T l xs n c (thenY (fun g' env'=>∃ x',m x' < m x/\I x' g' env') Q) g env):OkY P T l xs n (.loop c) Q g env:=by
 refine⟨fun B J Jp hY V a w hJ hp=>?_⟩
 refine wp_loop_at (fun k a w=>∃ x g env V,m x=k/\I x g env/\J g V w/\PureS (szOf T) B V env n a w) ?_ ⟨x0,g,env,V,rfl,h0,hJ,hp⟩
 rintro k a w ⟨x,g,env,V,rfl,hI,hJ,hp⟩
 refine wp_mono ((round x g env hI).run B J Jp hY V a w hJ hp) ?_
 rintro e a' w' (⟨g',env',V',hk,h1,h2⟩|⟨ch,rfl,h⟩)
 . cases e with
   | normal=>
    obtain⟨x',hlt,hI'⟩:=hk
    exact⟨m x',hlt,x',g',env',V',rfl,hI',h1,h2⟩
   | _=>exact .inl ⟨g',env',V',hk,h1,h2⟩
 . exact .inr ⟨ch,rfl,h⟩
def yCallK(P:Program)(T:Tab)(l n:Nat)(ops r:List Oper)(x:List D)(Q:Exit->Option Nat->List (Nat × D)->Prop)(k:Nat)(o:Oper)(s:St):Prop:=
 match o.guard with
 | some _=>False
 | none=>match o.op with
  | .call { callee:=.value (.tmp t),args,argTypes:=_ }=>s.get (.tmp t) = .yld l/\s.gets args.toList=x/\imms x=true/\purK n s fun env'=>
      (putK ⟨env',[],[],n⟩ o.dst .tt fun s=>vops P T ops r s fun s'=>purK n s' (Q .normal (some (k+1))))/\(putK ⟨env',[],[],n⟩ o.dst .ff fun s=>vops P T ops r s fun s'=>purK n s' (Q .normal none))
  | _=>False
theorem RS.yld_{sz:TypeId->Nat}{V:Vw}{μ:List Nat}{ω:List Value}{v:Value}{l:Nat}(h:RS sz V μ ω v (.yld l)):v = .func (.yield l) #[] #[]:=by
 cases h with|imm _ _ h=>cases h;rfl
structure OkZ(P:Program)(T:Tab)(l:Nat)(xs:List (List D))(n:Nat)(c:Code)(Q:Exit->Option Nat->List (Nat × D)->Prop)(g:Option Nat)(s:St):Prop where
 run:∀ (B:Nat) J Jp,Yields P T l B xs J Jp->∀ (V:Vw) (a0:Act) (w0:World) (env:List (Nat × D)),J g V w0->PureS (szOf T) B V env n a0 w0 ->
  ∀ (V':Vw) (μ:List Nat) (ω:List Value) (a:Act) (w:World),Sim (szOf T) w0 ⟨V,fun _=>undef,a0.defers,[],[]⟩ V' μ ω s a w->c.wp P (yPost P T B J Jp n Q) a w
theorem OkY.ofZ{c:Code}(h:OkZ P T l xs n c Q g ⟨env,[],[],n⟩):OkY P T l xs n c Q g env:=
 ⟨fun B J Jp hY V a w hJ hp=>h.run B J Jp hY V a w env hJ hp V [] [] a w hp.sim⟩
theorem OkZ.seq{x y:Code}{s:St}(h:Ok P T x (thenQ (OkZ P T l xs n y Q g) (fun e s'=>purK n s' fun env'=>Q e g env')) s):OkZ P T l xs n (.seq x y) Q g s:=by
 refine⟨fun B J Jp hY V a0 w0 env hJ hp V' μ ω a w hS=>wp_seq (wp_mono (h.run w0 _ V' μ ω a w hS) ?_)⟩
 rintro e a' w' ⟨s',V2,μ',ω',hq,hS2⟩
 have pur:∀ e,purK n s' (fun env'=>Q e g env')->yPost P T B J Jp n Q e a' w':=fun e hq=>by
  obtain⟨env',hk,hp'⟩:=hp.after hS2 hq
  exact .inl ⟨g,env',V2,hk,hY.grow g V V2 w0 w' hJ hS2.mem.below hS2.mem.vle hS2.mem.vok (fresh_of hS2.mem rfl),hp'⟩
 cases e with
 | normal=>exact OkZ.run hq B J Jp hY V a0 w0 env hJ hp V2 μ' ω' a' w' hS2
 | _=>exact pur _ hq
theorem OkZ.seqY{x y:Code}{s:St}(h:OkZ P T l xs n x (thenY (OkY P T l xs n y Q) Q) g s):OkZ P T l xs n (.seq x y) Q g s:=by
 refine⟨fun B J Jp hY V a0 w0 env hJ hp V' μ ω a w hS=>wp_seq (wp_mono (h.run B J Jp hY V a0 w0 env hJ hp V' μ ω a w hS) ?_)⟩
 rintro e a' w' (⟨g',env',V',hk,h1,h2⟩|⟨ch,rfl,h⟩)
 . cases e with
   | normal=>exact OkY.run hk B J Jp hY V' a' w' h1 h2
   | _=>exact .inl ⟨g',env',V',hk,h1,h2⟩
 . exact .inr ⟨ch,rfl,h⟩
theorem OkZ.ofY{c:Code}{s:St}(h:purK n s fun env'=>OkY P T l xs n c Q g env'):OkZ P T l xs n c Q g s:=by
 refine⟨fun B J Jp hY V a0 w0 env hJ hp V' μ ω a w hS=>?_⟩
 obtain⟨env',hk,hp'⟩:=hp.after hS h
 exact hk.run B J Jp hY V' a w (hY.grow g V V' w0 w hJ hS.mem.below hS.mem.vle hS.mem.vok (fresh_of hS.mem rfl)) hp'
theorem OkZ.yreg(hT:TOk P T){s0:St}{id:Nat}{ops:List Oper}(j k:Nat)(x:List D)(hx:xs[k]? = some x)(h:vopsCut P T ops j ops s0 (yCallK P T l n ops (ops.drop (j+1)) x Q k)) :
    OkZ P T l xs n (.region id ops.toArray false) Q (some k) s0:=by
 refine⟨fun B J Jp hY V a0 w0 env hJ hp V' μ ω a w hS0=>(wpIn_wide (n:=0)).1 ?_⟩
 show Code.wpIn (fen none) 0 P _ _ a w
 refine wpIn_region_lit (vopsCutIn_sound hT j ops _ V' μ ω a w _ hS0 h ?_)
 intro o r s V1 μ1 ω1 a1 w1 hr hk hS1
 have hr2:ops.drop (j+1)=r:=by rw[<- List.drop_drop,hr];rfl
 rw[hr2] at hk
 obtain⟨dst,op,type,pos,after,guard⟩:=o
 unfold yCallK at hk
 split at hk
 . exact hk.elim
 rename_i hg
 dsimp only at hg
 subst hg
 split at hk
 case h_2=>exact hk.elim
 rename_i t args ats hop
 dsimp only at hop
 subst hop
 obtain⟨hyl,hgs,him,hk⟩:=hk
 have hev:a1.eval (.tmp t) = .func (.yield l) #[] #[]:=by have:=hS1.get (.tmp t);rw[hyl] at this;exact this.yld_
 obtain⟨env',⟨hk1,hk2⟩,hp1⟩:=hp.after hS1 hk
 have hJ1:=hY.grow _ _ _ _ _ hJ hS1.mem.below hS1.mem.vle hS1.mem.vok (fresh_of hS1.mem rfl)
 obtain⟨ms,e1,e2,e3⟩:=hp1.marks
 have hvals:=hS1.gets args.toList
 rw[hgs] at hvals
 obtain⟨fn,tmps,assign,body,hyi,hround⟩:=hY.round k x V1 w1 (args.toList.map a1.eval) hx hJ1 hvals.1 (fun i v d h1 h2=>immD_ri (hvals.2 i v d h1 h2) (imms_at him i d h2)) (keptOf ms) (fun y hy=>by
  obtain⟨D,hD,rfl⟩:=List.mem_map.1 hy
  exact⟨(e3 D hD).1,(e3 D hD).2,fun _ _ _ e=>by cases e⟩)
 unfold wpListIn
 rw[if_pos (by simp[Region.wanted])]
 refine⟨fun _ _=>trivial,?_⟩
 have hrun:(execOp a1.eval ⟨dst,.call ⟨.value (.tmp t),args,ats⟩,type,pos,after,none⟩).run P w1 = .ok (.round l fn tmps assign body) w1:=by
  have ha:(args.toList.map a1.eval).toArray=args.map a1.eval:=by apply Array.ext';simp
  rw[ha] at hyi
  simp only[execOp,resolve,hev,Deferred.ofValue,Sem.run_bind,Sem.run_pure,Result.andThen_ok]
  simp[invoke,go_sem,hyi]
 have hsem:∀ o,Oper.semAt (fen none).round a1.eval o=execOp a1.eval o:=fun o=>Oper.semAt_none _ _
 rw[hsem,hrun]
 refine⟨(fun hh=>by cases hh),?_⟩
 refine RoundIn.mono hround ?_
 rintro e W' ⟨hE,h⟩
 have hmk:∃ ms:List Nat,a1.defers=ms.map mkD/\ms.Nodup/\∀ D ∈ ms,B<=D/\W'.heap[D]? = some (.deferred (some [])):=⟨ms,e1,e2,fun D hD=>⟨(e3 D hD).1,hE (D,_) (List.mem_map.2 ⟨D,hD,rfl⟩)⟩⟩
 have go:∀ {g':Option Nat} {V2:Vw} {d:D} {v:Value},VLe V1 V2->J g' V2 W'->RS (szOf T) V2 [] [] v d->(putK ⟨env',[],[],n⟩ dst d fun s=>vops P T ops r s fun s'=>purK n s' (Q .normal g')) ->
     wpListIn (fen none) 0 P ops.toArray (yPost P T B J Jp n Q) r (a1.put dst v) W':=by
  intro g' V2 d v hle hJ2 hv hput
  have hp2:PureS (szOf T) B V2 env' n a1 W':=⟨hp1.tmps,hmk,hY.size _ _ _ hJ2,hY.vok _ _ _ hJ2,fun t=>(hp1.env t).mono hle (.refl _) (.refl _)⟩
  obtain⟨s3,hq3,hS3⟩:=putK_sound hp2.sim hv hput
  refine vopsIn_sound hT r s3 V2 [] [] _ W' _ hS3 hq3 ?_
  intro s4 V4 μ4 ω4 a4 w4 hk4 hS4
  obtain⟨env5,hk5,hp5⟩:=hp2.after (a':=a4) (w':=w4) hS4 hk4
  exact .inl ⟨g',env5,V4,hk5,hY.grow _ _ _ _ _ hJ2 hS4.mem.below hS4.mem.vle hS4.mem.vok (fresh_of hS4.mem rfl),hp5⟩
 rcases h with⟨V2,hle,⟨rfl,hJ2⟩|⟨rfl,hJ2⟩⟩|⟨c,rfl,hJp⟩
 . exact go hle hJ2 (.imm _ _ .tt) hk1
 . exact go hle hJ2 (.imm _ _ .ff) hk2
 . exact .inr ⟨c,rfl,hJp,hmk⟩
theorem OkY.yreg(hT:TOk P T){id:Nat}{ops:List Oper}(j k:Nat)(x:List D)(hx:xs[k]? = some x)(h:vopsCut P T ops j ops ⟨env,[],[],n⟩ (yCallK P T l n ops (ops.drop (j+1)) x Q k)) :
    OkY P T l xs n (.region id ops.toArray false) Q (some k) env:=.ofZ (.yreg hT j k x hx h)
theorem J_shut{l B:Nat}{xs:List (List D)}{J:Option Nat->Vw->World->Prop}{Jp:List PanicEntry->World->Prop}(hY:Yields P T l B xs J Jp):∀ (ms:List Nat) (w:World),ms.Nodup->(∀ D ∈ ms,B<=D/\w.heap[D]? = some (.deferred (some []))) ->
    (∀ g V,J g V w->J g V (shut ms w))/\∀ c,Jp c w->Jp c (shut ms w)
 | [],w,_,_=>⟨fun _ _ h=>h,fun _ h=>h⟩
 | D :: ms,w,hn,hd=>by
  obtain⟨h1,h2⟩:=List.nodup_cons.1 hn
  obtain⟨a,b⟩:=J_shut hY ms (w.putObj D (.deferred none)) h2 (fun E hE=>⟨(hd E (by simp[hE])).1,(World.putObj_heap_other (r:=D) (k:=E) fun e=>h1 (e ▸ hE)).trans (hd E (by simp[hE])).2⟩)
  exact⟨fun g V h=>a g V (hY.shut g V w D h (hd D (by simp)).1 (hd D (by simp)).2),fun c h=>b c (hY.shutp c w D h (hd D (by simp)).1 (hd D (by simp)).2)⟩
theorem YSpec.of_okY{f:FuncId}{fn:Func}{c:Code}(hf:P.funcs[f]? = some fn)(hb:fn.body=some c)(hcall:∀ args w,(callFunc f args).run P w = .ok (.enter f args) w){cap:List D}(hres:fn.results=#[])(hn:cap.length+1<=fn.ntmps)
    (h:∀ l,OkY P T l xs fn.ntmps c (fun e g _=>(e = .normal\/e = .ret)/\(g=some xs.length\/g=none)) (some 0) (envOf 0 (.yld l :: cap))):YSpec P T f cap xs:=by
 refine⟨hcall,fun V w args hl hR l J Jp hY hJ=>calls_of_wp_X hf hb ?_⟩
 have hst:=start_sim (T:=T) (fn:=fn) (ds:=.yld l :: cap) (V:=V) (w:=w) (args:=#[.func (.yield l) #[] #[]]++args) (df:=[]) (by simpa using hn) (hY.vok _ _ _ hJ) (by simp;omega) (fun j v d h1 h2=>by
  cases j with
  | zero=>
   rw[Array.getElem?_append_left (by simp)] at h1
   simp at h1 h2
   subst h1 h2
   exact .yld l
  | succ j=>
   refine hR j v d ?_ (by simpa using h2)
   rw[Array.getElem?_append_right (by simp)] at h1
   simpa using h1)
 refine wp_mono ((h l).run w.heap.size J Jp hY V _ w hJ ⟨hst.tmps,⟨[],rfl,List.nodup_nil,by simp⟩,Nat.le_refl _,hY.vok _ _ _ hJ,hst.env⟩) ?_
 rintro e a' w' (⟨g',env',V',⟨he,hg⟩,hJ',hp⟩|⟨ch,rfl,hJp,ms,e1,e2,e3⟩)
 . obtain⟨ms,e1,e2,e3⟩:=hp.marks
   have fin:LeavesX P fn a'.tmps (fun e w'=>((∃ v,e = .returned v)/\∃ V',J (some xs.length) V' w'\/J none V' w')\/∃ c,e = .panicked c/\Jp c w') a'.defers .returning w':=by
    rw[e1,<- List.append_nil (ms.map mkD)]
    refine leavesX_marks (by simp) ms w' e2 (fun D hD=>(e3 D hD).2) ⟨.tuple #[],?_,.inl ⟨⟨_,rfl⟩,V',?_⟩⟩
    . rw[results_eq,hres]
      simp
    . have:=(J_shut hY ms w' e2 e3).1 g' V' hJ'
      rcases hg with rfl|rfl
      . exact .inl this
      . exact .inr this
   rcases he with rfl|rfl
   . exact fin
   . exact fin
 . show LeavesX P fn a'.tmps _ a'.defers _ w'
   rw[e1,<- List.append_nil (ms.map mkD)]
   exact leavesX_marks (by simp) ms w' e2 (fun D hD=>(e3 D hD).2) (.inr ⟨ch,rfl,(J_shut hY ms w' e2 e3).2 ch hJp⟩)
theorem effW.of{s:St}{f:FuncId}{ds:List D}{K:D->St->Prop}(h:effK P T s f ds K):effW P T s f ds K:=
 ⟨h.call,fun w0 V0 V μ ω a w vs hS hl hR=>(h.run w0 V0 V μ ω a w vs hS hl hR).mono fun _ _ ⟨v,d,s',V',μ',ω',h1,h2,h3,h4,_⟩=>⟨v,d,s',V',μ',ω',h1,h2,h3,h4⟩⟩
end
end Go.Vx
namespace Go.Proofs.YtaiondckookpiaaDoor
open Go Go.Vx
def ov1(a b:UInt8):UInt8:=if a=120 then b else a
def curL(c d:Str)(i:Nat):Str:=List.zipWith ov1 (c.take i) (d.take i)++c.drop i
def pcT(c d:Str)(j:Nat):Option Str:=
 match c[j]?,d[j]? with
 | some a,some b=>if a=120/\b ≠ 120 then some ((curL c d j).set j (97 - b)) else none
 | _,_=>none
def pcsT(c d:Str)(i:Nat):List Str:=(List.range i).filterMap (pcT c d)
def splitT(c d:Str):List Str:=if (meetT c d).isSome then pcsT c d c.length else [c]
theorem pcsT_some{c d:Str}{i:Nat}{x:Str}(h:pcT c d i=some x):pcsT c d (i+1)=pcsT c d i++[x]:=by
 unfold pcsT;rw[List.range_succ,List.filterMap_append];simp[h]
theorem pcsT_none{c d:Str}{i:Nat}(h:pcT c d i=none):pcsT c d (i+1)=pcsT c d i:=by
 unfold pcsT;rw[List.range_succ,List.filterMap_append];simp[h]
theorem pcT_at{c d:Str}{j:Nat}{a b:UInt8}(ha:c[j]? = some a)(hb:d[j]? = some b):pcT c d j=if a=120/\b ≠ 120 then some ((curL c d j).set j (97 - b)) else none:=by
 unfold pcT;rw[ha,hb]
theorem curL_len{c d:Str}(hl:d.length=c.length)(i:Nat):(curL c d i).length=c.length:=by simp[curL];omega
theorem curL_at{c d:Str}{i:Nat}{a:UInt8}(ha:c[i]? = some a)(hd:i<d.length):(curL c d i)[i]? = some a:=by
 have hi:i<c.length:=(List.getElem?_eq_some_iff.1 ha).1
 have hl:(List.zipWith ov1 (c.take i) (d.take i)).length=i:=by simp;omega
 unfold curL
 rw[List.getElem?_append_right (by omega),hl,Nat.sub_self,List.getElem?_drop]
 exact ha
theorem curL_succ{c d:Str}{i:Nat}{a b:UInt8}(ha:c[i]? = some a)(hb:d[i]? = some b):curL c d (i+1)=(curL c d i).set i (ov1 a b):=by
 have hi:i<c.length:=(List.getElem?_eq_some_iff.1 ha).1
 have hi2:i<d.length:=(List.getElem?_eq_some_iff.1 hb).1
 have hl:(List.zipWith ov1 (c.take i) (d.take i)).length=i:=by simp;omega
 unfold curL
 rw[List.set_append,if_neg (by omega),hl,Nat.sub_self,List.drop_eq_getElem_cons hi,List.set_cons_zero,take_snoc ha,take_snoc hb]
 rw[List.zipWith_append (by simp;omega)]
 simp
theorem curL_zero(c d:Str):curL c d 0=c:=by simp[curL]
theorem set_self{l:Str}{i:Nat}{a:UInt8}(h:l[i]? = some a):l.set i a=l:=by
 have hi:=(List.getElem?_eq_some_iff.1 h).1
 apply List.ext_getElem?
 intro k
 by_cases hk:k=i
 . subst hk;rw[List.getElem?_set_self hi,h]
 . rw[List.getElem?_set_ne (Ne.symm hk)]
theorem curL_same{c d:Str}{i:Nat}{a b:UInt8}(ha:c[i]? = some a)(hb:d[i]? = some b)(h:¬ (a=120/\b ≠ 120)):curL c d (i+1)=curL c d i:=by
 rw[curL_succ ha hb,show ov1 a b=a by
  unfold ov1
  split
  . rename_i he
    by_cases hb2:b=120
    . rw[hb2,he]
    . exact absurd ⟨he,hb2⟩ h
  . rfl]
 exact set_self (curL_at ha (List.getElem?_eq_some_iff.1 hb).1)
theorem ct_set{l:Str}{i:Nat}{b:UInt8}(h:CT l)(hb:b=48\/b=49\/b=120):CT (l.set i b):=by
 refine⟨by rw[List.length_set];exact h.len,fun x hx=>?_⟩
 rcases List.mem_or_eq_of_mem_set hx with hx|rfl
 . exact h.cub x hx
 . exact hb
theorem ov1_cub{a b:UInt8}(ha:a=48\/a=49\/a=120)(hb:b=48\/b=49\/b=120):ov1 a b=48\/ov1 a b=49\/ov1 a b=120:=by
 unfold ov1;split
 . exact hb
 . exact ha
theorem curL_ct{c d:Str}(hc:CT c)(hd:CT d)(hl:d.length=c.length)(i:Nat):CT (curL c d i):=by
 induction i with
 | zero=>rw[curL_zero];exact hc
 | succ i ih=>
  by_cases hi:i<c.length
  . have ha:=List.getElem?_eq_getElem hi
    have hb:=List.getElem?_eq_getElem (show i<d.length by omega)
    rw[curL_succ ha hb]
    exact ct_set ih (ov1_cub (hc.cub _ (List.mem_of_getElem? ha)) (hd.cub _ (List.mem_of_getElem? hb)))
  . rw[show curL c d (i+1)=curL c d i by
      unfold curL
      rw[List.take_of_length_le (show c.length<=i+1 by omega),List.take_of_length_le (show d.length<=i+1 by omega),List.take_of_length_le (show c.length<=i by omega),List.take_of_length_le (show d.length<=i by omega),List.drop_of_length_le (show c.length<=i+1 by omega),List.drop_of_length_le (show c.length<=i by omega)]]
    exact ih
theorem opp_cub{b:UInt8}(hb:b=48\/b=49\/b=120)(h:b ≠ 120):97 - b=48\/97 - b=49\/97 - b=120:=by
 rcases hb with rfl|rfl|rfl
 . right;left;rfl
 . left;rfl
 . exact absurd rfl h
theorem pcsT_cn{c d:Str}(hc:CN c)(hd:CT d)(hl:d.length=c.length)(i:Nat):∀ x ∈ pcsT c d i,CN x/\x.length=c.length:=by
 intro x hx
 obtain⟨j,_,hj⟩:=List.mem_filterMap.1 hx
 unfold pcT at hj
 split at hj
 . rename_i a b ha hb
   split at hj
   . rename_i hab
     cases hj
     have h1:=curL_len hl j
     refine⟨⟨ct_set (curL_ct hc.1 hd hl j) (opp_cub (hd.cub _ (List.mem_of_getElem? hb)) hab.2),fun e=>hc.2 ?_⟩,by rw[List.length_set];exact h1⟩
     have:=congrArg List.length e
     rw[List.length_set,h1] at this
     exact List.eq_nil_of_length_eq_zero (by simpa using this)
   . cases hj
 . cases hj
theorem splitT_cn{c d:Str}(hc:CN c)(hd:CT d):∀ x ∈ splitT c d,CN x/\x.length=c.length:=by
 intro x hx
 unfold splitT at hx
 split at hx
 . rename_i h
   obtain⟨m,hm⟩:=Option.isSome_iff_exists.1 h
   rw[meetT_eq hc.2] at hm
   have:=meetL_len hm
   exact pcsT_cn hc hd (by omega) _ x hx
 . simp at hx;subst hx;exact⟨hc,rfl⟩
theorem pcsT_len(c d:Str)(i:Nat):(pcsT c d i).length<=i:=by
 have:=List.length_filterMap_le (pcT c d) (List.range i)
 simpa[pcsT] using this
theorem splitT_len{c d:Str}(hc:c.length<=256):(splitT c d).length<=256:=by
 unfold splitT
 split
 . exact Nat.le_trans (pcsT_len _ _ _) hc
 . simp
end Go.Proofs.YtaiondckookpiaaDoor
namespace Go.Proofs.YtaiondckookpiaaDoor
open Go Go.Vx
@[reducible] def w4(f:Nat->Bool):List D:=[.i .u64 ((wof f 0).toNat:Int),.i .u64 ((wof f 1).toNat:Int),.i .u64 ((wof f 2).toNat:Int),.i .u64 ((wof f 3).toNat:Int)]
set_option maxHeartbeats 4000000 in
theorem at_one(f:Nat->Bool)(i:Nat)(hi:i<256):FSpec Tryd.prog T 64 [.ep (w4 f),.i .i64 (i:Int)] (fun d rows=>d = .b (f i=true)/\rows=[]):=by
 refine FSpec.of_ok tok Tryd.func64 rfl Tryd.call64 (by simp) ?_
 obtain⟨q,r,hqr,hr,hq⟩:=split64 i (by omega)
 have hrem:=rem64 hqr hr
 have hquo:=quo64 hqr hr (by omega)
 have hrr:((r:Nat):Int)=((r:Nat):Int)/\r<64:=⟨rfl,hr⟩
 have hca:=at_word (f:=f) hqr hr
 rcases hq with rfl|rfl|rfl|rfl
 all_goals
  (try (conv=>whnf));repeat' (first|((with_reducible_and_instances (first|refine nShr (by assumption) ?_|refine nAnd1' rfl ?_));conv=>whnf)|refine Ok.seq ?_|((first|refine Ok.region tok ?_|refine⟨_,(hquo.symm).symm,?_⟩|refine⟨_,(hrem.symm).symm,?_⟩|refine Ok.ret ?_|refine aJ ?_|refine⟨_,rfl,?_⟩);conv=>whnf)|fail)
  refine Or.inl ?_;(conv=>whnf)
  exact⟨congrArg D.b (propext hca),rfl⟩
set_option maxHeartbeats 4000000 in
theorem at_two(f g:Nat->Bool)(i:Nat)(hi:i<256):FSpec Tryd.prog T 64 [.ep (w4 f++w4 g),.i .i64 (i:Int)] (fun d rows=>d = .b (f i=true)/\rows=[]):=by
 refine FSpec.of_ok tok Tryd.func64 rfl Tryd.call64 (by simp) ?_
 obtain⟨q,r,hqr,hr,hq⟩:=split64 i (by omega)
 have hrem:=rem64 hqr hr
 have hquo:=quo64 hqr hr (by omega)
 have hrr:((r:Nat):Int)=((r:Nat):Int)/\r<64:=⟨rfl,hr⟩
 have hca:=at_word (f:=f) hqr hr
 rcases hq with rfl|rfl|rfl|rfl
 all_goals
  (try (conv=>whnf));repeat' (first|((with_reducible_and_instances (first|refine nShr (by assumption) ?_|refine nAnd1' rfl ?_));conv=>whnf)|refine Ok.seq ?_|((first|refine Ok.region tok ?_|refine⟨_,(hquo.symm).symm,?_⟩|refine⟨_,(hrem.symm).symm,?_⟩|refine Ok.ret ?_|refine aJ ?_|refine⟨_,rfl,?_⟩);conv=>whnf)|fail)
  refine Or.inl ?_;(conv=>whnf)
  exact⟨congrArg D.b (propext hca),rfl⟩
theorem ints_crow(c:Str):∀ d ∈ crow c,∃ k n,d = .i k n:=by
 intro d hd
 simp only[List.mem_cons,List.not_mem_nil,or_false] at hd
 rcases hd with rfl|rfl|rfl|rfl|rfl|rfl|rfl|rfl|rfl<;>exact⟨_,_,rfl⟩
theorem pk2{box:List (List D)}{a b x y:D}(h1:Pk box a x)(h2:Pk box b y):∀ (j:Nat) d e,[a,b][j]? = some d->[x,y][j]? = some e->Pk box d e:=by
 intro j d e hd he
 match j,hd,he with
 | 0,hd,he=>cases hd;cases he;exact h1
 | 1,hd,he=>cases hd;cases he;exact h2
 | j+2,hd,_=>simp at hd
end Go.Proofs.YtaiondckookpiaaDoor
namespace Go.Proofs.YtaiondckookpiaaDoor
open Go Go.Vx
theorem car_set{l:Str}{i:Nat}{b:UInt8}(h:l[i]? = some 120)(hb:dig b=true)(j:Nat):car (l.set i b) j=(car l j || decide (j=i)):=by
 have hi:=(List.getElem?_eq_some_iff.1 h).1
 by_cases hj:j=i
 . subst hj
   have h2:(l.set j b)[j]? = some b:=List.getElem?_set_self hi
   rw[(at_b h2).1,hb]
   simp
 . have:(l.set i b)[j]? = l[j]?:=List.getElem?_set_ne (Ne.symm hj)
   simp only[car,this,hj,decide_false,Bool.or_false]
theorem one_set{l:Str}{i:Nat}(h:l[i]? = some 120)(j:Nat):one (l.set i 49) j=(one l j || decide (j=i)):=by
 have hi:=(List.getElem?_eq_some_iff.1 h).1
 by_cases hj:j=i
 . subst hj
   have h2:(l.set j 49)[j]? = some 49:=List.getElem?_set_self hi
   rw[(at_b h2).2]
   simp
 . have:(l.set i 49)[j]? = l[j]?:=List.getElem?_set_ne (Ne.symm hj)
   simp only[one,this,hj,decide_false,Bool.or_false]
theorem one_set0{l:Str}{i:Nat}(h:l[i]? = some 120)(j:Nat):one (l.set i 48) j=one l j:=by
 have hi:=(List.getElem?_eq_some_iff.1 h).1
 by_cases hj:j=i
 . subst hj
   have h2:(l.set j 48)[j]? = some 48:=List.getElem?_set_self hi
   rw[(at_b h2).2,(at_b h).2]
   rfl
 . have:(l.set i 48)[j]? = l[j]?:=List.getElem?_set_ne (Ne.symm hj)
   simp only[one,this]
set_option maxHeartbeats 8000000 in
theorem split_at(c d:Str)(hc:CN c)(hd:CT d):FSpec Tryd.prog T 83 [.agg (crow c),.agg (crow d)] (fun r rows=>∃ rm,r = .lst 69 ((splitT c d).map crow) rm/\rows=[]):=by
 have hcl:=hc.1.len
 have hm:=meet_at c d hc.1 hd
 refine FSpec.of_ok tok Tryd.func83 rfl Tryd.call83 (by simp) ?_
 by_cases hs:(meetT c d).isSome=true
 . have hl:d.length=c.length:=by
     obtain⟨m,hm⟩:=Option.isSome_iff_exists.1 hs
     rw[meetT_eq hc.2] at hm
     have:=meetL_len hm
     omega
   (try (conv=>whnf));repeat' (first|refine Ok.seq ?_|((first|refine Ok.region tok ?_|refine Ok.cond ?_);conv=>whnf)|refine Ok.block ?_|((first|refine Ok.skip ?_|refine Ok.ret ?_);conv=>whnf)|(refine Or.inr (Or.inl ?_);(conv=>whnf);(repeat (refine aI ?_;conv=>whnf));refine⟨_,hm,?_⟩;rintro _ _ ⟨rfl,rfl⟩<;>(conv=>whnf))|(refine bI ?_ ?_<;>intro<;>(conv=>whnf)<;>(try (exfalso;omega)))|fail)
   . exact absurd hs (by assumption)
   refine Ok.ghost 7 69 rfl ?_
   (conv=>whnf)
   have e0:crow c=crow (curL c d 0):=by rw[curL_zero]
   have hll:((List.length c:Nat):Int)=((List.length (curL c d 0):Nat):Int):=by rw[curL_zero]
   refine Ok.loopU [2,3,21] [7,22] 1 3 (fun (i:Nat)=>[.own 0 (pcsT c d i).length,.i .i64 (i:Nat)]) (fun (i:Nat) (_:List (List D))=>[crow (curL c d i),crow d,crow ((meetT c d).getD [])]) (fun (i:Nat) (_:Vx.Rows)=>[some (69,(pcsT c d i).map crow)]) (fun (i:Nat)=>i<=c.length) (fun (i:Nat)=>c.length - i) (0) (Nat.zero_le _) ?_;(conv=>whnf);refine⟨by ((conv=>whnf);first|rfl|(simp[envCat,List.take_of_length_le,cells9,crow];done)|(simp[envCat,List.take_of_length_le,cells9,crow];rw[IntKind.wrap_i64];omega)),?_⟩
   rintro i hi
   have hcu:=curL_len hl i
   have hct:=curL_ct hc.1 hd hl i
   have hpl:=pcsT_len c d i
   have hpm:((pcsT c d i).map crow).length=(pcsT c d i).length:=by simp
   (conv=>whnf)
   by_cases hil:i<c.length
   . obtain⟨a,ha⟩:∃ a,c[i]? = some a:=⟨_,List.getElem?_eq_getElem hil⟩
     obtain⟨b,hb⟩:∃ b,d[i]? = some b:=⟨_,List.getElem?_eq_getElem (by omega)⟩
     have hz:=curL_at ha (show i<d.length by omega)
     have hac:=hc.1.cub a (List.mem_of_getElem? ha)
     have hbc:=hd.cub b (List.mem_of_getElem? hb)
     have hpc:=pcT_at ha hb
     have hsu:=curL_succ ha hb
     have hsm:=fun h=>curL_same ha hb h
     generalize hL:curL c d i=L at *
     generalize hQ:pcsT c d i=Q at *
     have s1:=at_two (car L) (one L) i (by omega)
     have s2:=at_two (car d) (one d) i (by omega)
     have s3:=at_one (one d) i (by omega)
     rw[(at_b hz).1] at s1
     rw[(at_b hb).1] at s2
     rw[(at_b hb).2] at s3
     obtain⟨q,r,hqr,hr,hq⟩:=split64 i (by omega)
     have hrem:=rem64 hqr hr
     have hquo:=quo64 hqr hr (by omega)
     have hrr:((r:Nat):Int)=((r:Nat):Int)/\r<64:=⟨rfl,hr⟩
     by_cases hab:a=120/\b ≠ 120
     . obtain⟨rfl,hb2⟩:=hab
       rw[if_pos ⟨rfl,hb2⟩] at hpc
       have hsn:=pcsT_some hpc
       rw[hQ] at hsn
       rw[show ov1 120 b=b from rfl] at hsu
       rcases hbc with rfl|rfl|rfl
       . rw[show (97:UInt8) - 48=49 from rfl] at hsn
         have k:=put_word (f:=car L) (g:=car (L.set i 48)) hqr hr (car_set hz rfl)
         have k':=put_word (f:=car L) (g:=car (L.set i 49)) hqr hr (car_set hz rfl)
         have o:=fun k=>wof_ext (f:=one (L.set i 48)) (g:=one L) (k:=k) fun j _=>one_set0 hz _
         have o':=put_word (f:=one L) (g:=one (L.set i 49)) hqr hr (one_set hz)
         rcases hq with rfl|rfl|rfl|rfl
         all_goals
          (try (conv=>whnf));repeat' (first|refine Ok.seq ?_|((first|refine Ok.region tok ?_|refine Ok.cond ?_);conv=>whnf)|refine Ok.block ?_|((first|refine Ok.skip ?_|refine Ok.exit ?_|refine nI ?_);conv=>whnf)|(refine Or.inr (Or.inr (Or.inr (Or.inr ?_)));(conv=>whnf);refine effW.of (effK.peek (by rfl) (pk2 (.bp _ _ ( crow L) rfl (fun d hd=>ints_crow _ d (List.mem_of_mem_drop hd))) (.i _ _)) (s1 ) ?_);rintro _ _ ⟨rfl,rfl⟩;(refine And.intro (by simp[gRowsP,grounds,D.ground]) ?_;conv=>whnf))|(refine Or.inr (Or.inr (Or.inr (Or.inr ?_)));(conv=>whnf);refine effW.of (effK.peek (by rfl) (pk2 (.bp _ _ ( crow d) rfl (fun d hd=>ints_crow _ d (List.mem_of_mem_drop hd))) (.i _ _)) (s2 ) ?_);rintro _ _ ⟨rfl,rfl⟩;(refine And.intro (by simp[gRowsP,grounds,D.ground]) ?_;conv=>whnf))|(refine bI ?_ ?_<;>intro<;>(conv=>whnf)<;>(try (exfalso;omega)))|fail)
          all_goals first
           | contradiction
           | skip
          refine Or.inr (Or.inr (Or.inl ?_));(conv=>whnf);refine⟨_,_,Tryd.func70,rfl,Tryd.call70,?_⟩;(conv=>whnf)
          (try (conv=>whnf));repeat' (first|((with_reducible_and_instances (first|refine nShl1' rfl (by assumption) ?_|refine nOr ?_));conv=>whnf)|refine Ok.seq ?_|((first|refine Ok.region tok ?_|refine Ok.region_plan (id:=0) tok follows [(5,12,[])] [.q 0,.q 1,.q 2,.q 3,.q 4,.q 5,.q 6,.q 7,.q 8,.q 9,.q 10,.q 11,.l 12] (by kernel_rfl) ?_|refine⟨_,(hquo.symm).symm,?_⟩|refine⟨_,(hrem.symm).symm,?_⟩|refine Ok.cond ?_);conv=>whnf)|(refine Or.inr (Or.inr (Or.inr (Or.inr ?_)));(conv=>whnf);refine effW.of (effK.peek (by rfl) (pk2 (.bp _ _ ( crow d) rfl (fun d hd=>ints_crow _ d (List.mem_of_mem_drop hd))) (.i _ _)) (s3 ) ?_);rintro _ _ ⟨rfl,rfl⟩;(refine And.intro (by simp[gRowsP,grounds,D.ground]) ?_;conv=>whnf))|(refine bI ?_ ?_<;>intro<;>(conv=>whnf)<;>(try (exfalso;omega)))|((first|refine aJ ?_|refine⟨_,rfl,?_⟩);conv=>whnf)|fail)
          all_goals first
           | contradiction
           | skip
          refine Or.inr (Or.inr (Or.inl ?_));(conv=>whnf);refine⟨_,_,Tryd.func70,rfl,Tryd.call70,?_⟩;(conv=>whnf)
          (try (conv=>whnf));repeat' (first|((first|(with_reducible_and_instances (first|refine nShl1' rfl (by assumption) ?_|refine nOr ?_))|refine Ok.region tok ?_|refine Ok.region_plan (id:=0) tok follows [(5,12,[])] [.q 0,.q 1,.q 2,.q 3,.q 4,.q 5,.q 6,.q 7,.q 8,.q 9,.q 10,.q 11,.l 12] (by kernel_rfl) ?_|refine⟨_,(hquo.symm).symm,?_⟩|refine⟨_,(hrem.symm).symm,?_⟩|refine nI ?_|refine Alt2.l (aI ?_)|refine⟨_,.inl ⟨rfl,rfl⟩,?_⟩|refine⟨_,_,rfl,rfl,?_⟩|refine aJ ?_|refine⟨_,rfl,?_⟩);conv=>whnf)|fail)
          refine⟨i+1,by omega,by omega,?_⟩
          rw[hsu,hsn]
          have a0:=(k 0).trans (by first|exact if_pos rfl|exact if_neg (by decide))
          have a1:=(k 1).trans (by first|exact if_pos rfl|exact if_neg (by decide))
          have a2:=(k 2).trans (by first|exact if_pos rfl|exact if_neg (by decide))
          have a3:=(k 3).trans (by first|exact if_pos rfl|exact if_neg (by decide))
          have b0:=o 0
          have b1:=o 1
          have b2:=o 2
          have b3:=o 3
          have e0:=(k' 0).trans (by first|exact if_pos rfl|exact if_neg (by decide))
          have e1:=(k' 1).trans (by first|exact if_pos rfl|exact if_neg (by decide))
          have e2:=(k' 2).trans (by first|exact if_pos rfl|exact if_neg (by decide))
          have e3:=(k' 3).trans (by first|exact if_pos rfl|exact if_neg (by decide))
          have f0:=(o' 0).trans (by first|exact if_pos rfl|exact if_neg (by decide))
          have f1:=(o' 1).trans (by first|exact if_pos rfl|exact if_neg (by decide))
          have f2:=(o' 2).trans (by first|exact if_pos rfl|exact if_neg (by decide))
          have f3:=(o' 3).trans (by first|exact if_pos rfl|exact if_neg (by decide))
          (conv=>whnf)
          simp only[envCat,crow,cells9,List.length_set,List.map_append,List.map_cons,List.map_nil,List.length_append,List.length_map,List.length_cons,List.length_nil,a0,a1,a2,a3,b0,b1,b2,b3,e0,e1,e2,e3,f0,f1,f2,f3]
          rfl
       . rw[show (97:UInt8) - 49=48 from rfl] at hsn
         have k:=put_word (f:=car L) (g:=car (L.set i 49)) hqr hr (car_set hz rfl)
         have k':=put_word (f:=car L) (g:=car (L.set i 48)) hqr hr (car_set hz rfl)
         have o:=put_word (f:=one L) (g:=one (L.set i 49)) hqr hr (one_set hz)
         have o':=fun k=>wof_ext (f:=one (L.set i 48)) (g:=one L) (k:=k) fun j _=>one_set0 hz _
         rcases hq with rfl|rfl|rfl|rfl
         all_goals
          (try (conv=>whnf));repeat' (first|refine Ok.seq ?_|((first|refine Ok.region tok ?_|refine Ok.cond ?_);conv=>whnf)|refine Ok.block ?_|((first|refine Ok.skip ?_|refine Ok.exit ?_|refine nI ?_);conv=>whnf)|(refine Or.inr (Or.inr (Or.inr (Or.inr ?_)));(conv=>whnf);refine effW.of (effK.peek (by rfl) (pk2 (.bp _ _ ( crow L) rfl (fun d hd=>ints_crow _ d (List.mem_of_mem_drop hd))) (.i _ _)) (s1 ) ?_);rintro _ _ ⟨rfl,rfl⟩;(refine And.intro (by simp[gRowsP,grounds,D.ground]) ?_;conv=>whnf))|(refine Or.inr (Or.inr (Or.inr (Or.inr ?_)));(conv=>whnf);refine effW.of (effK.peek (by rfl) (pk2 (.bp _ _ ( crow d) rfl (fun d hd=>ints_crow _ d (List.mem_of_mem_drop hd))) (.i _ _)) (s2 ) ?_);rintro _ _ ⟨rfl,rfl⟩;(refine And.intro (by simp[gRowsP,grounds,D.ground]) ?_;conv=>whnf))|(refine bI ?_ ?_<;>intro<;>(conv=>whnf)<;>(try (exfalso;omega)))|fail)
          all_goals first
           | contradiction
           | skip
          refine Or.inr (Or.inr (Or.inl ?_));(conv=>whnf);refine⟨_,_,Tryd.func70,rfl,Tryd.call70,?_⟩;(conv=>whnf)
          (try (conv=>whnf));repeat' (first|((with_reducible_and_instances (first|refine nShl1' rfl (by assumption) ?_|refine nOr ?_));conv=>whnf)|refine Ok.seq ?_|((first|refine Ok.region tok ?_|refine Ok.region_plan (id:=0) tok follows [(5,12,[])] [.q 0,.q 1,.q 2,.q 3,.q 4,.q 5,.q 6,.q 7,.q 8,.q 9,.q 10,.q 11,.l 12] (by kernel_rfl) ?_|refine⟨_,(hquo.symm).symm,?_⟩|refine⟨_,(hrem.symm).symm,?_⟩|refine Ok.cond ?_);conv=>whnf)|(refine Or.inr (Or.inr (Or.inr (Or.inr ?_)));(conv=>whnf);refine effW.of (effK.peek (by rfl) (pk2 (.bp _ _ ( crow d) rfl (fun d hd=>ints_crow _ d (List.mem_of_mem_drop hd))) (.i _ _)) (s3 ) ?_);rintro _ _ ⟨rfl,rfl⟩;(refine And.intro (by simp[gRowsP,grounds,D.ground]) ?_;conv=>whnf))|(refine bI ?_ ?_<;>intro<;>(conv=>whnf)<;>(try (exfalso;omega)))|((first|refine aJ ?_|refine⟨_,rfl,?_⟩);conv=>whnf)|fail)
          all_goals first
           | contradiction
           | skip
          refine Or.inr (Or.inr (Or.inl ?_));(conv=>whnf);refine⟨_,_,Tryd.func70,rfl,Tryd.call70,?_⟩;(conv=>whnf)
          (try (conv=>whnf));repeat' (first|((first|(with_reducible_and_instances (first|refine nShl1' rfl (by assumption) ?_|refine nOr ?_))|refine Ok.region tok ?_|refine Ok.region_plan (id:=0) tok follows [(5,12,[])] [.q 0,.q 1,.q 2,.q 3,.q 4,.q 5,.q 6,.q 7,.q 8,.q 9,.q 10,.q 11,.l 12] (by kernel_rfl) ?_|refine⟨_,(hquo.symm).symm,?_⟩|refine⟨_,(hrem.symm).symm,?_⟩|refine nI ?_|refine Alt2.l (aI ?_)|refine⟨_,.inl ⟨rfl,rfl⟩,?_⟩|refine⟨_,_,rfl,rfl,?_⟩|refine aJ ?_|refine⟨_,rfl,?_⟩);conv=>whnf)|fail)
          refine⟨i+1,by omega,by omega,?_⟩
          rw[hsu,hsn]
          have a0:=(k 0).trans (by first|exact if_pos rfl|exact if_neg (by decide))
          have a1:=(k 1).trans (by first|exact if_pos rfl|exact if_neg (by decide))
          have a2:=(k 2).trans (by first|exact if_pos rfl|exact if_neg (by decide))
          have a3:=(k 3).trans (by first|exact if_pos rfl|exact if_neg (by decide))
          have b0:=(o 0).trans (by first|exact if_pos rfl|exact if_neg (by decide))
          have b1:=(o 1).trans (by first|exact if_pos rfl|exact if_neg (by decide))
          have b2:=(o 2).trans (by first|exact if_pos rfl|exact if_neg (by decide))
          have b3:=(o 3).trans (by first|exact if_pos rfl|exact if_neg (by decide))
          have e0:=(k' 0).trans (by first|exact if_pos rfl|exact if_neg (by decide))
          have e1:=(k' 1).trans (by first|exact if_pos rfl|exact if_neg (by decide))
          have e2:=(k' 2).trans (by first|exact if_pos rfl|exact if_neg (by decide))
          have e3:=(k' 3).trans (by first|exact if_pos rfl|exact if_neg (by decide))
          have f0:=o' 0
          have f1:=o' 1
          have f2:=o' 2
          have f3:=o' 3
          (conv=>whnf)
          simp only[envCat,crow,cells9,List.length_set,List.map_append,List.map_cons,List.map_nil,List.length_append,List.length_map,List.length_cons,List.length_nil,a0,a1,a2,a3,b0,b1,b2,b3,e0,e1,e2,e3,f0,f1,f2,f3]
          rfl
       . exact absurd rfl hb2
     . rw[if_neg hab] at hpc
       have hsn:=pcsT_none hpc
       rw[hQ] at hsn
       have hsm:=hsm hab
       have hcases:(dig a=true)\/(dig a=false/\dig b=false):=by
        rcases hac with rfl|rfl|rfl
        . left;rfl
        . left;rfl
        . right
          rcases hbc with rfl|rfl|rfl
          . exact absurd ⟨rfl,by decide⟩ hab
          . exact absurd ⟨rfl,by decide⟩ hab
          . exact⟨rfl,rfl⟩
       rcases hcases with hda|⟨hda,hdb⟩
       . rw[hda] at s1
         (try (conv=>whnf));repeat' (first|refine Ok.seq ?_|((first|refine Ok.region tok ?_|refine Ok.cond ?_);conv=>whnf)|refine Ok.block ?_|((first|refine Ok.skip ?_|refine Ok.exit ?_|refine nI ?_);conv=>whnf)|(refine Or.inr (Or.inr (Or.inr (Or.inr ?_)));(conv=>whnf);refine effW.of (effK.peek (by rfl) (pk2 (.bp _ _ ( crow L) rfl (fun d hd=>ints_crow _ d (List.mem_of_mem_drop hd))) (.i _ _)) (s1 ) ?_);rintro _ _ ⟨rfl,rfl⟩;(refine And.intro (by simp[gRowsP,grounds,D.ground]) ?_;conv=>whnf))|(refine Or.inr (Or.inr (Or.inr (Or.inr ?_)));(conv=>whnf);refine effW.of (effK.peek (by rfl) (pk2 (.bp _ _ ( crow d) rfl (fun d hd=>ints_crow _ d (List.mem_of_mem_drop hd))) (.i _ _)) (s2 ) ?_);rintro _ _ ⟨rfl,rfl⟩;(refine And.intro (by simp[gRowsP,grounds,D.ground]) ?_;conv=>whnf))|(refine bI ?_ ?_<;>intro<;>(conv=>whnf)<;>(try (exfalso;omega)))|fail)
         all_goals first
          | contradiction
          | (refine⟨i+1,by omega,by omega,?_⟩
             rw[hsm,hsn]
             (conv=>whnf)
             rfl)
          | (rename_i h;exact absurd rfl h)
       . rw[hda] at s1
         rw[hdb] at s2
         (try (conv=>whnf));repeat' (first|refine Ok.seq ?_|((first|refine Ok.region tok ?_|refine Ok.cond ?_);conv=>whnf)|refine Ok.block ?_|((first|refine Ok.skip ?_|refine Ok.exit ?_|refine nI ?_);conv=>whnf)|(refine Or.inr (Or.inr (Or.inr (Or.inr ?_)));(conv=>whnf);refine effW.of (effK.peek (by rfl) (pk2 (.bp _ _ ( crow L) rfl (fun d hd=>ints_crow _ d (List.mem_of_mem_drop hd))) (.i _ _)) (s1 ) ?_);rintro _ _ ⟨rfl,rfl⟩;(refine And.intro (by simp[gRowsP,grounds,D.ground]) ?_;conv=>whnf))|(refine Or.inr (Or.inr (Or.inr (Or.inr ?_)));(conv=>whnf);refine effW.of (effK.peek (by rfl) (pk2 (.bp _ _ ( crow d) rfl (fun d hd=>ints_crow _ d (List.mem_of_mem_drop hd))) (.i _ _)) (s2 ) ?_);rintro _ _ ⟨rfl,rfl⟩;(refine And.intro (by simp[gRowsP,grounds,D.ground]) ?_;conv=>whnf))|(refine bI ?_ ?_<;>intro<;>(conv=>whnf)<;>(try (exfalso;omega)))|fail)
         all_goals first
          | contradiction
          | (refine⟨i+1,by omega,by omega,?_⟩
             rw[hsm,hsn]
             (conv=>whnf)
             rfl)
          | (rename_i h;exact absurd (fun q=>by cases q) h)
   . have hie:i=c.length:=by omega
     subst hie
     have hsp:splitT c d=pcsT c d c.length:=if_pos hs
     rw[hsp]
     (try (conv=>whnf));repeat' (first|refine Ok.seq ?_|((first|refine Ok.region tok ?_|refine Ok.cond ?_|refine Ok.exit ?_|refine Ok.ret ?_);conv=>whnf)|(refine bI ?_ ?_<;>intro<;>(conv=>whnf)<;>(try (exfalso;omega)))|fail)
     refine Or.inl ?_;(conv=>whnf)
     refine⟨[],?_,rfl⟩
     rw[List.take_of_length_le (by simp),List.drop_of_length_le (by simp)]
     rfl
 . have hn:splitT c d=[c]:=by unfold splitT;rw[if_neg hs]
   rw[hn]
   (try (conv=>whnf));repeat' (first|refine Ok.seq ?_|((first|refine Ok.region tok ?_|refine Ok.cond ?_);conv=>whnf)|refine Ok.block ?_|((first|refine Ok.skip ?_|refine Ok.ret ?_);conv=>whnf)|(refine Or.inr (Or.inl ?_);(conv=>whnf);(repeat (refine aI ?_;conv=>whnf));refine⟨_,hm,?_⟩;rintro _ _ ⟨rfl,rfl⟩<;>(conv=>whnf))|(refine bI ?_ ?_<;>intro<;>(conv=>whnf)<;>(try (exfalso;omega)))|fail)
   . refine Or.inl ?_;(conv=>whnf)
     exact⟨_,rfl,rfl⟩
   . rename_i h
     exact absurd (Classical.not_not.1 h) hs
end Go.Proofs.YtaiondckookpiaaDoor
namespace Go.Proofs.YtaiondckookpiaaDoor
open Go Go.Vx
theorem one_at(c:Str):FSpec Tryd.prog T 58 [.agg (crow c)] (fun d rows=>d = .fn 81 [] [.ep (crow c)]/\rows=[]):=by
 refine FSpec.of_ok tok Tryd.func58 rfl Tryd.call58 (by simp) ?_
 (try (conv=>whnf));repeat' (first|refine Ok.seq ?_|(refine Ok.region tok ?_;conv=>whnf)|fail)
 refine Or.inr ?_
 (conv=>whnf)
 (try (conv=>whnf));repeat' (first|(refine Ok.pubB (c:=Code.ret) rfl ?_;(conv=>whnf);refine Ok.ret ?_;(conv=>whnf))|fail)
 refine Or.inl ?_;(conv=>whnf)
 exact⟨rfl,rfl⟩
theorem splits_at(l:List Str)(rm:List (List D))(m:Str):FSpec Tryd.prog T 59 [.lst 69 (l.map crow) rm,.agg (crow m)] (fun d rows=>d = .fn 82 [] [.ep [.lst 69 (l.map crow) rm],.ep (crow m)]/\rows=[]):=by
 refine FSpec.of_ok tok Tryd.func59 rfl Tryd.call59 (by simp) ?_
 (try (conv=>whnf));repeat' (first|refine Ok.seq ?_|(refine Ok.region tok ?_;conv=>whnf)|fail)
 refine Or.inr ?_
 (conv=>whnf)
 (try (conv=>whnf));repeat' (first|(refine Ok.pubB (c:=Code.ret) rfl ?_;(conv=>whnf);refine Ok.ret ?_;(conv=>whnf))|fail)
 refine Or.inl ?_;(conv=>whnf)
 exact⟨rfl,rfl⟩
def cubX(l:List Str):List (List D):=l.map fun x=>[.agg (crow x)]
theorem one_seq(c:Str):YSpec Tryd.prog T 81 [.ep (crow c)] (cubX [c]):=by
 refine YSpec.of_okY Tryd.func81 rfl Tryd.call81 rfl (show 2<=6 by decide) fun l=>?_
 refine OkY.yreg tok 2 0 [.agg (crow c)] rfl ?_
 (conv=>whnf)
 refine⟨rfl,rfl,rfl,?_⟩
 (conv=>whnf)
 refine⟨?_,?_⟩
 . (conv=>whnf)
   exact⟨.inl rfl,.inl rfl⟩
 . (conv=>whnf)
   exact⟨.inl rfl,.inr rfl⟩
def splL(m:Str)(l:List Str):List Str:=l.flatMap fun c=>splitT c m
theorem splL_snoc{m:Str}{l:List Str}{i:Nat}{c:Str}(hc:l[i]? = some c):splL m (l.take (i+1))=splL m (l.take i)++splitT c m:=by
 unfold splL;rw[take_snoc hc,List.flatMap_append];simp
theorem splL_at{m:Str}{l:List Str}{i j:Nat}{c x:Str}(hc:l[i]? = some c)(hx:(splitT c m)[j]? = some x):(splL m l)[(splL m (l.take i)).length+j]? = some x:=by
 have h1:splL m l=(splL m (l.take i)++splitT c m)++splL m (l.drop (i+1)):=by
  rw[<- splL_snoc hc]
  unfold splL
  rw[<- List.flatMap_append,List.take_append_drop]
 have hj:j<(splitT c m).length:=(List.getElem?_eq_some_iff.1 hx).1
 rw[h1,List.getElem?_append_left (by rw[List.length_append];omega),List.getElem?_append_right (by omega),Nat.add_sub_cancel_left]
 exact hx
theorem cubX_at{l:List Str}{k:Nat}{x:Str}(h:l[k]? = some x):(cubX l)[k]? = some [.agg (crow x)]:=by simp[cubX,h]
theorem splits_seq(l:List Str)(rm:List (List D))(m:Str)(hl:∀ c ∈ l,CN c)(hm:CT m)(hll:l.length<=100000):YSpec Tryd.prog T 82 [.ep [.lst 69 (l.map crow) rm],.ep (crow m)] (cubX (splL m l)):=by
 have hlm:(l.map crow).length=l.length:=by simp
 refine YSpec.of_okY Tryd.func82 rfl Tryd.call82 rfl (show 3<=28 by decide) fun y=>?_
 refine OkY.seq (OkY.piece ?_)
 (try (conv=>whnf));repeat' (first|(refine Ok.region tok ?_;conv=>whnf)|fail)
 refine OkY.block ?_
 refine OkY.loopK [0,2,8,9,10] (fun i:Nat=>[(0,.yld y),(2,.ep (crow m)),(8,.lst 69 (l.map crow) rm),(9,.i .i64 (l.map crow).length),(10,.i .i64 (i:Nat))]) (fun i=>some (splL m (l.take i)).length) (fun i=>i<=l.length) (fun i=>l.length - i) 0 (Nat.zero_le _) (by simp[splL]) (by
  (conv=>whnf)
  rfl) ?_
 intro i hi
 refine OkY.seq (OkY.piece ?_)
 (try (conv=>whnf));repeat' (first|(refine Ok.region tok ?_;conv=>whnf)|fail)
 refine OkY.seq (OkY.cond ?_)
 (conv=>whnf)
 refine⟨fun h=>?_,fun h=>?_⟩
 . refine OkY.skip ?_
   (conv=>whnf)
   have hil:i<l.length:=by omega
   obtain⟨c,hc⟩:∃ c,l[i]? = some c:=⟨_,List.getElem?_eq_getElem hil⟩
   have hcI:l[((i:Nat):Int).toNat]? = some c:=hc
   have hcn:=hl c (List.mem_of_getElem? hc)
   have hsl:=splitT_len (d:=m) hcn.1.len
   have hslm:((splitT c m).map crow).length=(splitT c m).length:=by simp
   have hsn:=splL_snoc (m:=m) hc
   have hat:=fun j x=>splL_at (m:=m) (j:=j) (x:=x) hc
   refine OkY.seq (OkY.block (OkY.ofZ (OkZ.seq ?_)))
   (try (conv=>whnf));repeat' (first|((first|refine Ok.region tok ?_|refine ix _ (by assumption) ?_);conv=>whnf)|fail)
   refine OkZ.seq ?_
   (try (conv=>whnf));repeat' (first|(refine Ok.region tok ?_;conv=>whnf)|(refine Or.inr (Or.inl ?_);(conv=>whnf);(repeat (refine aI ?_;conv=>whnf));refine⟨_,split_at c m hcn hm , ?_⟩;rintro _ _ ⟨rm2,rfl,rfl⟩<;>(conv=>whnf))|fail)
   refine OkZ.ofY ?_
   (conv=>whnf)
   refine OkY.block ?_
   generalize hS:splitT c m=S at *
   refine OkY.loopK [0,2,8,9,10,16,17,18] (fun j:Nat=>[(0,.yld y),(2,.ep (crow m)),(8,.lst 69 (l.map crow) rm),(9,.i .i64 (l.map crow).length),(10,.i .i64 (i:Nat)),(16,.lst 69 (S.map crow) rm2),(17,.i .i64 (S.map crow).length),(18,.i .i64 (j:Nat))]) (fun j=>some ((splL m (l.take i)).length+j)) (fun j=>j<=S.length) (fun j=>S.length - j) 0 (Nat.zero_le _) (by simp) (by
    (conv=>whnf)
    rfl) ?_
   intro j hj
   refine OkY.seq (OkY.piece ?_)
   (try (conv=>whnf));repeat' (first|(refine Ok.region tok ?_;conv=>whnf)|fail)
   refine OkY.seq (OkY.cond ?_)
   (conv=>whnf)
   refine⟨fun h=>?_,fun h=>?_⟩
   . refine OkY.skip ?_
     (conv=>whnf)
     have hjl:j<S.length:=by omega
     obtain⟨x,hx⟩:∃ x,S[j]? = some x:=⟨_,List.getElem?_eq_getElem hjl⟩
     have hxI:S[((j:Nat):Int).toNat]? = some x:=hx
     refine OkY.seq (OkY.block (OkY.ofZ (OkZ.seq ?_)))
     (try (conv=>whnf));repeat' (first|((first|refine Ok.region tok ?_|refine ix _ (by assumption) ?_);conv=>whnf)|fail)
     refine OkZ.seqY (OkZ.yreg tok 2 _ [.agg (crow x)] (cubX_at (hat j x hx)) ?_)
     (conv=>whnf)
     refine⟨rfl,rfl,rfl,?_⟩
     (conv=>whnf)
     refine⟨?_,?_⟩
     . (conv=>whnf)
       refine OkY.cond ?_
       (conv=>whnf)
       refine OkY.skip ?_
       (conv=>whnf)
       refine OkY.piece ?_
       (try (conv=>whnf));repeat' (first|((first|refine Ok.region tok ?_|refine nI ?_);conv=>whnf)|fail)
       refine⟨j+1,by omega,by omega,by rw[Nat.add_assoc],?_⟩
       (conv=>whnf)
       rfl
     . (conv=>whnf)
       refine OkY.cond ?_
       (conv=>whnf)
       refine OkY.ret ?_
       (conv=>whnf)
       exact⟨.inr rfl,.inr rfl⟩
   . have hje:j=S.length:=by omega
     subst hje
     refine OkY.exit ?_
     (conv=>whnf)
     refine OkY.piece ?_
     (try (conv=>whnf));repeat' (first|((first|refine Ok.region tok ?_|refine nI ?_);conv=>whnf)|fail)
     refine⟨i+1,by omega,by omega,by rw[hsn,List.length_append],?_⟩
     (conv=>whnf)
     rfl
 . have hie:i=l.length:=by omega
   subst hie
   refine OkY.exit ?_
   (conv=>whnf)
   refine⟨.inl rfl,.inl ?_⟩
   rw[List.take_length]
   simp[cubX]
end Go.Proofs.YtaiondckookpiaaDoor
namespace Go.Proofs.YtaiondckookpiaaDoor
open Go Go.Vx
theorem cubX_get{l:List Str}{k:Nat}{x:List D}(h:(cubX l)[k]? = some x):∃ c,l[k]? = some c/\x=[.agg (crow c)]:=by
 simp only[cubX,List.getElem?_map,Option.map_eq_some_iff] at h
 obtain⟨c,h1,h2⟩:=h
 exact⟨c,h1,h2.symm⟩
theorem cubX_len(l:List Str):(cubX l).length=l.length:=by simp[cubX]
set_option maxHeartbeats 4000000 in
theorem collect_at{f:FuncId}{cap:List D}{l:List Str}(hY:YSpec Tryd.prog T f cap (cubX l))(most:Int)(hm:(l.length:Int)<=most)(hl:l.length<=1000000) :
    FSpec Tryd.prog T 57 [.fn f [] cap,.i .i64 most] (fun d rows=>∃ rm,d = .lst 69 (l.map crow) rm/\rows=[]):=by
 refine FSpec.of_okG tok Tryd.func57 rfl Tryd.call57 (by simp) ?_
 refine OkG.seq (OkG.of ?_)
 (try (conv=>whnf));repeat' (first|(refine Ok.region tok ?_;conv=>whnf)|fail)
 refine OkG.seq (OkG.of ?_)
 (try (conv=>whnf));repeat' (first|(refine Ok.region tok ?_;conv=>whnf)|fail)
 refine OkG.seq (OkG.seq (OkG.of ?_))
 refine Ok.ghostB 1 0 69 rfl rfl ?_
 (conv=>whnf)
 (try (conv=>whnf));repeat' (first|(refine Ok.region tok ?_;conv=>whnf)|fail)
 refine OkG.block ?_
 refine OkG.range [3,5,7] 1 2 (fun k=>⟨[(3,.bp 0 0),(5,.bp 1 0),(7,.fn f [] cap)],[[.i .i64 most],[.own 0 k]],[some (69,(l.take k).map crow)],20⟩) (fun k=>k<=l.length) (Nat.zero_le _) (by
  (conv=>whnf)
  rfl) rfl hY (fun _=>rfl) (by simp) ?_ ?_
 . intro k x hx hk
   obtain⟨c,hc,rfl⟩:=cubX_get hx
   refine⟨rfl,?_⟩
   (conv=>whnf)
   have hkl:k<l.length:=(List.getElem?_eq_some_iff.1 hc).1
   have htl:((l.take k).map crow).length=k:=by simp;omega
   have hsn:(l.take (k+1)).map crow=(l.take k).map crow++[crow c]:=by rw[take_snoc hc,List.map_append];rfl
   have hkm:¬ (k:Int)=most:=by omega
   (try (conv=>whnf));repeat' (first|refine OkR.seq ?_|((first|refine OkR.region tok ?_|refine OkR.cond ?_);conv=>whnf)|refine OkR.block ?_|((first|refine OkR.skip ?_|refine Alt2.l (aI ?_)|refine⟨_,.inl ⟨rfl,rfl⟩,?_⟩|refine⟨_,_,rfl,rfl,?_⟩);conv=>whnf)|(refine bI ?_ ?_<;>intro<;>(conv=>whnf)<;>(try (exfalso;omega)))|(refine aJ ?_;conv=>whnf)|fail)
   all_goals first
    | (exfalso;omega)
    | skip
   have hln:((l.take k).map crow++[crow c]).length=k+1:=by rw[List.length_append,htl];rfl
   rw[hsn,<- hln]
 . intro _
   rw[cubX_len,List.take_length]
   (conv=>whnf)
   refine OkG.of ?_
   (try (conv=>whnf));repeat' (first|refine Ok.seq ?_|((first|refine Ok.region tok ?_|refine Ok.ret ?_);conv=>whnf)|fail)
   refine Or.inl ?_;(conv=>whnf)
   refine⟨[],?_,rfl⟩
   rw[List.take_of_length_le (by simp),List.drop_of_length_le (by simp)]
   rfl
set_option maxHeartbeats 4000000 in
theorem collect_pan{f:FuncId}{cap:List D}{l:List Str}(hY:YSpec Tryd.prog T f cap (cubX l))(most:Int)(h0:0<=most)(hm:most<(l.length:Int))(hl:l.length<=1000000) :
    PSpec Tryd.prog T 57 [.fn f [] cap,.i .i64 most] passedV:=by
 refine PSpec.of_okG Tryd.func57 rfl Tryd.call57 (by simp) ?_
 refine OkG.seq (OkG.of ?_)
 (try (conv=>whnf));repeat' (first|(refine Ok.region tok ?_;conv=>whnf)|fail)
 refine OkG.seq (OkG.of ?_)
 (try (conv=>whnf));repeat' (first|(refine Ok.region tok ?_;conv=>whnf)|fail)
 refine OkG.seq (OkG.seq (OkG.of ?_))
 refine Ok.ghostB 1 0 69 rfl rfl ?_
 (conv=>whnf)
 (try (conv=>whnf));repeat' (first|(refine Ok.region tok ?_;conv=>whnf)|fail)
 refine OkG.block ?_
 refine OkG.range [3,5,7] 1 2 (fun k=>⟨[(3,.bp 0 0),(5,.bp 1 0),(7,.fn f [] cap)],[[.i .i64 most],[.own 0 k]],[some (69,(l.take k).map crow)],20⟩) (fun k=>(k:Int)<=most) h0 (by
  (conv=>whnf)
  rfl) rfl hY (fun _=>rfl) (by simp) ?_ ?_
 . intro k x hx hk
   obtain⟨c,hc,rfl⟩:=cubX_get hx
   refine⟨rfl,?_⟩
   (conv=>whnf)
   have hkl:k<l.length:=(List.getElem?_eq_some_iff.1 hc).1
   have htl:((l.take k).map crow).length=k:=by simp;omega
   have hsn:(l.take (k+1)).map crow=(l.take k).map crow++[crow c]:=by rw[take_snoc hc,List.map_append];rfl
   by_cases hkm:(k:Int)=most
   . (try (conv=>whnf));repeat' (first|(refine OkR.region_throw (fun w=>by kernel_rfl) (by kernel_rfl) (by decide) (by decide) ?_;conv=>whnf)|refine OkR.seq ?_|((first|refine OkR.region tok ?_|refine OkR.cond ?_);conv=>whnf)|refine OkR.block ?_|(refine bI ?_ ?_<;>intro<;>(conv=>whnf)<;>(try (exfalso;omega)))|(refine aJ ?_;conv=>whnf)|fail)
     all_goals first
      | (exfalso;omega)
      | skip
     refine⟨fun _ h=>h,?_⟩
     (conv=>whnf)
     rfl
   . (try (conv=>whnf));repeat' (first|refine OkR.seq ?_|((first|refine OkR.region tok ?_|refine OkR.cond ?_);conv=>whnf)|refine OkR.block ?_|((first|refine OkR.skip ?_|refine Alt2.l (aI ?_)|refine⟨_,.inl ⟨rfl,rfl⟩,?_⟩|refine⟨_,_,rfl,rfl,?_⟩);conv=>whnf)|(refine bI ?_ ?_<;>intro<;>(conv=>whnf)<;>(try (exfalso;omega)))|(refine aJ ?_;conv=>whnf)|fail)
     all_goals first
      | (exfalso;omega)
      | skip
     have hln:((l.take k).map crow++[crow c]).length=k+1:=by rw[List.length_append,htl];rfl
     rw[hsn,<- hln]
 . intro h
   rw[cubX_len] at h
   exfalso
   omega
end Go.Proofs.YtaiondckookpiaaDoor
namespace Go.Proofs.YtaiondckookpiaaDoor
open Go Go.Vx
def splX(lim:Int):List Str->List Str->Option (List Str)
 | [],l=>some l
 | m :: ms,l=>if lim<((splL m l).length:Int) then none else splX lim ms (splL m l)
def termX(lim:Int)(t:Term):Option (List Str):=if lim<1 then none else splX lim t.less [t.p]
def expX(limit:Int):List Term->List Str->Option (List Str)
 | [],out=>some out
 | t :: ts,out=>match termX (limit - (out.length:Int)) t with
  | none=>none
  | some l=>expX limit ts (out++l)
theorem expX_cons(limit:Int)(t:Term)(ts:List Term)(out:List Str):expX limit (t :: ts) out=match termX (limit - (out.length:Int)) t with|none=>none|some l=>expX limit ts (out++l):=rfl
theorem splX_cons(lim:Int)(m:Str)(ms l:List Str):splX lim (m :: ms) l=if lim<((splL m l).length:Int) then none else splX lim ms (splL m l):=rfl
def expO(n:Int)(ts:List Term)(limit:Int):Int × List Str:=
 if n=0 then (11,[]) else if limit<0\/2048<limit then (1,[]) else match expX limit ts [] with
  | some l=>(0,l)
  | none=>(3,[])
theorem expO_zero{ts:List Term}{limit:Int}{n:Int}(h:n=0):expO n ts limit=(11,[]):=by unfold expO;rw[if_pos h]
theorem expO_arg{n:Int}{ts:List Term}{limit:Int}(h:n ≠ 0)(h2:limit<0\/2048<limit):expO n ts limit=(1,[]):=by unfold expO;rw[if_neg h,if_pos h2]
theorem expO_some{n:Int}{ts:List Term}{limit:Int}{l:List Str}(h:n ≠ 0)(h2:¬ (limit<0\/2048<limit))(h3:expX limit ts []=some l):expO n ts limit=(0,l):=by unfold expO;rw[if_neg h,if_neg h2,h3]
theorem expO_none{n:Int}{ts:List Term}{limit:Int}(h:n ≠ 0)(h2:¬ (limit<0\/2048<limit))(h3:expX limit ts []=none):expO n ts limit=(3,[]):=by unfold expO;rw[if_neg h,if_neg h2,h3]
def AllW(n:Nat)(l:List Str):Prop:=∀ c ∈ l,CN c/\c.length=n
theorem splL_all{n:Nat}{m:Str}{l:List Str}(h:AllW n l)(hm:CT m):AllW n (splL m l):=by
 intro x hx
 obtain⟨c,hc,hx⟩:=List.mem_flatMap.1 hx
 obtain⟨h1,h2⟩:=splitT_cn (h c hc).1 hm x hx
 exact⟨h1,h2.trans (h c hc).2⟩
theorem splL_len{n:Nat}{m:Str}:∀ {l:List Str},AllW n l->(splL m l).length<=l.length*256
 | [],_=>by simp[splL]
 | c :: l,h=>by
  have h1:=splL_len (m:=m) (l:=l) fun x hx=>h x (by simp[hx])
  have h2:=splitT_len (d:=m) (h c (by simp)).1.1.len
  have:splL m (c :: l)=splitT c m++splL m l:=by simp[splL]
  rw[this,List.length_append,List.length_cons]
  omega
theorem splX_all{n:Nat}{lim:Int}:∀ {ms l:List Str} {r:List Str},AllW n l->(∀ m ∈ ms,CT m)->splX lim ms l=some r->AllW n r
 | [],l,r,hl,_,h=>by cases h;exact hl
 | m :: ms,l,r,hl,hm,h=>by
  unfold splX at h
  split at h
  . cases h
  . exact splX_all (splL_all hl (hm m (by simp))) (fun x hx=>hm x (by simp[hx])) h
theorem splX_le{lim:Int}:∀ {ms l:List Str} {r:List Str},(l.length:Int)<=lim->splX lim ms l=some r->(r.length:Int)<=lim
 | [],l,r,hl,h=>by cases h;exact hl
 | m :: ms,l,r,hl,h=>by
  unfold splX at h
  split at h
  . cases h
  . exact splX_le (by omega) h
theorem termX_all{n:Nat}{t:Term}{lim:Int}{l:List Str}(hg:GoodT n t)(h:termX lim t=some l):AllW n l/\(l.length:Int)<=lim:=by
 unfold termX at h
 split at h
 . cases h
 . exact⟨splX_all (fun c hc=>by simp at hc;subst hc;exact⟨hg.p,hg.ok.p⟩) (fun m hm=>(hg.less m hm).1) h,splX_le (by simp;omega) h⟩
theorem expX_all{n:Nat}{limit:Int}:∀ {ts:List Term} {out r:List Str},(∀ t ∈ ts,GoodT n t)->AllW n out->(out.length:Int)<=limit->expX limit ts out=some r->AllW n r/\(r.length:Int)<=limit
 | [],out,r,_,ho,hl,h=>by cases h;exact⟨ho,hl⟩
 | t :: ts,out,r,hg,ho,hl,h=>by
  unfold expX at h
  split at h
  . cases h
  . rename_i l hlx
    obtain⟨h1,h2⟩:=termX_all (hg t (by simp)) hlx
    exact expX_all (fun x hx=>hg x (by simp[hx])) (fun c hc=>(List.mem_append.1 hc).elim (ho c) (h1 c)) (by rw[List.length_append];omega) h
theorem expO_all{n:Int}{ts:List Term}{limit:Int}(hf:Fine n ts):AllW n.toNat (expO n ts limit).2/\(expO n ts limit).2.length<=2048:=by
 unfold expO
 split
 . exact⟨fun c hc=>by simp at hc,by simp⟩
 . split
   . exact⟨fun c hc=>by simp at hc,by simp⟩
   . rename_i h2
     cases h:expX limit ts [] with
     | none=>exact⟨fun c hc=>by simp at hc,by simp⟩
     | some l=>
      obtain⟨h3,h4⟩:=expX_all hf.good (fun c hc=>by simp at hc) (by simp;omega) h
      exact⟨h3,by show l.length<=2048;omega⟩
end Go.Proofs.YtaiondckookpiaaDoor
namespace Go.Proofs.YtaiondckookpiaaDoor
open Go Go.Vx
def EOutO(o:Int × List Str)(d:D)(rows:Vx.Rows):Prop:=d = .tup [.own 0 o.2.length,.i .i64 o.1]/\rows=[some (69,o.2.map crow)]
set_option maxRecDepth 100000 in
set_option maxHeartbeats 8000000 in
theorem expandO_at{n:Int}{ts:List Term}(hf:Fine n ts)(ks:List TR)(rm:List (List D))(h1:ks.map TR.t=ts)(limit:Int) :
    FSpec Tryd.prog T 26 [.agg [.i .i64 n,.lst 81 (ks.map trow) rm],.i .i64 limit] (EOutO (expO n ts limit)):=by
 have hl1:ks.length=ts.length:=by rw[<- h1,List.length_map]
 have hm1:(ks.map trow).length=ts.length:=by simp[hl1]
 have hk1:=hf.len
 have hn0:=hf.n0
 refine FSpec.of_deferK 5 tok Tryd.func26 rfl Tryd.call26 (by simp) def_expand (zd1:=[.nilS]) (zd2:=[.i .i64 3]) rfl rfl (by simp[Value.oneCell']) (by simp[Value.oneCell']) rfl ?_
 by_cases hz:n=0
 . rw[expO_zero hz]
   subst hz
   (try (conv=>whnf));repeat' (first|refine Ok.seq ?_|refine OkL.cons ?_|((first|refine Ok.region tok ?_|refine Ok.cond ?_|refine Ok.ret ?_);conv=>whnf)|(refine bI ?_ ?_<;>intro<;>(conv=>whnf)<;>(try (exfalso;omega)))|fail)
   . refine Or.inr (Or.inr ?_);(conv=>whnf)
     exact⟨rfl,rfl⟩
   all_goals (exfalso;rename_i h;exact h rfl)
 by_cases harg:limit<0\/2048<limit
 . rw[expO_arg hz harg]
   (try (conv=>whnf));repeat' (first|refine Ok.seq ?_|refine OkL.cons ?_|((first|refine Ok.region tok ?_|refine Ok.cond ?_|refine Ok.skip ?_|refine Ok.ret ?_);conv=>whnf)|(refine bI ?_ ?_<;>intro<;>(conv=>whnf)<;>(try (exfalso;omega)))|fail)
   all_goals first
    | (exfalso;omega)
    | (refine Or.inr (Or.inr ?_);(conv=>whnf)
       exact⟨rfl,rfl⟩)
 (try (conv=>whnf));repeat' (first|refine OkL.cons ?_|((first|refine Ok.region tok ?_|refine Ok.cond ?_|refine Ok.skip ?_);conv=>whnf)|(refine bI ?_ ?_<;>intro<;>(conv=>whnf)<;>(try (exfalso;omega)))|fail)
 all_goals first
  | (exfalso;omega)
  | skip
 refine OkL.nil ?_
 (conv=>whnf)
 refine⟨1,2,rfl,rfl,by decide,by decide,by decide,rfl,?_⟩
 (try (conv=>whnf));repeat' (first|refine OkL.cons ?_|(refine Ok.region tok ?_;conv=>whnf)|refine Ok.block ?_|fail)
 refine Ok.ghostB 1 0 69 rfl rfl ?_
 (conv=>whnf)
 refine Ok.loopU [1,4,5,22,23,57,58] [24] 1 3 (fun (x:Nat × List Str)=>[.i .i64 (x.1:Nat)]) (fun (x:Nat × List Str) (_:List (List D))=>[[.i .i64 n,.lst 81 (ks.map trow) rm],[.own 0 x.2.length],[.i .i64 0]]) (fun (x:Nat × List Str) (_:Vx.Rows)=>[some (69,x.2.map crow)]) (fun (x:Nat × List Str)=>x.1<=ts.length/\expX limit ts []=expX limit (ts.drop x.1) x.2/\AllW n.toNat x.2/\(x.2.length:Int)<=limit) (fun (x:Nat × List Str)=>ts.length - x.1) ((0,[])) (⟨Nat.zero_le _,by simp,fun c hc=>by simp at hc,by simp;omega⟩) ?_;(conv=>whnf);refine⟨by ((conv=>whnf);first|rfl|(simp[envCat,List.take_of_length_le,crow,trow,srow,drow];done)|(simp[envCat,List.take_of_length_le,crow,trow,srow,drow];rw[IntKind.wrap_i64];omega)),?_⟩
 rintro⟨i,out⟩ ⟨hi,hex,hal,hle⟩
 dsimp only at hi hex hal hle ⊢
 have hom:(out.map crow).length=out.length:=by simp
 (conv=>whnf)
 by_cases hil:i<ts.length
 . obtain⟨a,ha⟩:∃ a,ks[i]? = some a:=⟨_,List.getElem?_eq_getElem (by omega)⟩
   have haI:ks[((i:Nat):Int).toNat]? = some a:=ha
   have hat:=tr_get h1 ha
   have hag:=hf.good _ (List.mem_of_getElem? hat)
   have hlb:=hf.less (List.mem_of_getElem? hat)
   have hlb2:(a.t.less.map crow).length=a.t.less.length:=by simp
   rw[drop_get hat] at hex
   rw[expX_cons] at hex
   have hone:=one_at a.t.p
   by_cases hlim:limit - (out.length:Int)<1
   . rw[show termX (limit - (out.length:Int)) a.t=none by unfold termX;rw[if_pos hlim]] at hex
     rw[expO_none hz harg hex]
     (try (conv=>whnf));repeat' (first|refine Ok.seq ?_|((first|refine Ok.region tok ?_|refine Ok.cond ?_);conv=>whnf)|refine Ok.block ?_|((first|refine Ok.skip ?_|refine ix _ (by assumption) ?_);conv=>whnf)|(refine bI ?_ ?_<;>intro<;>(conv=>whnf)<;>(try (exfalso;omega)))|fail)
     refine Ok.region_planpanS tok follows [(1,2,[])] [.q 0,.q 1,.q 3,.q 4,.q 5,.q 6,.l 2] 7 (by kernel_rfl) ?_;(conv=>whnf)
     (try (conv=>whnf));repeat' (first|(refine nI ?_;conv=>whnf)|(refine Or.inr (Or.inl ?_);(conv=>whnf);(repeat (refine aI ?_;conv=>whnf));refine⟨_,hone,?_⟩;rintro _ _ ⟨rfl,rfl⟩<;>(conv=>whnf))|fail)
     refine⟨_,collect_pan (one_seq a.t.p) (limit - (out.length:Int)) (by omega) (by simp;omega) (by simp),?_⟩
     (conv=>whnf)
     refine⟨rfl,1,2,_,_,rfl,rfl,rfl,rfl,rfl,rfl,by decide,rfl,?_⟩
     (conv=>whnf)
     refine Or.inr (Or.inr ?_);(conv=>whnf)
     exact⟨rfl,rfl⟩
   rw[show termX (limit - (out.length:Int)) a.t=splX (limit - (out.length:Int)) a.t.less [a.t.p] by unfold termX;rw[if_neg hlim]] at hex
   (try (conv=>whnf));repeat' (first|refine Ok.seq ?_|((first|refine Ok.region tok ?_|refine Ok.region_plan (id:=9) tok follows [(1,2,[]),(1,7,[2]),(4,7,[6,5]),(2,7,[])] [.q 0,.q 1,.q 3,.q 4,.q 5,.q 6,.l 2,.l 7,.q 8] (by kernel_rfl) ?_|refine Ok.cond ?_);conv=>whnf)|refine Ok.block ?_|((first|refine Ok.skip ?_|refine nI ?_|refine ix _ (by assumption) ?_);conv=>whnf)|(refine Or.inr (Or.inl ?_);(conv=>whnf);(repeat (refine aI ?_;conv=>whnf));refine⟨_,hone,?_⟩;rintro _ _ ⟨rfl,rfl⟩<;>(conv=>whnf))|(refine Or.inr (Or.inl ?_);(conv=>whnf);(repeat (refine aI ?_;conv=>whnf));refine⟨_,collect_at (one_seq a.t.p) (limit - (out.length:Int)) (by simp;omega) (by simp) , ?_⟩;rintro _ _ ⟨rm5,rfl,rfl⟩<;>(conv=>whnf))|(refine bI ?_ ?_<;>intro<;>(conv=>whnf)<;>(try (exfalso;omega)))|fail)
   refine Ok.loopU [1,4,5,22,23,24,37,38,57,58] [8,39] 1 4 (fun (x:Nat × List Str × List (List D))=>[.lst 69 (x.2.1.map crow) x.2.2,.i .i64 (x.1:Nat)]) (fun (x:Nat × List Str × List (List D)) (_:List (List D))=>[[.i .i64 n,.lst 81 (ks.map trow) rm],[.own 0 out.length],[.i .i64 0],trow a]) (fun (x:Nat × List Str × List (List D)) (_:Vx.Rows)=>[some (69,out.map crow)]) (fun (x:Nat × List Str × List (List D))=>x.1<=a.t.less.length/\splX (limit - (out.length:Int)) a.t.less [a.t.p]=splX (limit - (out.length:Int)) (a.t.less.drop x.1) x.2.1/\AllW n.toNat x.2.1/\(x.2.1.length:Int)<=limit - (out.length:Int)) (fun (x:Nat × List Str × List (List D))=>a.t.less.length - x.1) ((0,[a.t.p],rm5)) (⟨Nat.zero_le _,rfl,fun c hc=>by simp at hc;subst hc;exact⟨hag.p,hag.ok.p⟩,by simp;omega⟩) ?_;(conv=>whnf);refine⟨by ((conv=>whnf);first|rfl|(simp[envCat,List.take_of_length_le,crow,trow,srow,drow];done)|(simp[envCat,List.take_of_length_le,crow,trow,srow,drow];rw[IntKind.wrap_i64];omega)),?_⟩
   rintro⟨j,l,rml⟩ ⟨hj,hsx,hla,hll⟩
   dsimp only at hj hsx hla hll ⊢
   have hlm:(l.map crow).length=l.length:=by simp
   (conv=>whnf)
   by_cases hjl:j<a.t.less.length
   . obtain⟨m,hm⟩:∃ m,a.t.less[j]? = some m:=⟨_,List.getElem?_eq_getElem hjl⟩
     have hmI:a.t.less[((j:Nat):Int).toNat]? = some m:=hm
     have hmc:=(hag.less m (List.mem_of_getElem? hm)).1
     have hsa:=splL_all hla hmc
     have hsl:=splL_len (m:=m) hla
     have hseq:=splits_seq l rml m (fun c hc=>(hla c hc).1) hmc (by omega)
     have hsp:=splits_at l rml m
     rw[drop_get hm,splX_cons] at hsx
     by_cases hov:limit - (out.length:Int)<((splL m l).length:Int)
     . rw[if_pos hov] at hsx
       rw[hsx] at hex
       rw[expO_none hz harg hex]
       (try (conv=>whnf));repeat' (first|refine Ok.seq ?_|((first|refine Ok.region tok ?_|refine Ok.cond ?_);conv=>whnf)|refine Ok.block ?_|((first|refine Ok.skip ?_|refine ix _ (by assumption) ?_);conv=>whnf)|(refine bI ?_ ?_<;>intro<;>(conv=>whnf)<;>(try (exfalso;omega)))|fail)
       refine Ok.region_planpanS tok follows [(1,2,[])] [.q 0,.q 1,.q 3,.q 4,.q 5,.q 6,.l 2] 7 (by kernel_rfl) ?_;(conv=>whnf)
       (try (conv=>whnf));repeat' (first|(refine nI ?_;conv=>whnf)|(refine Or.inr (Or.inl ?_);(conv=>whnf);(repeat (refine aI ?_;conv=>whnf));refine⟨_,hsp,?_⟩;rintro _ _ ⟨rfl,rfl⟩<;>(conv=>whnf))|fail)
       refine⟨_,collect_pan hseq (limit - (out.length:Int)) (by omega) hov (by omega),?_⟩
       (conv=>whnf)
       refine⟨rfl,1,2,_,_,rfl,rfl,rfl,rfl,rfl,rfl,by decide,rfl,?_⟩
       (conv=>whnf)
       refine Or.inr (Or.inr ?_);(conv=>whnf)
       exact⟨rfl,rfl⟩
     . rw[if_neg hov] at hsx
       (try (conv=>whnf));repeat' (first|refine Ok.seq ?_|((first|refine Ok.region tok ?_|refine Ok.region_plan (id:=13) tok follows [(1,2,[]),(1,7,[2]),(4,7,[6,5]),(2,7,[])] [.q 0,.q 1,.q 3,.q 4,.q 5,.q 6,.l 2,.l 7,.q 8] (by kernel_rfl) ?_|refine Ok.cond ?_);conv=>whnf)|refine Ok.block ?_|((first|refine Ok.skip ?_|refine nI ?_|refine ix _ (by assumption) ?_);conv=>whnf)|(refine Or.inr (Or.inl ?_);(conv=>whnf);(repeat (refine aI ?_;conv=>whnf));refine⟨_,hsp,?_⟩;rintro _ _ ⟨rfl,rfl⟩<;>(conv=>whnf))|(refine Or.inr (Or.inl ?_);(conv=>whnf);(repeat (refine aI ?_;conv=>whnf));refine⟨_,collect_at hseq (limit - (out.length:Int)) (by omega) (by omega) , ?_⟩;rintro _ _ ⟨rm6,rfl,rfl⟩<;>(conv=>whnf))|(refine bI ?_ ?_<;>intro<;>(conv=>whnf)<;>(try (exfalso;omega)))|fail)
       refine⟨(j+1,splL m l,rm6),by dsimp only;omega,⟨by dsimp only;omega,hsx,hsa,by dsimp only;omega⟩,?_⟩
       (conv=>whnf)
       rfl
   . have hje:j=a.t.less.length:=by omega
     subst hje
     rw[List.drop_length] at hsx
     have hsx:splX (limit - (out.length:Int)) a.t.less [a.t.p]=some l:=hsx
     rw[hsx] at hex
     have hap:(out.map crow++l.map crow).length=out.length+l.length:=by simp
     (try (conv=>whnf));repeat' (first|refine Ok.seq ?_|((first|refine Ok.region tok ?_|refine Ok.cond ?_|refine Ok.exit ?_|refine nI ?_|refine Alt2.l (aI ?_)|refine⟨_,_,rfl,rfl,?_⟩);conv=>whnf)|(refine bI ?_ ?_<;>intro<;>(conv=>whnf)<;>(try (exfalso;omega)))|(refine aJ ?_;conv=>whnf)|fail)
     refine⟨(i+1,out++l),by dsimp only;omega,⟨by dsimp only;omega,hex,fun c hc=>(List.mem_append.1 hc).elim (hal c) (hla c),by dsimp only;rw[List.length_append];omega⟩,?_⟩
     (conv=>whnf)
     simp[envCat]
 . have hie:i=ts.length:=by omega
   subst hie
   rw[List.drop_length] at hex
   have hex:expX limit ts []=some out:=hex
   rw[expO_some hz harg hex]
   (try (conv=>whnf));repeat' (first|refine Ok.seq ?_|refine OkL.cons ?_|((first|refine Ok.region tok ?_|refine Ok.cond ?_|refine Ok.exit ?_|refine Ok.ret ?_);conv=>whnf)|(refine bI ?_ ?_<;>intro<;>(conv=>whnf)<;>(try (exfalso;omega)))|fail)
   refine Or.inr (Or.inl ?_);(conv=>whnf)
   exact⟨rfl,rfl⟩
end Go.Proofs.YtaiondckookpiaaDoor
namespace Go.Proofs.YtaiondckookpiaaDoor
open Go Go.Vx
section
variable {α : Type} {R L : α → α → Prop} {r b : α → α → Bool}
def addB(r:α->α->Bool)(k:List α)(x:α):List α:=if k.any (r x)=true then k else k.filter (fun y=>!r y x)++[x]
def grB(r:α->α->Bool)(l:List α):List α:=l.foldl (addB r) []
def insB(b:α->α->Bool)(c:α):List α->List α
 | []=>[c]
 | x :: q=>if b c x=true then c :: x :: q else x :: insB b c q
def putB(r b:α->α->Bool)(k:List α)(c:α):List α:=if k.any (r c)=true then k else insB b c (k.filter fun x=>!r x c)
def srtB(b:α->α->Bool)(l:List α):List α:=l.foldl (fun acc x=>insB b x acc) []
theorem filt_eq(h:∀ x y,R x y ↔ r x y=true)(k:List α)(x:α)[∀ y,Decidable (¬ R y x)]:k.filter (fun y=>decide (¬ R y x))=k.filter (fun y=>!r y x):=by
 refine List.filter_congr fun y _=>?_
 cases hr:r y x with
 | true=>simp[(h y x).2 hr]
 | false=>
  have hn:¬ R y x:=fun e=>by rw[(h y x).1 e] at hr;cases hr
  simp[hn]
theorem any_eq(h:∀ x y,R x y ↔ r x y=true)(k:List α)(x:α):(∃ y ∈ k,R x y) ↔ k.any (r x)=true:=by simp[h]
theorem addG_eq(h:∀ x y,R x y ↔ r x y=true)(k:List α)(x:α):addG R k x=addB r k x:=by
 unfold addG addB
 by_cases hk:k.any (r x)=true
 . rw[if_pos ((any_eq h k x).2 hk),if_pos hk]
 . rw[if_neg (fun e=>hk ((any_eq h k x).1 e)),if_neg hk,filt_eq h]
theorem grG_eq(h:∀ x y,R x y ↔ r x y=true)(l:List α):grG R l=grB r l:=by
 have e:addG R=addB r:=by funext k x;exact addG_eq h k x
 unfold grG grB
 rw[e]
theorem insG_eq(h:∀ x y,L x y ↔ b x y=true)(c:α):∀ l:List α,insG L c l=insB b c l
 | []=>rfl
 | x :: q=>by
  unfold insG insB
  by_cases hk:b c x=true
  . rw[if_pos ((h c x).2 hk),if_pos hk]
  . rw[if_neg (fun e=>hk ((h c x).1 e)),if_neg hk,insG_eq h c q]
theorem putG_eq(h:∀ x y,R x y ↔ r x y=true)(h2:∀ x y,L x y ↔ b x y=true)(k:List α)(c:α):putG R L k c=putB r b k c:=by
 unfold putG putB
 by_cases hk:k.any (r c)=true
 . rw[if_pos ((any_eq h k c).2 hk),if_pos hk]
 . rw[if_neg (fun e=>hk ((any_eq h k c).1 e)),if_neg hk,filt_eq h,insG_eq h2]
theorem srt_eq(h:∀ x y,L x y ↔ b x y=true)(l:List α):srt L l=srtB b l:=by
 unfold srt srtB
 congr 1
 funext acc x
 exact insG_eq h x acc
end
def inB:Str->Str->Bool
 | [],[]=>true
 | a :: c,b :: d=>(b == 120 || b == a) && inB c d
 | _,_=>false
theorem inL_b:∀ c d:Str,inL c d ↔ inB c d=true
 | [],[]=>by simp[inL,inB]
 | [],_ :: _=>by simp[inL,inB]
 | _ :: _,[]=>by simp[inL,inB]
 | a :: c,b :: d=>by simp[inL,inB,inL_b c d]
def inTB(c d:Str):Bool:=!c.isEmpty && inB c d
theorem inT_b(c d:Str):inT c d ↔ inTB c d=true:=by
 unfold inT inTB
 rw[inL_b]
 cases c<;>simp
theorem blt_b(c d:Str):blt c d ↔ Op.bytesLess c d=true:=.rfl
def termB(p:Str)(less:List Str):Option Term:=if (metL p less).foldl (putB inB Op.bytesLess) []=[p] then none else some ⟨p,(metL p less).foldl (putB inB Op.bytesLess) []⟩
theorem termT_b(p:Str)(less:List Str):termT p less=termB p less:=by
 have e:putG inL blt=putB inB Op.bytesLess:=by funext k c;exact putG_eq inL_b blt_b k c
 unfold termT termB
 rw[e]
def covB(t u:Term):Bool:=inTB t.p u.p && u.less.all fun m=>match meetT m t.p with|none=>true|some c=>t.less.any fun n=>inTB c n
theorem covT_b(t u:Term):covT t u ↔ covB t u=true:=by
 unfold covT covB
 rw[inT_b,Bool.and_eq_true,List.all_eq_true]
 refine and_congr_right fun _=>forall_congr' fun m=>forall_congr' fun _=>?_
 cases meetT m t.p with
 | none=>simp
 | some c=>simp[inT_b]
def lexB:List Str->List Str->Bool
 | _,[]=>false
 | [],_ :: _=>true
 | x :: a,y :: b=>Op.bytesLess x y || (x == y && lexB a b)
theorem lexL_b:∀ a b:List Str,lexL a b ↔ lexB a b=true
 | a,[]=>by cases a<;>simp[lexL,lexB]
 | [],_ :: _=>by simp[lexL,lexB]
 | x :: a,y :: b=>by simp[lexL,lexB,lexL_b a b]
def formB(l:List Term):List Term:=srtB (fun t u=>lexB (t.p :: t.less) (u.p :: u.less)) (grB covB l)
theorem formT_b(l:List Term):formT l=formB l:=by
 unfold formT formB
 rw[grG_eq covT_b]
 exact srt_eq (L:=aheadT) (b:=fun t u=>lexB (t.p :: t.less) (u.p :: u.less)) (fun t u=>lexL_b _ _) _
theorem trms_b(ms:List (List Str)):trms ms=ms.filterMap fun m=>termB (m.headD []) m.tail:=by
 unfold trms
 congr 1
 funext m
 exact termT_b _ _
instance (n:Int) (w:Str):Decidable (OkW n w):=decidable_of_iff ((w.length:Int)=n/\(w.length<=256/\∀ b ∈ w,b=48\/b=49\/b=120)/\w ≠ []) ⟨fun h=>⟨h.1,⟨h.2.1.1,h.2.1.2⟩,h.2.2⟩,fun h=>⟨h.1,⟨h.2.1.1,h.2.1.2⟩,h.2.2⟩⟩
instance (n:Int) (ms:List (List Str)):Decidable (OkP n ms):=inferInstanceAs (Decidable (∀ m ∈ ms,∀ w ∈ m,OkW n w))
def exS:Str:=[49,48,120,120,45,49,49,49,49,45,49,48,49,120,45,49,48,49,48,43,48,120,120,120,45,49,120,120,120]
def exT:List Term:=[⟨[48,120,120,120],[]⟩,⟨[49,48,120,120],[[49,48,49,120]]⟩]
theorem ex_form:formB ((pieces exS).filterMap fun m=>termB (m.headD []) m.tail)=exT:=by
 kernel_rfl
theorem parO_ex:parO 4 exS=(0,4,exT):=by
 unfold parO
 rw[if_neg (by decide),if_neg (by decide),if_neg (by decide),if_neg (fun h=>h (by decide)),if_neg (by decide),formT_b,trms_b,ex_form]
theorem text_ex:textS exT=[48,120,120,120,43,49,48,120,120,45,49,48,49,120]:=by
 unfold textS
 rw[if_neg (by simp[exT])]
 decide
theorem sptext_at{n:Int}{ts:List Term}(hf:Fine n ts)(ks:List TR)(rm:List (List D))(h1:ks.map TR.t=ts):FSpec Tryd.prog T 15 [.agg [.i .i64 n,.lst 81 (ks.map trow) rm]] (fun d _=>d = .s (textS ts)):=by
 have h:=text2_at n.toNat ks (room:=rm) (hf.sp h1) rfl
 rw[hf.cast,h1] at h
 exact h
theorem spsize_at{n:Int}{ts:List Term}(hf:Fine n ts)(ks:List TR)(rm:List (List D))(h1:ks.map TR.t=ts):FSpec Tryd.prog T 32 [.agg [.i .i64 n,.lst 81 (ks.map trow) rm]] (fun d _=>d = .i .i64 (szT ts:Nat)):=by
 have h:=size_at n ks (room:=rm) (hf.mlen h1) (hf.mless h1) rfl
 rw[h1] at h
 exact h
set_option maxHeartbeats 4000000 in
theorem awake_at:FSpec Tryd.prog T 17 [] (fun r _=>r = .b True):=by
 have hp:=parse2_at 4 exS
 have hf:=parO_fine 4 exS
 unfold POut at hp
 rw[parO_ex] at hp hf
 have htx:=fun ks rm h1=>sptext_at hf ks rm h1
 have hsz:=fun ks rm h1=>spsize_at hf ks rm h1
 dsimp only at hp htx hsz
 rw[text_ex] at htx
 rw[show szT exT=3 from rfl] at hsz
 refine FSpec.of_ok tok Tryd.func17 rfl Tryd.call17 (by simp) ?_
 (try (conv=>whnf));repeat' (first|refine Ok.seq ?_|((first|refine Ok.region tok ?_|refine Ok.ret ?_);conv=>whnf)|(refine Or.inl ?_;(conv=>whnf);(repeat (refine aI ?_;conv=>whnf));refine⟨_,htx ks rm hk,rfl,?_⟩;conv=>whnf)|(refine Or.inl ?_;(conv=>whnf);(repeat (refine aI ?_;conv=>whnf));refine⟨_,hsz ks rm hk,rfl,?_⟩;conv=>whnf)|(refine Or.inl ?_;(conv=>whnf);(repeat (refine aI ?_;conv=>whnf));refine⟨_,bits_at 4 (.lst 81 (ks.map trow) rm) ⟨_,_,_,rfl⟩,rfl,?_⟩;conv=>whnf)|(refine Or.inr (Or.inl ?_);(conv=>whnf);(repeat (refine aI ?_;conv=>whnf));refine⟨_,hp , ?_⟩;rintro _ _ ⟨rfl,_,rfl,ks,rm,rfl,hk⟩<;>(conv=>whnf))|(refine bI ?_ ?_<;>intro<;>(conv=>whnf)<;>(try (exfalso;omega)))|fail)
 all_goals first
  | (rename_i h;exact absurd rfl h)
  | (refine Or.inl ?_;(conv=>whnf)
     exact congrArg D.b (propext ⟨fun _=>trivial,fun _=>rfl⟩))
end Go.Proofs.YtaiondckookpiaaDoor
namespace Go.Vx
open Go.RowKit
variable {P : Program} {T : Tab}
structure FSpecN(P:Program)(T:Tab)(f:FuncId)(ds:List D)(R:D->Rows->Prop):Prop where
 call:∀ args w,(callFunc f args).run P w = .ok (.enter f args) w
 run:∀ (V Vb:Vw) (w:World) (args:Array Value),VOk V w->VOk Vb w->args.size=ds.length->(∀ (j:Nat) v d,args[j]? = some v->ds[j]? = some d->RI (szOf T) V v d) ->
  Calls P f args w fun e w'=>∃ V' ω row v d,e = .returned v/\R d row/\RS (szOf T) V' [] ω v d/\Res (szOf T) Vb V' ω row w w'
theorem FSpecN.plain{f:FuncId}{ds:List D}{R:D->Rows->Prop}(h:FSpecN P T f ds R):FSpec P T f ds R:=
 ⟨h.call,fun V w args hV hl hR=>h.run V V w args hV hV hl hR⟩
theorem FSpecN.imp{f:FuncId}{ds:List D}{R R':D->Rows->Prop}(h:FSpecN P T f ds R)(hi:∀ d rows,R d rows->R' d rows):FSpecN P T f ds R':=
 ⟨h.call,fun V Vb w args hV hb hl hR=>(h.run V Vb w args hV hb hl hR).mono (by rintro e w' ⟨V',ω,row,v,d,rfl,h1,h2,h3⟩;exact⟨V',ω,row,v,d,rfl,hi _ _ h1,h2,h3⟩)⟩
def fg1:D->Bool
 | .bp _ _=>true
 | .lst _ [] []=>true
 | d=>d.ownOrG
def fgs:List D->Bool|[]=>true|d :: r=>fg1 d && fgs r
def fg2:D->Bool|.agg cs=>fgs cs|d=>fg1 d
def fgt:List D->Bool|[]=>true|d :: r=>fg2 d && fgt r
def fgD:D->Bool|.tup cs=>fgt cs|d=>fg2 d
theorem fgs_at:∀ {l:List D},fgs l=true->∀ (j:Nat) d,l[j]? = some d->fg1 d=true
 | [],_,j,d,h=>by simp at h
 | c :: l,hf,j,d,h=>by
  simp only[fgs,Bool.and_eq_true] at hf
  cases j with
  | zero=>simp at h;subst h;exact hf.1
  | succ j=>exact fgs_at hf.2 j d (by simpa using h)
structure Fg(s s':St):Prop where
 box:s'.box=s.box
 row:s'.row=s.row
 n:s'.n=s.n
 env:∀ x ∈ s'.env,look s.env x.1=x.2/\fgD x.2=true
 boxes:∀ cs ∈ s.box,∀ d ∈ cs,fgD d=true
 rows:gRowsP s.row
def fgss:List (List D)->Bool|[]=>true|c :: r=>fgs c && fgss r
theorem fgss_at:∀ {l:List (List D)},fgss l=true->∀ cs ∈ l,∀ d ∈ cs,fgD d=true
 | [],_,cs,h=>by simp at h
 | c :: l,hf,cs,h=>by
  simp only[fgss,Bool.and_eq_true] at hf
  rcases List.mem_cons.1 h with rfl|h
  . intro d hd
    obtain⟨j,hj⟩:=List.getElem?_of_mem hd
    have h1:=fgs_at hf.1 j d hj
    cases d<;>first|exact h1|cases h1
  . exact fgss_at hf.2 cs h
theorem Fg.keep{env:List (Nat × D)}{box:List (List D)}{row:Rows}{n:Nat}(env':List (Nat × D))(h1:∀ x ∈ env',look env x.1=x.2/\fgD x.2=true)(h2:fgss box=true)(h3:gRowsP row):Fg ⟨env,box,row,n⟩ ⟨env',box,row,n⟩:=
 ⟨rfl,rfl,rfl,h1,fgss_at h2,h3⟩
def sndN:Nat->Code->Code
 | 0,c=>c
 | n+1,.seq _ c=>sndN n c
 | _+1,c=>c
theorem effK.new{s:St}{f:FuncId}{ts:List TypeId}{ds es:List D}{K:D->St->Prop}{R:D->Rows->Prop}(he:expos T s.row ts ds fun es'=>es'=es)(hf:FSpecN P T f es R)
    (h:∀ d rows,R d rows->rows=[]/\(∀ V v ω,RS (szOf T) V [] ω v d->RS (szOf T) V [] [] v d)/\K d s):effK P T s f ds K:=by
 refine⟨hf.call,fun w0 V0 V μ ω a w vs hS hvl hvR=>?_⟩
 obtain⟨es',rfl,hes,hri⟩:=expos_sound hS.mem ts ds vs _ hvl hvR he
 have hcalls:=hf.run (heapV w) V w vs.toArray (.heap hS.mem.vok.gl (Ext.refl w)) hS.mem.vok (by simp[hes,hvl]) (fun j v d h1 h2=>hri j v d (by simpa using h1) h2)
 refine hcalls.mono ?_
 rintro e w'' ⟨V',ω0,row0,v,d,rfl,hR,hrs,hres⟩
 obtain⟨rfl,hd,hk⟩:=h d row0 hR
 have hrs2:=hd V' v _ hrs
 have hω:ω0=[]:=List.eq_nil_of_length_eq_zero (by have:=hres.rl;simpa using this)
 subst hω
 obtain⟨env,box,row,n⟩:=s
 have hM:=hS.mem.call hres
 simp only[List.append_nil] at hM
 exact⟨v,d,_,V',μ,ω,rfl,hk,hrs2.mono (VLe.refl _) (fun i x h=>by simp at h) (fun i x h=>by simp at h),⟨hS.tmps,hS.defers.ext hres.below,fun t=>(hS.env t).mono hres.le (.refl μ) (.refl ω),hM⟩,hres.le,.refl _,.refl _,fun q v hq=>by rw[hres.below.cell (World.block_lt_of_cell? _ _ hq)];exact hq⟩
end Go.Vx
namespace Go.Vx
open Go.RowKit
variable {P : Program} {T : Tab}
theorem effK.deep{s:St}{f:FuncId}{ts:List TypeId}{ds es:List D}{K:D->St->Prop}{R:D->Rows->Prop}(he:expos T s.row ts ds fun es'=>es'=es)(hf:FSpec P T f es R)
    (h:∀ d rows,R d rows->rows=[]/\(∀ (V V':Vw) (v:Value) (ω:List Value),RS (szOf T) V [] ω v d->RS (szOf T) V' [] [] v d)/\K d s):effK P T s f ds K:=by
 refine⟨hf.call,fun w0 V0 V μ ω a w vs hS hvl hvR=>?_⟩
 obtain⟨es',rfl,hes,hri⟩:=expos_sound hS.mem ts ds vs _ hvl hvR he
 have hcalls:=hf.run (heapV w) w vs.toArray (.heap hS.mem.vok.gl (Ext.refl w)) (by simp[hes,hvl]) (fun j v d h1 h2=>hri j v d (by simpa using h1) h2)
 refine hcalls.mono ?_
 rintro e w'' ⟨V',ω0,row0,v,d,rfl,hR,hrs,hres⟩
 obtain⟨rfl,hd,hk⟩:=h d row0 hR
 have hres2:=hres.less hS.mem.vok trivial
 have hrs2:=hd V' (fun p=>if p.block<w.heap.size then V p else V' p) v _ hrs
 have hω:ω0=[]:=List.eq_nil_of_length_eq_zero (by have:=hres.rl;simpa using this)
 subst hω
 obtain⟨env,box,row,n⟩:=s
 have hM:=hS.mem.call hres2
 simp only[List.append_nil] at hM
 exact⟨v,d,_,_,μ,ω,rfl,hk,hrs2.mono (VLe.refl _) (fun i x h=>by simp at h) (fun i x h=>by simp at h),⟨hS.tmps,hS.defers.ext hres2.below,fun t=>(hS.env t).mono hres2.le (.refl μ) (.refl ω),hM⟩,hres2.le,.refl _,.refl _,fun q v hq=>by rw[hres2.below.cell (World.block_lt_of_cell? _ _ hq)];exact hq⟩
end Go.Vx
namespace Go.Vx
open Go.RowKit
abbrev Blks:=List (Nat × Obj)
def Fr.has(F:Fr)(M:Blks):Fr:={ F with kc:=M++F.kc }
structure SimH(sz:TypeId->Nat)(w0:World)(F:Fr)(V:Vw)(μ:List Nat)(ω:List Value)(s:St)(a:Act)(w:World)(M:Blks):Prop where
 sim:Sim sz w0 (F.has M) V μ ω s a w
 nodup:((M++F.kc).map (·.1)).Nodup
structure OkH(P:Program)(T:Tab)(c:Code)(Q:Exit->St->Blks->Prop)(s:St)(M:Blks):Prop where
 run:∀ (w0:World) (F:Fr) (V:Vw) (μ:List Nat) (ω:List Value) (a:Act) (w:World),SimH (szOf T) w0 F V μ ω s a w M ->
  c.wp P (fun e a' w'=>∃ s' V' μ' ω' M',Q e s' M'/\SimH (szOf T) w0 F V' μ' ω' s' a' w' M') a w
section
variable {P : Program} {T : Tab} {M : Blks} {s : St} {Q : Exit → St → Blks → Prop}
theorem OkH.of_ok{c:Code}(h:Ok P T c (fun e s'=>Q e s' M) s):OkH P T c Q s M:=by
 refine⟨fun w0 F V μ ω a w hS=>wp_mono (h.run w0 (F.has M) V μ ω a w hS.sim) ?_⟩
 rintro e a' w' ⟨s',V',μ',ω',hk,hS'⟩
 exact⟨s',V',μ',ω',M,hk,hS',hS.nodup⟩
theorem OkH.mono{c:Code}{Q':Exit->St->Blks->Prop}(h:OkH P T c Q s M)(hq:∀ e s M,Q e s M->Q' e s M):OkH P T c Q' s M:=by
 refine⟨fun w0 F V μ ω a w hS=>wp_mono (h.run w0 F V μ ω a w hS) ?_⟩
 rintro e a' w' ⟨s',V',μ',ω',M',hk,hS'⟩
 exact⟨s',V',μ',ω',M',hq _ _ _ hk,hS'⟩
def thenH(N:St->Blks->Prop)(Q:Exit->St->Blks->Prop):Exit->St->Blks->Prop
 | .normal,s,M=>N s M
 | e,s,M=>Q e s M
theorem OkH.seq{x y:Code}(h:OkH P T x (thenH (OkH P T y Q) Q) s M):OkH P T (.seq x y) Q s M:=by
 refine⟨fun w0 F V μ ω a w hS=>wp_seq (wp_mono (h.run w0 F V μ ω a w hS) ?_)⟩
 rintro e a' w' ⟨s',V',μ',ω',M',hk,hS'⟩
 cases e with
 | normal=>exact OkH.run hk w0 F V' μ' ω' a' w' hS'
 | _=>exact⟨s',V',μ',ω',M',hk,hS'⟩
theorem OkH.skip(h:Q .normal s M):OkH P T .skip Q s M:=⟨fun _ _ V μ ω _ _ hS=>wp_skip ⟨s,V,μ,ω,M,h,hS⟩⟩
theorem OkH.ret(h:Q .ret s M):OkH P T .ret Q s M:=⟨fun _ _ V μ ω _ _ hS=>wp_ret ⟨s,V,μ,ω,M,h,hS⟩⟩
theorem OkH.exit{id:Nat}(h:Q (.exit id) s M):OkH P T (.exit id) Q s M:=⟨fun _ _ V μ ω _ _ hS=>wp_exit ⟨s,V,μ,ω,M,h,hS⟩⟩
def blockH(id:Nat)(Q:Exit->St->Blks->Prop):Exit->St->Blks->Prop
 | .exit id',s,M=>match Nat.beq id' id with|true=>Q .normal s M|false=>Q (.exit id') s M
 | e,s,M=>Q e s M
theorem OkH.block{id:Nat}{c:Code}(h:OkH P T c (blockH id Q) s M):OkH P T (.block id c) Q s M:=by
 refine⟨fun w0 F V μ ω a w hS=>?_⟩
 refine wp_block (wp_mono (h.run w0 F V μ ω a w hS) ?_)
 rintro e a' w' ⟨s',V',μ',ω',M',hk,hS'⟩
 cases e with
 | exit id'=>
  simp only[blockH] at hk
  simp only[Exit.inBlock]
  split at hk
  . rename_i hb
    rw[if_pos (beq_nat_true hb)]
    exact⟨s',V',μ',ω',M',hk,hS'⟩
  . rename_i hb
    rw[if_neg (by rintro rfl;rw[Nat.beq_refl] at hb;cases hb)]
    exact⟨s',V',μ',ω',M',hk,hS'⟩
 | _=>exact⟨s',V',μ',ω',M',hk,hS'⟩
theorem SimH.of{sz:TypeId->Nat}{w0 w w':World}{F:Fr}{V V':Vw}{μ μ':List Nat}{ω ω':List Value}{s s':St}{a a':Act}(h:SimH sz w0 F V μ ω s a w M)(h':Sim sz w0 (F.has M) V' μ' ω' s' a' w'):SimH sz w0 F V' μ' ω' s' a' w' M:=
 ⟨h',h.nodup⟩
end
end Go.Vx
