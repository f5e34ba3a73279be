/- The walks and the plain laws that a law of networks needs, part 5 of 7. -/
import Derived.Test.YtnlingegeangmaaGreatDoorQID
import Derived.Lib.ItoaLen
import Derived.Test.YtnlingegeangmaaGreatDoorProg
import Derived.Shelf.LaysM
import Derived.Shelf.Strconv.Itoa3
import Derived.Ground.GgsProg
import Derived.WideKeyRuns
set_option linter.unusedVariables false
set_option linter.unusedSimpArgs false
set_option linter.unusedSectionVars false
set_option maxRecDepth 100000
set_option maxHeartbeats 16000000
namespace Go.Proofs.YtnlingegeangmaaGreatDoor
open Go Go.Vx
theorem XP{c:bC}(h:¬ ((c.routing ≠ []/\¬ ∃ f ∈ c.fields,f.s=c.routing)\/(c.gB/\c.routing=[]))):Fp c=(0,[]):=if_neg h
theorem XQ(nm:Str)(l:List SI):cO nm (fds l) 0<0 ↔ ¬ ∃ f ∈ l,f.s=nm:=by
 have h:=(Ae nm (fds l) 0).1;rw[<- Int.not_le,h];apply not_congr;constructor
 . rintro⟨f,hf,e⟩
   obtain⟨x,hx,rfl⟩:=List.mem_map.1 hf;exact⟨x,hx,e⟩
 . rintro⟨x,hx,e⟩
   exact⟨_,List.mem_map.2 ⟨x,hx,rfl⟩,e⟩
theorem Y5(c:Config)(hf:c.fields.l.length<=1048576):aF Tryz.prog T 78 [.agg c.row] (fun d _=>d = .tup [.i .i64 (jQ c.b).1,.s (jQ c.b).2]):=by
 have hfl:(c.fields.l.map SI.row).length=c.fields.l.length:=sI;have hrc:=Af (fds c.fields.l) c.fields.room (by rw[vX];omega);have hfd:=yF (fds c.fields.l) c.fields.room c.routing (by rw[vX];omega);rw[Au] at hrc hfd;refine aF.aB tok Tryz.func78 rfl Tryz.call78 sI ?_;by_cases ht:256<c.title.length
 . (try (conv=>whnf));repeat' (first|refine Ok.seq ?_|((first|refine Ok.region tok ?_|refine Ok.cond ?_|refine Ok.ret ?_);conv=>whnf)|(refine bI ?_ ?_<;>intro<;>first|omega|conv=>whnf)|fail)
   all_goals first
    | omega
    | (refine Or.inl ?_;(conv=>whnf)
       rw[Oh (c:=c.b) ht];rfl)
 rcases Og (fds c.fields.l) with⟨h,h2⟩|⟨h,h2⟩|⟨h1,h2,h|⟨j,h,hj⟩⟩
 . rw[h] at hrc
   dsimp only at hrc;rw[DI (c:=c.b) ht (.inl (by show (dh (fds c.fields.l)).1=2;rw[h]))];(try (conv=>whnf));repeat' (first|refine Ok.seq ?_|((first|refine Ok.region tok ?_|refine Ok.cond ?_|refine Ok.skip ?_|refine Ok.ret ?_);conv=>whnf)|(refine Or.inl ?_;(conv=>whnf);(repeat (refine aI ?_;conv=>whnf));refine⟨_,hrc,rfl,?_⟩;conv=>whnf)|(refine bI ?_ ?_<;>intro<;>first|omega|conv=>whnf)|fail)
   all_goals first
    | omega
    | (refine Or.inl ?_;(conv=>whnf)
       rfl)
 . rw[h] at hrc
   dsimp only at hrc;have h3:=(ES _).1 h2;have h4:c.fields.l.length=0:=by rw[h3];rfl
   rw[DI (c:=c.b) ht (.inr h3)];(try (conv=>whnf));repeat' (first|refine Ok.seq ?_|((first|refine Ok.region tok ?_|refine Ok.cond ?_|refine Ok.skip ?_|refine Ok.ret ?_);conv=>whnf)|(refine Or.inl ?_;(conv=>whnf);(repeat (refine aI ?_;conv=>whnf));refine⟨_,hrc,rfl,?_⟩;conv=>whnf)|(refine bI ?_ ?_<;>intro<;>first|omega|conv=>whnf)|fail)
   all_goals first
    | omega
    | (refine Or.inl ?_;(conv=>whnf)
       rfl)
 . rw[h] at hrc
   dsimp only at hrc;rw[vX] at h2;have h3:c.fields.l ≠ []:=fun e=>h1 ((ES _).2 e)
   have h4:c.fields.l.length ≠ 0:=fun e=>h3 (List.eq_nil_of_length_eq_zero e)
   rw[Qz (c:=c.b) ht h h3];(try (conv=>whnf));repeat' (first|refine Ok.seq ?_|((first|refine Ok.region tok ?_|refine Ok.cond ?_);conv=>whnf)|refine Ok.block ?_|(refine Ok.skip ?_;conv=>whnf)|(refine Or.inl ?_;(conv=>whnf);(repeat (refine aI ?_;conv=>whnf));refine⟨_,hrc,rfl,?_⟩;conv=>whnf)|(refine bI ?_ ?_<;>intro<;>first|omega|conv=>whnf)|fail)
   all_goals first
    | omega
    | skip
   refine Ok.aT [1,35,36] [37] 0 1 (fun (i:Nat)=>[.i .i64 (i:Nat)]) (fun (i:Nat) (_:List (List D))=>[c.row]) (fun _ r=>r) (fun (i:Nat)=>i<=c.fields.l.length/\aV wV [] c.b.fields=aV wV (c.fields.l.take i) (c.fields.l.drop i)) (fun (i:Nat)=>c.fields.l.length - i) (0) (⟨Nat.zero_le _,rfl⟩) ?_;(conv=>whnf);refine⟨by ((conv=>whnf);first|rfl|(simp[ak, au, SI.row, Node.row, Pfx.row, Link.row, aG, Line.row, Rule.row, Box.row, Slc.row, Config.row, eY, bJ];done)|(simp[ak, au, SI.row, Node.row, Pfx.row, Link.row, aG, Line.row, Rule.row, Box.row, Slc.row, Config.row, eY, bJ];rw[IntKind.wrap_i64];omega)),?_⟩;rintro i ⟨hi,hfe⟩;(conv=>whnf);by_cases hil:i<c.fields.l.length
   . obtain⟨f,hfi⟩:∃ f,c.fields.l[i]? = some f:=⟨_,aC hil⟩
     have hfI:c.fields.l[((i:Nat):Int).toNat]? = some f:=hfi
     repeat' (first|refine Ok.seq ?_|((first|refine Ok.region tok ?_|refine Ok.bH tok follows kR ?_|refine Ok.cond ?_);conv=>whnf)|refine Ok.block ?_|((first|refine Ok.skip ?_|refine Ok.ret ?_|refine nI ?_|refine ix _ aS ?_);conv=>whnf)|(refine Or.inl ?_;(conv=>whnf);(repeat (refine aI ?_;conv=>whnf));refine⟨_,Eb f.s,rfl,?_⟩;conv=>whnf)|(refine bI ?_ ?_<;>intro<;>first|omega|conv=>whnf)|fail)
     . rename_i hr
       refine Or.inl ?_;(conv=>whnf);rw[hfe,iW hfi (by rw[Ph hr];simp),Ph hr,rO _ sI];rfl
     . rename_i hr
       rw[qN hfi (by rw[Y4 hr])] at hfe;refine⟨i+1,oA,⟨oA,hfe⟩,?_⟩;(conv=>whnf);rfl
   . obtain rfl:i=c.fields.l.length:=oA
     rw[List.drop_length,List.take_length] at hfe;rw[hfe,lG _ rfl];have hfn:=XQ c.routing c.fields.l;have hkb:((c.routing ≠ []/\cO c.routing (fds c.fields.l) 0<0)\/(c.routing=[]/\c.gB)) ↔ ((c.b.routing ≠ []/\¬ ∃ f ∈ c.b.fields,f.s=c.b.routing)\/(c.b.gB/\c.b.routing=[])):=by
      rw[hfn,and_comm (a:=c.routing=[])];rfl
     (try (conv=>whnf));repeat' (first|refine Ok.seq ?_|((first|refine Ok.region tok ?_|refine Ok.bH tok follows kR ?_|refine Ok.cond ?_|refine Ok.skip ?_|refine Ok.exit ?_|refine Ok.ret ?_);conv=>whnf)|(refine Or.inl ?_;(conv=>whnf);(repeat (refine aI ?_;conv=>whnf));refine⟨_,hfd,rfl,?_⟩;conv=>whnf)|(refine bI ?_ ?_<;>intro<;>first|omega|conv=>whnf)|fail)
     all_goals
      refine Or.inl ?_;(conv=>whnf)
      first
       | (rw[H9 (hkb.1 (.inl ⟨aS,aS⟩))];rfl)
       | (rw[H9 (hkb.1 (.inr ⟨aS,aS⟩))];rfl)
       | (rw[XP fun g=>by
            rcases hkb.2 g with⟨a,b⟩|⟨a,b⟩<;>first|exact absurd a aS|exact absurd b aS|exact absurd aS a|exact absurd aS b]
          rfl)
 . rw[h] at hrc
   dsimp only at hrc;rw[vX] at hj;obtain⟨f,hfi⟩:∃ f,c.fields.l[j]? = some f:=⟨_,aC hj⟩;rw[Pj (c:=c.b) ht h hfi];have h4:c.fields.l.length ≠ 0:=oA;(try (conv=>whnf));repeat' (first|refine Ok.seq ?_|((first|refine Ok.region tok ?_|refine Ok.bH tok follows kR ?_|refine Ok.cond ?_|refine Ok.skip ?_|refine Ok.ret ?_|refine ix _ aS ?_);conv=>whnf)|(refine Or.inl ?_;(conv=>whnf);(repeat (refine aI ?_;conv=>whnf));refine⟨_,hrc,rfl,?_⟩;conv=>whnf)|(refine bI ?_ ?_<;>intro<;>first|omega|conv=>whnf)|fail)
   all_goals first
    | omega
    | (refine Or.inl ?_;(conv=>whnf)
       rfl)
end Go.Proofs.YtnlingegeangmaaGreatDoor
namespace Go.Proofs.YtnlingegeangmaaGreatDoor
open Go Go.Vx Go.Shelf
theorem Y6(l:List Fd)(e:List Nd):∃ y:D,zq l e = .tup [y,.i .i64 (dZ l e)]/\(y = .fG\/∃ x:Tr,y=x.d):=by
 by_cases h:dZ l e=0
 . cases hb:kN e with
   | none=>
    exfalso;unfold dZ at h;split at h
    . rename_i h1;exact h1 h
    split at h
    . cases h
    . rw[hb] at h;cases h
   | some x=>exact⟨x.d,by rw[RP h hb,h],.inr ⟨x,rfl⟩⟩
 . exact⟨.fG,yE rfl h,.inl rfl⟩
theorem Pm(l:List Fd)(r:List (List D))(e:List Nd)(r2:List (List D))(hl:l.length<=2000000)(he:e.length<=2000000)(htx:J8 e) :
    aF Tryz.prog T 126 [.lst 93 (l.map bJ) r,.lst 174 (e.map eY) r2] (fun d _=>d = .i .i64 (dZ l e)):=by
 have hk:=aaB l r e r2 hl he htx;obtain⟨y,hy,hx⟩:=Y6 l e;rw[hy] at hk;refine aF.aB tok Tryz.func126 rfl Tryz.call126 sI ?_;rcases hx with rfl|⟨x,rfl⟩
 . (try (conv=>whnf));repeat' (first|refine Ok.seq ?_|((first|refine Ok.region tok ?_|refine Ok.ret ?_);conv=>whnf)|(refine Or.inr (Or.inl ?_);(conv=>whnf);(repeat (refine aI ?_;conv=>whnf));refine⟨_,hk,?_⟩;rintro _ _ ⟨rfl,rfl⟩;conv=>whnf)|fail)
   refine Or.inl ?_;(conv=>whnf);rfl
 . (try (conv=>whnf));repeat' (first|refine Ok.seq ?_|((first|refine Ok.region tok ?_|refine Ok.ret ?_);conv=>whnf)|(refine Or.inr (Or.inl ?_);(conv=>whnf);(repeat (refine aI ?_;conv=>whnf));refine⟨_,hk,?_⟩;rintro _ _ ⟨rfl,rfl⟩;conv=>whnf)|fail)
   refine Or.inl ?_;(conv=>whnf);rfl
end Go.Proofs.YtnlingegeangmaaGreatDoor
namespace Go.Proofs.YtnlingegeangmaaGreatDoor
open Go Go.Vx
structure wK(c:bC):Prop where
 chk:dh (fds c.fields)=(0,0)
 known:c.routing ≠ []->∃ f ∈ c.fields,f.s=c.routing
theorem Jw{c:bC}(h:(jQ c).1=0):wK c:=by
 by_cases ht:256<c.title.length
 . rw[Oh ht] at h;cases h
 rcases Og (fds c.fields) with⟨e,h2⟩|⟨e,h2⟩|⟨h1,h2,e|⟨j,e,hj⟩⟩
 . rw[DI ht (.inl (by rw[e]))] at h;cases h
 . rw[DI ht (.inr ((ES _).1 h2))] at h;cases h
 . rw[Qz ht e (fun g=>h1 ((ES _).2 g))] at h
   refine⟨e,fun hr=>Classical.byContradiction fun hn=>?_⟩;by_cases h0:(aV wV [] c.fields).1=0
   . rw[lG _ h0,H9 (.inl ⟨hr,hn⟩)] at h;cases h
   . rw[rO _ h0] at h;exact h0 h
 . rw[vX] at hj
   rw[Pj ht e (aC hj)] at h;cases h
theorem TB{l:List Node}(h:∀ x ∈ l,x.Tx):J8 (nds l):=fun c hc=>by
 obtain⟨x,hx,rfl⟩:=List.mem_map.1 hc;have h1:=(h x hx).field;have h2:=(h x hx).pat;unfold SOk at h1 h2;exact⟨by show x.field.length<=_;omega,by show x.pat.length<=_;omega⟩
theorem o8(s:Str)(w o:List Str):dG [s] w o=(jc w o [] s).1:=by
 unfold dG aV;by_cases h:(jc w o [] s).1 ≠ 0
 . rw[if_pos h]
 . rw[if_neg h]
   exact (Classical.not_not.1 h).symm
theorem QA(cf:Config)(hf:cf.fields.l.length<=1048576)(b:Box)(g:Nat)(l:List Node){rl r:List (List D)}(h:rl=l.map Node.row)(hl:l.length<=1048576)(htx:∀ x ∈ l,x.Tx) :
    aF Tryz.prog T 148 [zf (.ep cf.row) b g,.lst 174 rl r] (fun d _=>d = .b (dZ (fds cf.fields.l) (nds l)=0)):=by
 subst h;have hc:=Pm (fds cf.fields.l) cf.fields.room (nds l) r (by rw[vX];omega) (by simp[nds];omega) (TB htx);rw[Au,RQ] at hc;refine aF.aB tok Tryz.func148 rfl Tryz.call148 sI ?_;(try (conv=>whnf));repeat' (first|refine Ok.seq ?_|((first|refine Ok.region tok ?_|refine Ok.ret ?_);conv=>whnf)|(refine Or.inl ?_;(conv=>whnf);(repeat (refine aI ?_;conv=>whnf));refine⟨_,hc,rfl,?_⟩;conv=>whnf)|fail)
 refine Or.inl ?_;(conv=>whnf);rfl
theorem Y7{nm:Str}{l:List Fd}(h:∃ f ∈ l,f.name=nm):∃ (k:Nat) (f:Fd),cO nm l 0=(k:Int)/\l[k]? = some f/\f.name=nm/\∀ (j:Nat) x,j<k->l[j]? = some x->x.name ≠ nm:=by
 have key:∀ (l:List Fd) (i:Nat),(∃ f ∈ l,f.name=nm)->∃ (k:Nat) (f:Fd),cO nm l i=((k+i:Nat):Int)/\l[k]? = some f/\f.name=nm/\∀ (j:Nat) x,j<k->l[j]? = some x->x.name ≠ nm:=by
  intro l
  induction l with
  | nil=>rintro i ⟨f,hf,_⟩;cases hf
  | cons y l ih=>
   rintro i ⟨f,hf,e⟩;by_cases hy:y.name=nm
   . exact⟨0,y,by unfold cO;rw[if_pos hy];simp,rfl,hy,fun j x hj=>absurd hj oA⟩
   . have hm:∃ f ∈ l,f.name=nm:=by
       rcases List.mem_cons.1 hf with rfl|hf
       . exact absurd e hy
       . exact⟨f,hf,e⟩
     obtain⟨k,x,h1,h2,h3,h4⟩:=ih (i+1) hm;refine⟨k+1,x,?_,by simpa using h2,h3,fun j z hj hz=>?_⟩
     . unfold cO
       rw[if_neg hy,h1];congr 1;omega
     . cases j with
       | zero=>simp at hz;subst hz;exact hy
       | succ j=>exact h4 j z oA (by simpa using hz)
 obtain⟨k,f,h1,h2⟩:=key l 0 h;exact⟨k,f,by simpa using h1,h2⟩
theorem QB{c:bC}(hh:wK c)(hr:c.routing ≠ []):∃ (k:Nat) (f:SI),cO c.routing (fds c.fields) 0=(k:Int)/\c.fields[k]? = some f/\f.s=c.routing/\cu c=f.n/\1<=f.n/\f.n<=32/\∀ (j:Nat) x,j<k->c.fields[j]? = some x->x.s ≠ c.routing:=by
 obtain⟨f0,hf0,e0⟩:=hh.known hr;obtain⟨k,f,h1,h2,h3,h4⟩:=Y7 (nm:=c.routing) (l:=fds c.fields) ⟨f0.fd,List.mem_map.2 ⟨f0,hf0,rfl⟩,e0⟩;have mX:=(vV (l:=fds c.fields) (by rw[hh.chk])).1 f (aU h2);have h2':=h2;simp only[fds,aN,Option.map_eq_some_iff] at h2;obtain⟨y,hy,rfl⟩:=h2;refine⟨k,y,h1,hy,h3,?_,mX.1,mX.2,fun j x hj hx=>h4 j x.fd hj (by simp[fds,hx])⟩;unfold cu;rw[if_neg hr,h1,if_neg oA];simp only[Int.toNat_natCast,h2',Option.getD_some];rfl
end Go.Proofs.YtnlingegeangmaaGreatDoor
namespace Go.Proofs.YtnlingegeangmaaGreatDoor
open Go Go.Vx
section
variable {c : bC} {b : bf} {pre : List Pfx} {p : Pfx}
theorem Pn(h:cu c=0\/p.len<0\/cu c<p.len\/p.value<0\/(tw (cu c).toNat:Int)<=p.value):mP c b pre p=78:=if_pos h
theorem XR(h:¬ (cu c=0\/p.len<0\/cu c<p.len\/p.value<0\/(tw (cu c).toNat:Int)<=p.value))(h2:p.value % (tw (cu c - p.len).toNat:Int) ≠ 0):mP c b pre p=78:=by unfold mP;rw[if_neg h,if_pos h2]
theorem XT(h:¬ (cu c=0\/p.len<0\/cu c<p.len\/p.value<0\/(tw (cu c).toNat:Int)<=p.value))(h2:¬ p.value % (tw (cu c - p.len).toNat:Int) ≠ 0)(h3:∃ q ∈ pre,q.value=p.value/\q.len=p.len):mP c b pre p=78:=by
 unfold mP;rw[if_neg h,if_neg h2,if_pos h3]
theorem Y8(h:¬ (cu c=0\/p.len<0\/cu c<p.len\/p.value<0\/(tw (cu c).toNat:Int)<=p.value))(h2:¬ p.value % (tw (cu c - p.len).toNat:Int) ≠ 0)(h3:¬ ∃ q ∈ pre,q.value=p.value/\q.len=p.len):mP c b pre p=dG [p.dst] b.outs b.ins:=by
 unfold mP;rw[if_neg h,if_neg h2,if_neg h3]
end
theorem Y9(b:bf)(s:Str):FY b False s=dG [s] b.outs b.ins:=by
 unfold FY;rw[o8,Qv,yJ (fun h=>h.elim:¬ False)]
theorem Oi(cf:Config)(hh:wK cf.b)(b:Box)(g:Nat)(l:List (Str × Int × Nat))(ck:Nat)(hl:iF l (b.ins.l++b.outs.l))(pre:List Pfx)(p:Pfx){rl r:List (List D)}(hr:rl=pre.map Pfx.row)(hpl:pre.length<=1048576) :
    dL Tryz.prog T (BG g l ck) 151 [zf (.ep cf.row) b g,.agg p.row,.lst 49 rl r] (fun d rows M=>(d = .i .i64 (mP cf.b b.b pre p)/\rows=[])/\M=[]):=by
 subst hr;have hpr:(pre.map Pfx.row).length=pre.length:=sI;refine dL.oI tok Tryz.func151 rfl Tryz.call151 sI ?_;by_cases hr0:cf.routing=[]
 . have hb0:cu cf.b=0:=if_pos hr0
   (try (conv=>whnf));repeat' (first|refine OkM.seq ?_|((first|refine OkM.region tok ?_|refine OkM.aB (Ok.bH tok follows kR ?_)|refine OkM.cond ?_|refine OkM.skip ?_|refine OkM.ret ?_);conv=>whnf)|(refine bI ?_ ?_<;>intro<;>first|omega|conv=>whnf)|fail)
   all_goals first
    | (exact absurd hr0 aS)
    | (refine Or.inl ?_;(conv=>whnf)
       exact⟨by rw[Pn (.inl hb0)];rfl,rfl⟩)
 obtain⟨k,f,hfi,hfk,hfs,hrb,hn1,hn2,hfirst⟩:=QB hh hr0;have hfl:=vV (l:=fds cf.fields.l) (by rw[show dh (fds cf.fields.l)=_ from hh.chk]);have hfd:=yF (fds cf.fields.l) cf.fields.room cf.routing (by have:=hfl.2;omega);rw[Au,show cO cf.routing (fds cf.fields.l) 0=_ from hfi] at hfd;have adg:(cf.fields.l.map SI.row)[k]? = some f.row:=by simp[show cf.fields.l[k]? = _ from hfk]
 obtain⟨K,hK⟩:∃ K:Nat,f.n=K:=⟨f.n.toNat,oA⟩;have adh:f.n=(K:Int)/\K<=62:=⟨hK,oA⟩;have hKt:(cu cf.b).toNat=K:=by rw[hrb];omega
 have htw:(0:Int)<tw K:=by have:=AY K;omega
 by_cases hA:p.len<0\/f.n<p.len\/p.value<0\/(tw K:Int)<=p.value
 . have hbad:mP cf.b b.b pre p=78:=Pn (.inr (by rw[hKt,hrb];exact hA))
   rw[hbad];(try (conv=>whnf));repeat' (first|((with_reducible_and_instances refine FP aS ?_);conv=>whnf)|refine OkM.seq ?_|((first|refine OkM.region tok ?_|refine OkM.aB (Ok.bH tok follows kR ?_)|refine OkM.cond ?_|refine OkM.skip ?_|refine OkM.ret ?_|refine ix _ aS ?_|refine⟨_,aS,?_⟩);conv=>whnf)|(refine bI ?_ ?_<;>intro<;>first|omega|conv=>whnf)|(refine aJ ?_;conv=>whnf)|fail)
   all_goals first
    | (exact absurd aS hr0)
    | omega
    | (refine Or.inl ?_;(conv=>whnf)
       exact⟨rfl,rfl⟩)
 have hA':¬ (cu cf.b=0\/p.len<0\/cu cf.b<p.len\/p.value<0\/(tw (cu cf.b).toNat:Int)<=p.value):=by
  rw[hKt,hrb];rintro (h|h)
  . omega
  . exact hA h
 obtain⟨K2,hK2⟩:∃ K2:Nat,f.n - p.len=K2:=⟨(f.n - p.len).toNat,oA⟩;have hsh2:f.n - p.len=(K2:Int)/\K2<=62:=⟨hK2,oA⟩;have UD:(cu cf.b - p.len).toNat=K2:=by rw[hrb];omega
 have acI:(0:Int)<tw K2:=by have:=AY K2;omega
 (try (conv=>whnf));repeat' (first|((with_reducible_and_instances refine FP aS ?_);conv=>whnf)|refine OkM.seq ?_|((first|refine OkM.region tok ?_|refine OkM.aB (Ok.bH tok follows kR ?_)|refine OkM.cond ?_);conv=>whnf)|refine OkM.block ?_|((first|refine OkM.skip ?_|refine OkM.ret ?_|refine nI ?_|refine ix _ aS ?_|refine⟨_,aS,?_⟩);conv=>whnf)|(refine bI ?_ ?_<;>intro<;>first|omega|conv=>whnf)|((first|refine aJ ?_|refine jh ?_);conv=>whnf)|fail)
 all_goals first
  | (exact absurd aS hr0)
  | omega
  | skip
 . rename_i hm
   rw[Int.tmod_eq_emod_of_nonneg oA] at hm;refine Or.inl ?_;(conv=>whnf);exact⟨by rw[XR hA' (by rw[UD];exact hm)];rfl,rfl⟩
 rename_i hm;have hm:¬ p.value % (tw (cu cf.b - p.len).toNat:Int) ≠ 0:=by
  rw[UD,<- Int.tmod_eq_emod_of_nonneg oA];exact hm
 refine OkM.aT [3,4,67,68] [69] 0 2 (fun (k:Nat)=>[.i .i64 (k:Nat)]) (fun _ b=>b) (fun _ r=>r) (fun (k:Nat)=>[]) (fun (k:Nat)=>k<=pre.length/\∀ (j:Nat) q,j<k->pre[j]? = some q->¬ (q.value=p.value/\q.len=p.len)) (fun (k:Nat)=>pre.length - k) (0) (⟨Nat.zero_le _,fun j q hj=>absurd hj oA⟩) sT ?_;(conv=>whnf);refine⟨by ((conv=>whnf);first|rfl|(simp[ak, au, SI.row, Node.row, Pfx.row, Link.row, aG, Line.row, Rule.row, Box.row, Slc.row, Config.row];done)|(simp[ak, au, SI.row, Node.row, Pfx.row, Link.row, aG, Line.row, Rule.row, Box.row, Slc.row, Config.row];rw[IntKind.wrap_i64];omega)),?_⟩;rintro k ⟨hk,hall⟩;(conv=>whnf);by_cases hkl:k<pre.length
 . obtain⟨q,hq⟩:∃ q,pre[k]? = some q:=⟨_,aC hkl⟩
   have hqI:pre[((k:Nat):Int).toNat]? = some q:=hq;have next:¬ (q.value=p.value/\q.len=p.len)->∀ (j:Nat) x,j<k+1->pre[j]? = some x->¬ (x.value=p.value/\x.len=p.len):=fun hn j x hj hx=>by
    by_cases hjk:j=k
    . subst hjk;rw[hq] at hx;cases hx;exact hn
    . exact hall j x oA hx
   (try (conv=>whnf));repeat' (first|refine OkM.seq ?_|((first|refine OkM.region tok ?_|refine OkM.cond ?_);conv=>whnf)|refine OkM.block ?_|((first|refine OkM.skip ?_|refine OkM.ret ?_|refine nI ?_|refine ix _ aS ?_);conv=>whnf)|(refine bI ?_ ?_<;>intro<;>first|omega|conv=>whnf)|fail)
   all_goals first
    | (refine Or.inl ?_;(conv=>whnf)
       exact⟨by rw[XT hA' hm ⟨q,aU hq,aS,aS⟩];rfl,rfl⟩)
    | (refine⟨k+1,oA,⟨oA,next fun h=>?_⟩,.refl _,?_⟩
       . first
           | exact absurd h.1 aS
           | exact absurd h.2 aS
       . (conv=>whnf)
         rfl)
 obtain rfl:k=pre.length:=oA;have hno:¬ ∃ q ∈ pre,q.value=p.value/\q.len=p.len:=by
  rintro⟨q,hq,h⟩;obtain⟨j,hj⟩:=List.getElem?_of_mem hq;exact hall j q (aK.1 hj).1 hj h
 (try (conv=>whnf));repeat' (first|(refine Or.inr (Or.inl ?_);(conv=>whnf);(repeat (refine aI ?_;conv=>whnf));refine⟨_,(RV cf b g l ck hl p.dst False).more (fun x hx=>List.mem_append_left _ hx),?_⟩;rintro _ _ _ ⟨⟨rfl,rfl⟩,rfl⟩<;>(conv=>whnf))|refine OkM.seq ?_|((first|refine OkM.region tok ?_|refine OkM.cond ?_|refine OkM.exit ?_|refine OkM.ret ?_);conv=>whnf)|(refine bI ?_ ?_<;>intro<;>first|omega|conv=>whnf)|fail)
 refine Or.inl ?_;(conv=>whnf);exact⟨by rw[Y8 hA' hm hno,<- Y9];rfl,rfl⟩
end Go.Proofs.YtnlingegeangmaaGreatDoor
namespace Go.Proofs.YtnlingegeangmaaGreatDoor
open Go Go.Vx
section
variable {c : bC} {b : bf} {pre : List uG} {r : uG}
theorem VP(h:r.prio<0\/65535<r.prio):kK c b pre r=76:=if_pos h
theorem XU(h:¬ (r.prio<0\/65535<r.prio))(h2:∃ s ∈ pre,s.prio=r.prio):kK c b pre r=76:=by unfold kK;rw[if_neg h,if_pos h2]
theorem WH(h:¬ (r.prio<0\/65535<r.prio))(h2:¬ ∃ s ∈ pre,s.prio=r.prio)(h3:dG r.frm b.ins b.outs ≠ 0):kK c b pre r=dG r.frm b.ins b.outs:=by unfold kK;rw[if_neg h,if_neg h2,if_pos h3]
theorem VQ(h:¬ (r.prio<0\/65535<r.prio))(h2:¬ ∃ s ∈ pre,s.prio=r.prio)(h3:¬ dG r.frm b.ins b.outs ≠ 0)(h4:dZ (fds c.fields) (nds r.dY) ≠ 0):kK c b pre r=77:=by unfold kK;rw[if_neg h,if_neg h2,if_neg h3,if_pos h4]
theorem WI(h:¬ (r.prio<0\/65535<r.prio))(h2:¬ ∃ s ∈ pre,s.prio=r.prio)(h3:¬ dG r.frm b.ins b.outs ≠ 0)(h4:¬ dZ (fds c.fields) (nds r.dY) ≠ 0)(h5:rP (fds c.fields) r.sets ≠ 0):kK c b pre r=79:=by
 unfold kK;rw[if_neg h,if_neg h2,if_neg h3,if_neg h4,if_pos h5]
theorem WJ(h:¬ (r.prio<0\/65535<r.prio))(h2:¬ ∃ s ∈ pre,s.prio=r.prio)(h3:¬ dG r.frm b.ins b.outs ≠ 0)(h4:¬ dZ (fds c.fields) (nds r.dY) ≠ 0)(h5:¬ rP (fds c.fields) r.sets ≠ 0)(h6:4<r.dst.length):kK c b pre r=71:=by
 unfold kK;rw[if_neg h,if_neg h2,if_neg h3,if_neg h4,if_neg h5,if_pos h6]
theorem Za(h:¬ (r.prio<0\/65535<r.prio))(h2:¬ ∃ s ∈ pre,s.prio=r.prio)(h3:¬ dG r.frm b.ins b.outs ≠ 0)(h4:¬ dZ (fds c.fields) (nds r.dY) ≠ 0)(h5:¬ rP (fds c.fields) r.sets ≠ 0)(h6:¬ 4<r.dst.length):kK c b pre r=dG r.dst b.outs b.ins:=by
 unfold kK;rw[if_neg h,if_neg h2,if_neg h3,if_neg h4,if_neg h5,if_neg h6]
end
def Ba:Prop:=∀ (l:List Fd) (r:List (List D)) (S:List SI) (r2:List (List D)),(dh l).1=0->S.length<=1048576 ->
 aF Tryz.prog T 174 [.lst 93 (l.map bJ) r,.lst 234 (S.map SI.row) r2] (fun d rows=>(∃ w,d = .tup [.s w,.i .i64 (rP l S)])/\rows=[])
theorem Zb(hW:Ba)(cf:Config)(hf:cf.fields.l.length<=1048576)(hh:wK cf.b)(b:Box)(g:Nat)(l:List (Str × Int × Nat))(ck:Nat)(hl:iF l (b.ins.l++b.outs.l))(pre:List Rule)(r:Rule)(hro:r.Ok)(hrt:r.Tx){rl r0:List (List D)}(hr:rl=pre.map Rule.row)(hpl:pre.length<=1048576) :
    dL Tryz.prog T (BG g l ck) 149 [zf (.ep cf.row) b g,.agg r.row,.lst 87 rl r0] (fun d rows M=>(d = .i .i64 (kK cf.b b.b (pre.map Rule.b) r.b)/\rows=[])/\M=[]):=by
 subst hr;have hpr:(pre.map Rule.row).length=pre.length:=sI;have hto:(r.dst.l.map aG).length=r.dst.l.length:=sI;have acJ:=hro.frm;have acK:=hro.dst;have hWs:=hW (fds cf.fields.l) cf.fields.room r.sets.l r.sets.room (by rw[show dh (fds cf.fields.l)=_ from hh.chk]) hro.sets;rw[Au] at hWs;have hS1:=Pg cf b g l ck hl r.frm.l (sl:=r.frm.room) rfl acJ True;have hS2:=Pg cf b g l ck hl r.dst.l (sl:=r.dst.room) rfl acK False;rw[Y1,Az (fun h=>h trivial:¬ ¬ True)] at hS1;rw[Qv,yJ (fun h=>h.elim:¬ False)] at hS2;refine dL.oI tok Tryz.func149 rfl Tryz.call149 sI ?_;by_cases hA:r.prio<0\/65535<r.prio
 . (try (conv=>whnf));repeat' (first|refine OkM.seq ?_|((first|refine OkM.region tok ?_|refine OkM.cond ?_|refine OkM.ret ?_);conv=>whnf)|(refine bI ?_ ?_<;>intro<;>first|omega|conv=>whnf)|fail)
   all_goals first
    | omega
    | (refine Or.inl ?_;(conv=>whnf)
       exact⟨by rw[VP (r:=r.b) hA];rfl,rfl⟩)
 (try (conv=>whnf));repeat' (first|refine OkM.seq ?_|((first|refine OkM.region tok ?_|refine OkM.cond ?_);conv=>whnf)|refine OkM.block ?_|(refine OkM.skip ?_;conv=>whnf)|(refine bI ?_ ?_<;>intro<;>first|omega|conv=>whnf)|fail)
 all_goals first
  | omega
  | skip
 refine OkM.aT [3,4,20,21] [22] 0 2 (fun (k:Nat)=>[.i .i64 (k:Nat)]) (fun _ b=>b) (fun _ r=>r) (fun (k:Nat)=>[]) (fun (k:Nat)=>k<=pre.length/\∀ (j:Nat) q,j<k->pre[j]? = some q->q.prio ≠ r.prio) (fun (k:Nat)=>pre.length - k) (0) (⟨Nat.zero_le _,fun j q hj=>absurd hj oA⟩) sT ?_;(conv=>whnf);refine⟨by ((conv=>whnf);first|rfl|(simp[ak, au, SI.row, Node.row, Pfx.row, Link.row, aG, Line.row, Rule.row, Box.row, Slc.row, Config.row];done)|(simp[ak, au, SI.row, Node.row, Pfx.row, Link.row, aG, Line.row, Rule.row, Box.row, Slc.row, Config.row];rw[IntKind.wrap_i64];omega)),?_⟩;rintro k ⟨hk,hall⟩;(conv=>whnf);by_cases hkl:k<pre.length
 . obtain⟨q,hq⟩:∃ q,pre[k]? = some q:=⟨_,aC hkl⟩
   have hqI:pre[((k:Nat):Int).toNat]? = some q:=hq
   repeat' (first|refine OkM.seq ?_|((first|refine OkM.region tok ?_|refine OkM.cond ?_);conv=>whnf)|refine OkM.block ?_|((first|refine OkM.skip ?_|refine OkM.ret ?_|refine nI ?_|refine ix _ aS ?_);conv=>whnf)|(refine bI ?_ ?_<;>intro<;>first|omega|conv=>whnf)|fail)
   . rename_i he
     refine Or.inl ?_;(conv=>whnf);exact⟨by rw[XU (r:=r.b) hA ⟨q.b,List.mem_map.2 ⟨q,aU hq,rfl⟩,he⟩];rfl,rfl⟩
   . rename_i he
     refine⟨k+1,oA,⟨oA,fun j x hj hx=>?_⟩,.refl _,?_⟩
     . by_cases hjk:j=k
       . subst hjk;rw[hq] at hx;cases hx;exact he
       . exact hall j x oA hx
     . (conv=>whnf)
       rfl
 obtain rfl:k=pre.length:=oA;have hno:¬ ∃ s ∈ pre.map Rule.b,s.prio=r.b.prio:=by
  rintro⟨s,hs,h⟩;obtain⟨q,hq,rfl⟩:=List.mem_map.1 hs;obtain⟨j,hj⟩:=List.getElem?_of_mem hq;exact hall j q (aK.1 hj).1 hj h
 (try (conv=>whnf));repeat' (first|(refine Or.inr (Or.inl ?_);(conv=>whnf);(repeat (refine aI ?_;conv=>whnf));refine⟨_,hS1.more (fun x hx=>List.mem_append_left _ hx),?_⟩;rintro _ _ _ ⟨⟨rfl,rfl⟩,rfl⟩<;>(conv=>whnf))|(refine Or.inr (Or.inl ?_);(conv=>whnf);(repeat (refine aI ?_;conv=>whnf));refine⟨_,hS2.more (fun x hx=>List.mem_append_left _ hx),?_⟩;rintro _ _ _ ⟨⟨rfl,rfl⟩,rfl⟩<;>(conv=>whnf))|refine OkM.seq ?_|((first|refine OkM.region tok ?_|refine OkM.aB (Ok.aW (id:=14) tok follows [(1,7,[4,3,2]),(4,7,[]),(6,7,[])] [.q 0,.q 1,.q 2,.q 3,.q 4,.q 5,.q 6,.l 7,.q 8,.q 9,.q 10,.q 11,.q 12] kR ?_)|refine OkM.cond ?_|refine OkM.skip ?_|refine OkM.exit ?_|refine OkM.ret ?_);conv=>whnf)|(refine Or.inl ?_;(conv=>whnf);refine Or.inl ?_;(conv=>whnf);(repeat (refine aI ?_;conv=>whnf));refine⟨_,QA cf hf b g r.dY.l rfl hro.dY hrt.dY,rfl,?_⟩;conv=>whnf)|(refine Or.inr (Or.inl ?_);(conv=>whnf);(repeat (refine aI ?_;conv=>whnf));refine⟨_,hWs , ?_⟩;rintro _ _ ⟨⟨w,rfl⟩,rfl⟩<;>(conv=>whnf))|(refine bI ?_ ?_<;>intro<;>first|omega|conv=>whnf)|fail)
 . rename_i h3
   refine Or.inl ?_;(conv=>whnf);exact⟨by rw[WH (r:=r.b) hA hno h3];rfl,rfl⟩
 . rename_i h3 h4
   refine Or.inl ?_;(conv=>whnf);exact⟨by rw[VQ (r:=r.b) hA hno h3 h4];rfl,rfl⟩
 . rename_i h3 h4 h5
   have h4:¬ dZ (fds cf.b.fields) (nds r.b.dY) ≠ 0:=h4;refine Or.inl ?_;(conv=>whnf);exact⟨by rw[WI (r:=r.b) hA hno h3 h4 h5];rfl,rfl⟩
 . rename_i h3 h4 h5 h6
   have h4:¬ dZ (fds cf.b.fields) (nds r.b.dY) ≠ 0:=h4;refine Or.inl ?_;(conv=>whnf);exact⟨by rw[WJ (r:=r.b) hA hno h3 h4 h5 (by show 4<r.dst.l.length;omega)];rfl,rfl⟩
 . rename_i h3 h4 h5 h6
   have h4:¬ dZ (fds cf.b.fields) (nds r.b.dY) ≠ 0:=h4;refine Or.inl ?_;(conv=>whnf);exact⟨by rw[Za (r:=r.b) hA hno h3 h4 h5 (by show ¬ 4<r.dst.l.length;omega)];rfl,rfl⟩
end Go.Proofs.YtnlingegeangmaaGreatDoor
namespace Go.Proofs.YtnlingegeangmaaGreatDoor
open Go Go.Vx
def Fq:Prop:=∀ n:Int,-9223372036854775808<=n->n<=9223372036854775807->aF Tryz.prog T 150 [.i .i64 n] (fun d _=>d = .s (Lib.itoa n))
theorem QC{e:Int}{t:Str}(h:e ≠ 0):told e t=(e,t):=if_pos h
theorem aaH{e:Int}{t:Str}(h:e=0):told e t=(0,[]):=if_neg fun g=>g h
theorem Oj{c:bC}{b:bf}{pre:List qg}{g:qg}(h:g.port ∉ b.ins++b.outs):guardE c b pre g=(73,b.name++[32,103,117,97,114,100,32]++g.port):=if_pos h
theorem Ol{c:bC}{b:bf}{pre:List qg}{g:qg}(h:g.port ∈ b.ins++b.outs)(h2:dZ (fds c.fields) (nds g.dY) ≠ 0):guardE c b pre g=(77,b.name++[32,103,117,97,114,100,32]++g.port):=by unfold guardE;rw[if_neg (fun g=>g h),if_pos h2]
theorem XV{c:bC}{b:bf}{pre:List qg}{g:qg}(h:g.port ∈ b.ins++b.outs)(h2:¬ dZ (fds c.fields) (nds g.dY) ≠ 0):guardE c b pre g=(0,[]):=by unfold guardE;rw[if_neg (fun g=>g h),if_neg h2]
theorem yu{α:Type}{f:List α->α->Er}{l:List α}{k:Nat}{x:α}{e:Int}{t:Str}(hx:l[k]? = some x)(hf:f (l.take k) x=told e t):(e ≠ 0->aV f (l.take k) (l.drop k)=(e,t))/\(e=0->aV f (l.take k) (l.drop k)=aV f (l.take (k+1)) (l.drop (k+1))):=by
 refine⟨fun h=>?_,fun h=>?_⟩
 . rw[iW hx (by rw[hf,QC h];exact h),hf,QC h]
 . rw[qN hx (by rw[hf,aaH h])]
theorem aaI(hW:Ba)(hI:Fq)(cf:Config)(hf:cf.fields.l.length<=1048576)(hh:wK cf.b)(b:Box)(hbo:b.Ok)(hbt:b.Tx)(g:Nat)(l:List (Str × Int × Nat))(ck:Nat)(hl:iF l (b.ins.l++b.outs.l)) :
    dL Tryz.prog T (BG g l ck) 123 [zf (.ep cf.row) b g] (fun d rows M=>(d = .tup [.i .i64 (oM cf.b [] b.b).1,.s (oM cf.b [] b.b).2]/\rows=[])/\M=[]):=by
 have hbn:b.name.length<=1048576:=hbt.name;have l3:(b.guards.l.map Line.row).length=b.guards.l.length:=sI;have l4:(b.rules.l.map Rule.row).length=b.rules.l.length:=sI;have l5:(b.owns.l.map Pfx.row).length=b.owns.l.length:=sI;have l6:(b.routes.l.map Pfx.row).length=b.routes.l.length:=sI;have b3:=hbo.guards;have b4:=hbo.rules;have b5:=hbo.owns;have b6:=hbo.routes;refine dL.oI tok Tryz.func123 rfl Tryz.call123 sI ?_;(try (conv=>whnf));repeat' (first|refine OkM.seq ?_|(refine OkM.region tok ?_;conv=>whnf)|refine OkM.block ?_|fail)
 refine OkM.aT [1,19,20] [21] 0 1 (fun (k:Nat)=>[.i .i64 (k:Nat)]) (fun _ b=>b) (fun _ r=>r) (fun (k:Nat)=>[]) (fun (k:Nat)=>k<=b.guards.l.length/\aV (guardE cf.b b.b) [] b.b.guards=aV (guardE cf.b b.b) (b.b.guards.take k) (b.b.guards.drop k)) (fun (k:Nat)=>b.guards.l.length - k) (0) (⟨Nat.zero_le _,rfl⟩) sT ?_;(conv=>whnf);refine⟨by ((conv=>whnf);first|rfl|(simp[ak, au, SI.row, Node.row, Pfx.row, Link.row, aG, Line.row, Rule.row, Box.row, Slc.row, Config.row];done)|(simp[ak, au, SI.row, Node.row, Pfx.row, Link.row, aG, Line.row, Rule.row, Box.row, Slc.row, Config.row];rw[IntKind.wrap_i64];omega)),?_⟩;rintro k ⟨hk,hfe⟩;(conv=>whnf);by_cases hkl:k<b.guards.l.length
 . obtain⟨x,hx⟩:∃ x,b.guards.l[k]? = some x:=⟨_,aC hkl⟩
   have hxI:b.guards.l[((k:Nat):Int).toNat]? = some x:=hx;have hxb:b.b.guards[k]? = some x.b:=by simp[Box.b,hx]
   have hxo:=hbo.line x (aU hx);have hxt:=hbt.guards x (aU hx);have hxp:x.port.length<=1048576:=hxt.port;have hs:=hl.vN (s:=x.port)
   repeat' (first|(refine⟨_,_,_,_,_,_,_,_,dH,mH,rfl,?_⟩;conv=>whnf)|refine OkM.seq ?_|((first|refine OkM.region tok ?_|refine OkM.aB (Ok.bH tok follows kR ?_)|refine OkM.cond ?_);conv=>whnf)|refine OkM.block ?_|((first|refine OkM.skip ?_|refine OkM.ret ?_|refine nI ?_|refine ix _ aS ?_);conv=>whnf)|(refine Or.inl ?_;(conv=>whnf);refine Or.inl ?_;(conv=>whnf);(repeat (refine aI ?_;conv=>whnf));refine⟨_,QA cf hf b g x.dY.l rfl hxo.dY hxt.dY,rfl,?_⟩;conv=>whnf)|(refine bI ?_ ?_<;>intro<;>first|omega|conv=>whnf)|(refine aJ ?_;conv=>whnf)|fail)
   . rename_i hp
     have hp:x.b.port ∉ b.b.ins++b.b.outs:=fun h=>hp (hs.2 h)
     rw[iW hxb (by rw[Oj hp];simp),Oj hp] at hfe;refine Or.inl ?_;(conv=>whnf);refine⟨?_,rfl⟩;rw[show oM cf.b [] b.b=orE _ _ from rfl,hfe,rO _ sI];rfl
   . rename_i hp hm
     have hp:x.b.port ∈ b.b.ins++b.b.outs:=hs.1 (Classical.not_not.1 hp);rw[iW hxb (by rw[Ol hp hm];simp),Ol hp hm] at hfe;refine Or.inl ?_;(conv=>whnf);refine⟨?_,rfl⟩;rw[show oM cf.b [] b.b=orE _ _ from rfl,hfe,rO _ sI];rfl
   . rename_i hp hm
     have hp:x.b.port ∈ b.b.ins++b.b.outs:=hs.1 (Classical.not_not.1 hp);have hm:¬ dZ (fds cf.b.fields) (nds x.b.dY) ≠ 0:=hm;rw[qN hxb (by rw[XV hp hm])] at hfe;refine⟨k+1,oA,⟨oA,hfe⟩,.refl _,?_⟩;(conv=>whnf);rfl
 obtain rfl:k=b.guards.l.length:=oA;rw[lX (by simp[Box.b])] at hfe;(try (conv=>whnf));repeat' (first|refine OkM.seq ?_|((first|refine OkM.region tok ?_|refine OkM.cond ?_);conv=>whnf)|refine OkM.block ?_|(refine OkM.exit ?_;conv=>whnf)|(refine bI ?_ ?_<;>intro<;>first|omega|conv=>whnf)|fail)
 refine OkM.aT [1,57,58] [59] 0 1 (fun (k:Nat)=>[.i .i64 (k:Nat)]) (fun _ b=>b) (fun _ r=>r) (fun (k:Nat)=>[]) (fun (k:Nat)=>k<=b.rules.l.length/\aV (qh cf.b b.b) [] b.b.rules=aV (qh cf.b b.b) (b.b.rules.take k) (b.b.rules.drop k)) (fun (k:Nat)=>b.rules.l.length - k) (0) (⟨Nat.zero_le _,rfl⟩) sT ?_;(conv=>whnf);refine⟨by ((conv=>whnf);first|rfl|(simp[ak, au, SI.row, Node.row, Pfx.row, Link.row, aG, Line.row, Rule.row, Box.row, Slc.row, Config.row];done)|(simp[ak, au, SI.row, Node.row, Pfx.row, Link.row, aG, Line.row, Rule.row, Box.row, Slc.row, Config.row];rw[IntKind.wrap_i64];omega)),?_⟩;rintro k ⟨hk,uV⟩;(conv=>whnf);by_cases hkl:k<b.rules.l.length
 . obtain⟨x,hx⟩:∃ x,b.rules.l[k]? = some x:=⟨_,aC hkl⟩
   have hxI:b.rules.l[((k:Nat):Int).toNat]? = some x:=hx;have hxb:b.b.rules[k]? = some x.b:=by simp[Box.b,hx]
   have hmt:((b.rules.l.map Rule.row++b.rules.room).take k).drop 0=(b.rules.l.take k).map Rule.row:=by rw[List.drop_zero,List.take_append_of_le_length oA,List.map_take]
   have hxo:=hbo.rule x (aU hx);have hxt:=hbt.rules x (aU hx);have hit:=Lib.itoa_length_le x.prio hxt.prio.1 hxt.prio.2;have hpm:(b.rules.l.take k).map Rule.b=b.b.rules.take k:=by simp[Box.b,List.map_take]
   have hsp:=Zb hW cf hf hh b g l ck hl (b.rules.l.take k) x hxo hxt (rl:=((b.rules.l.map Rule.row++b.rules.room).take k).drop 0) (r0:=(b.rules.l.map Rule.row++b.rules.room).drop k) hmt (by rw[List.length_take];omega)
   repeat' (first|(refine Or.inr ?_;(conv=>whnf);(repeat (refine aI ?_;conv=>whnf));refine⟨_,hsp.more (fun x hx=>List.mem_append_left _ hx),?_⟩;rintro _ _ _ ⟨⟨rfl,rfl⟩,rfl⟩<;>(conv=>whnf))|refine OkM.seq ?_|((first|refine OkM.region tok ?_|refine OkM.dP (id:=13) tok follows [(0,7,[]),(1,7,[]),(4,7,[6])] (.q 0 (.q 1 (.q 2 (.q 3 (.q 4 (.q 5 (.q 6 (.l 7 (.q 8 .nil))))))))) kR ?_|refine OkM.aB (Ok.bH tok follows kR ?_)|refine OkM.cond ?_);conv=>whnf)|refine OkM.block ?_|((first|refine OkM.skip ?_|refine OkM.ret ?_|refine nI ?_|refine ix _ aS ?_|refine⟨_,hI x.prio hxt.prio.1 hxt.prio.2,rfl,?_⟩|refine⟨_,_,rfl,rfl,?_⟩);conv=>whnf)|(refine bI ?_ ?_<;>intro<;>first|omega|conv=>whnf)|(refine aJ ?_;conv=>whnf)|fail)
   . rename_i he
     have ht:=(yu (f:=qh cf.b b.b) (t:=b.b.name++[32,114,117,108,101,32]++Lib.itoa x.prio) hxb (by rw[<- hpm];rfl)).1 he;rw[ht] at uV;refine Or.inl ?_;(conv=>whnf);refine⟨?_,rfl⟩;rw[show oM cf.b [] b.b=orE (aV (guardE cf.b b.b) [] b.b.guards) (orE (aV (qh cf.b b.b) [] b.b.rules) (orE (aV (oP cf.b b.b) [] b.b.owns) (aV (qj cf.b b.b) [] b.b.routes))) from rfl,hfe,lG _ rfl,uV,rO _ he];rfl
   . rename_i he
     have ht:=(yu (f:=qh cf.b b.b) (t:=b.b.name++[32,114,117,108,101,32]++Lib.itoa x.prio) hxb (by rw[<- hpm];rfl)).2 (Classical.not_not.1 he);rw[ht] at uV;refine⟨k+1,oA,⟨oA,uV⟩,.refl _,?_⟩;(conv=>whnf);rfl
 obtain rfl:k=b.rules.l.length:=oA;rw[lX (by simp[Box.b])] at uV;(try (conv=>whnf));repeat' (first|refine OkM.seq ?_|((first|refine OkM.region tok ?_|refine OkM.cond ?_);conv=>whnf)|refine OkM.block ?_|(refine OkM.exit ?_;conv=>whnf)|(refine bI ?_ ?_<;>intro<;>first|omega|conv=>whnf)|fail)
 refine OkM.aT [1,86,87] [88] 0 1 (fun (k:Nat)=>[.i .i64 (k:Nat)]) (fun _ b=>b) (fun _ r=>r) (fun (k:Nat)=>[]) (fun (k:Nat)=>k<=b.owns.l.length/\aV (oP cf.b b.b) [] b.b.owns=aV (oP cf.b b.b) (b.b.owns.take k) (b.b.owns.drop k)) (fun (k:Nat)=>b.owns.l.length - k) (0) (⟨Nat.zero_le _,rfl⟩) sT ?_;(conv=>whnf);refine⟨by ((conv=>whnf);first|rfl|(simp[ak, au, SI.row, Node.row, Pfx.row, Link.row, aG, Line.row, Rule.row, Box.row, Slc.row, Config.row];done)|(simp[ak, au, SI.row, Node.row, Pfx.row, Link.row, aG, Line.row, Rule.row, Box.row, Slc.row, Config.row];rw[IntKind.wrap_i64];omega)),?_⟩;rintro k ⟨hk,gU⟩;(conv=>whnf);by_cases hkl:k<b.owns.l.length
 . obtain⟨x,hx⟩:∃ x,b.owns.l[k]? = some x:=⟨_,aC hkl⟩
   have hxI:b.owns.l[((k:Nat):Int).toNat]? = some x:=hx;have hxb:b.b.owns[k]? = some x:=by simp[Box.b,hx]
   have hmt:((b.owns.l.map Pfx.row++b.owns.room).take k).drop 0=(b.owns.l.take k).map Pfx.row:=by rw[List.drop_zero,List.take_append_of_le_length oA,List.map_take]
   have hsp:=Oi cf hh b g l ck hl (b.owns.l.take k) x (rl:=((b.owns.l.map Pfx.row++b.owns.room).take k).drop 0) (r:=(b.owns.l.map Pfx.row++b.owns.room).drop k) hmt (by rw[List.length_take];omega)
   repeat' (first|(refine Or.inr ?_;(conv=>whnf);(repeat (refine aI ?_;conv=>whnf));refine⟨_,hsp.more (fun x hx=>List.mem_append_left _ hx),?_⟩;rintro _ _ _ ⟨⟨rfl,rfl⟩,rfl⟩<;>(conv=>whnf))|refine OkM.seq ?_|((first|refine OkM.region tok ?_|refine OkM.dP (id:=20) tok follows [(0,7,[]),(1,7,[]),(4,7,[6])] (.q 0 (.q 1 (.q 2 (.q 3 (.q 4 (.q 5 (.q 6 (.l 7 (.q 8 .nil))))))))) kR ?_|refine OkM.aB (Ok.bH tok follows kR ?_)|refine OkM.cond ?_);conv=>whnf)|refine OkM.block ?_|((first|refine OkM.skip ?_|refine OkM.ret ?_|refine nI ?_|refine ix _ aS ?_|refine⟨_,_,rfl,rfl,?_⟩);conv=>whnf)|(refine bI ?_ ?_<;>intro<;>first|omega|conv=>whnf)|(refine aJ ?_;conv=>whnf)|fail)
   . rename_i he
     have ht:=(yu (f:=oP cf.b b.b) (t:=b.b.name++[32,111,119,110]) hxb rfl).1 he;rw[ht] at gU;refine Or.inl ?_;(conv=>whnf);refine⟨?_,rfl⟩;rw[show oM cf.b [] b.b=orE (aV (guardE cf.b b.b) [] b.b.guards) (orE (aV (qh cf.b b.b) [] b.b.rules) (orE (aV (oP cf.b b.b) [] b.b.owns) (aV (qj cf.b b.b) [] b.b.routes))) from rfl,hfe,lG _ rfl,uV,lG _ rfl,gU,rO _ he];rfl
   . rename_i he
     have ht:=(yu (f:=oP cf.b b.b) (t:=b.b.name++[32,111,119,110]) hxb rfl).2 (Classical.not_not.1 he);rw[ht] at gU;refine⟨k+1,oA,⟨oA,gU⟩,.refl _,?_⟩;(conv=>whnf);rfl
 obtain rfl:k=b.owns.l.length:=oA;rw[lX (by simp[Box.b])] at gU;(try (conv=>whnf));repeat' (first|refine OkM.seq ?_|((first|refine OkM.region tok ?_|refine OkM.cond ?_);conv=>whnf)|refine OkM.block ?_|(refine OkM.exit ?_;conv=>whnf)|(refine bI ?_ ?_<;>intro<;>first|omega|conv=>whnf)|fail)
 refine OkM.aT [1,111,112] [113] 0 1 (fun (k:Nat)=>[.i .i64 (k:Nat)]) (fun _ b=>b) (fun _ r=>r) (fun (k:Nat)=>[]) (fun (k:Nat)=>k<=b.routes.l.length/\aV (qj cf.b b.b) [] b.b.routes=aV (qj cf.b b.b) (b.b.routes.take k) (b.b.routes.drop k)) (fun (k:Nat)=>b.routes.l.length - k) (0) (⟨Nat.zero_le _,rfl⟩) sT ?_;(conv=>whnf);refine⟨by ((conv=>whnf);first|rfl|(simp[ak, au, SI.row, Node.row, Pfx.row, Link.row, aG, Line.row, Rule.row, Box.row, Slc.row, Config.row];done)|(simp[ak, au, SI.row, Node.row, Pfx.row, Link.row, aG, Line.row, Rule.row, Box.row, Slc.row, Config.row];rw[IntKind.wrap_i64];omega)),?_⟩;rintro k ⟨hk,zx⟩;(conv=>whnf);by_cases hkl:k<b.routes.l.length
 . obtain⟨x,hx⟩:∃ x,b.routes.l[k]? = some x:=⟨_,aC hkl⟩
   have hxI:b.routes.l[((k:Nat):Int).toNat]? = some x:=hx;have hxb:b.b.routes[k]? = some x:=by simp[Box.b,hx]
   have hmt:((b.routes.l.map Pfx.row++b.routes.room).take k).drop 0=(b.routes.l.take k).map Pfx.row:=by rw[List.drop_zero,List.take_append_of_le_length oA,List.map_take]
   have hsp:=Oi cf hh b g l ck hl (b.routes.l.take k) x (rl:=((b.routes.l.map Pfx.row++b.routes.room).take k).drop 0) (r:=(b.routes.l.map Pfx.row++b.routes.room).drop k) hmt (by rw[List.length_take];omega)
   repeat' (first|(refine Or.inr ?_;(conv=>whnf);(repeat (refine aI ?_;conv=>whnf));refine⟨_,hsp.more (fun x hx=>List.mem_append_left _ hx),?_⟩;rintro _ _ _ ⟨⟨rfl,rfl⟩,rfl⟩<;>(conv=>whnf))|refine OkM.seq ?_|((first|refine OkM.region tok ?_|refine OkM.dP (id:=27) tok follows [(0,7,[]),(1,7,[]),(4,7,[6])] (.q 0 (.q 1 (.q 2 (.q 3 (.q 4 (.q 5 (.q 6 (.l 7 (.q 8 .nil))))))))) kR ?_|refine OkM.aB (Ok.bH tok follows kR ?_)|refine OkM.cond ?_);conv=>whnf)|refine OkM.block ?_|((first|refine OkM.skip ?_|refine OkM.ret ?_|refine nI ?_|refine ix _ aS ?_|refine⟨_,_,rfl,rfl,?_⟩);conv=>whnf)|(refine bI ?_ ?_<;>intro<;>first|omega|conv=>whnf)|(refine aJ ?_;conv=>whnf)|fail)
   . rename_i he
     have ht:=(yu (f:=qj cf.b b.b) (t:=b.b.name++[32,114,111,117,116,101]) hxb rfl).1 he;rw[ht] at zx;refine Or.inl ?_;(conv=>whnf);refine⟨?_,rfl⟩;rw[show oM cf.b [] b.b=orE (aV (guardE cf.b b.b) [] b.b.guards) (orE (aV (qh cf.b b.b) [] b.b.rules) (orE (aV (oP cf.b b.b) [] b.b.owns) (aV (qj cf.b b.b) [] b.b.routes))) from rfl,hfe,lG _ rfl,uV,lG _ rfl,gU,lG _ rfl,zx];rfl
   . rename_i he
     have ht:=(yu (f:=qj cf.b b.b) (t:=b.b.name++[32,114,111,117,116,101]) hxb rfl).2 (Classical.not_not.1 he);rw[ht] at zx;refine⟨k+1,oA,⟨oA,zx⟩,.refl _,?_⟩;(conv=>whnf);rfl
 obtain rfl:k=b.routes.l.length:=oA;rw[lX (by simp[Box.b])] at zx;(try (conv=>whnf));repeat' (first|refine OkM.seq ?_|((first|refine OkM.region tok ?_|refine OkM.cond ?_|refine OkM.exit ?_|refine OkM.ret ?_);conv=>whnf)|(refine bI ?_ ?_<;>intro<;>first|omega|conv=>whnf)|fail)
 refine Or.inl ?_;(conv=>whnf);refine⟨?_,rfl⟩;rw[show oM cf.b [] b.b=orE (aV (guardE cf.b b.b) [] b.b.guards) (orE (aV (qh cf.b b.b) [] b.b.rules) (orE (aV (oP cf.b b.b) [] b.b.owns) (aV (qj cf.b b.b) [] b.b.routes))) from rfl,hfe,lG _ rfl,uV,lG _ rfl,gU,lG _ rfl,zx];rfl
end Go.Proofs.YtnlingegeangmaaGreatDoor
namespace Go.Proofs.YtnlingegeangmaaGreatDoor
open Go Go.Vx
theorem iF.nil:iF [] []:=⟨fun _ _=>rfl,fun k s h=>by simp at h⟩
theorem iF.put{l:List (Str × Int × Nat)}{ps:List Str}{j:Nat}{s:Str}(h:iF l (ps.take j))(hs:ps[j]? = some s)(hn:s ∉ ps.take j)(c:Nat)(a:Int)(ha:a=(j:Nat)):iF (aX l c s a).1 (ps.take (j+1)):=by
 subst ha;have htk:ps.take (j+1)=ps.take j++[s]:=by rw[List.take_add_one,hs];rfl
 have hjl:=(aK.1 hs).1;have hl:(ps.take j).length=j:=by rw[List.length_take];omega
 rw[htk];refine⟨fun t ht=>?_,fun k t hk=>?_⟩
 . have hts:¬ t=s:=fun e=>ht (by rw[e];simp)
   rw[ug,if_neg hts];exact h.1 t fun g=>ht (List.mem_append_left _ g)
 . rw[ug]
   by_cases hkj:k<j
   . rw[List.getElem?_append_left oA] at hk
     have hts:¬ t=s:=fun e=>hn (by rw[<- e];exact aU hk)
     rw[if_neg hts];exact h.2 k t hk
   . rw[List.getElem?_append_right oA,hl] at hk
     obtain⟨h1,h2⟩:=aK.1 hk;simp at h1;have:k=j:=oA;subst this;simp at h2;subst h2;rw[if_pos rfl]
theorem Po{n:Str}{ps:List Str}(h:(aV (lH n) [] ps).1=0){j:Nat}{s:Str}(hs:ps[j]? = some s):iR s/\s ∉ ps.take j:=by
 have h0:=sU h j s hs;by_cases hm:iR s
 . refine⟨hm,fun hp=>?_⟩
   rw[Iz hm hp] at h0;cases h0
 . rw[Iy hm] at h0
   cases h0
theorem I9{c:bC}(h:(lJ c).1=0){i:Nat}{b:bf}(hb:c.boxes[i]? = some b):iR b.name/\b.name ∉ (c.boxes.take i).map bf.name/\(aV (lH b.name) [] (b.ins++b.outs)).1=0:=by
 have h0:=sU h i b hb;by_cases hm:iR b.name
 . by_cases hd:b.name ∈ (c.boxes.take i).map bf.name
   . rw[I8 hm hd] at h0;cases h0
   . rw[RX hm hd] at h0;exact⟨hm,hd,h0⟩
 . rw[I7 hm] at h0;cases h0
theorem XW(hW:Ba)(hI:Fq)(c:Config)(hc:c.Ok)(ht:c.Tx)(hh:wK c.b)(hn:(lJ c.b).1=0) :
    dL Tryz.prog T [] 81 [.agg c.row] (fun d rows M=>(d = .tup [.i .i64 (ql c.b).1,.s (ql c.b).2]/\rows=[])/\M=[]):=by
 have hcb:=hc.boxes;have hbl:(c.boxes.l.map Box.row).length=c.boxes.l.length:=sI;refine dL.oI tok Tryz.func81 rfl Tryz.call81 sI ?_;refine OkM.seq ?_;refine OkM.region tok ?_;(conv=>whnf);refine OkM.acG rfl ?_;(conv=>whnf)
 repeat' (first|refine OkM.seq ?_|(refine OkM.region tok ?_;conv=>whnf)|refine OkM.block ?_|fail)
 refine OkM.aT [1,11,12] [13] 0 0 (fun (i:Nat)=>[.i .i64 (i:Nat)]) (fun _ b=>b) (fun _ r=>r) (fun (i:Nat)=>[]) (fun (i:Nat)=>i<=c.boxes.l.length/\ql c.b=aV (oM c.b) (c.b.boxes.take i) (c.b.boxes.drop i)) (fun (i:Nat)=>c.boxes.l.length - i) (0) (⟨Nat.zero_le _,rfl⟩) sT ?_;(conv=>whnf);refine⟨by ((conv=>whnf);first|rfl|(simp[ak, au, SI.row, Node.row, Pfx.row, Link.row, aG, Line.row, Rule.row, Box.row, Slc.row, Config.row];done)|(simp[ak, au, SI.row, Node.row, Pfx.row, Link.row, aG, Line.row, Rule.row, Box.row, Slc.row, Config.row];rw[IntKind.wrap_i64];omega)),?_⟩;rintro i ⟨hi,hfe⟩;(conv=>whnf);by_cases hil:i<c.boxes.l.length
 . obtain⟨b,hb⟩:∃ b,c.boxes.l[i]? = some b:=⟨_,aC hil⟩
   have hbI:c.boxes.l[((i:Nat):Int).toNat]? = some b:=hb;have hbb:c.b.boxes[i]? = some b.b:=by simp[Config.b,hb]
   have hbx:=hc.box b (aU hb);have hbt:=ht.boxes b (aU hb);have hbi:=hbx.ins;have hbo:=hbx.outs;have UC:(b.ins.l.map aG).length=b.ins.l.length:=sI;have acH:(b.outs.l.map aG).length=b.outs.l.length:=sI;have hnm:(aV (lH b.name) [] (b.ins.l++b.outs.l)).1=0:=(I9 hn hbb).2.2;obtain⟨ps,hps⟩:∃ ps,ps=b.ins.l++b.outs.l:=⟨_,rfl⟩;have hpl:ps.length=b.ins.l.length+b.outs.l.length:=by rw[hps];simp
   rw[<- hps] at hnm;(try (conv=>whnf));repeat' (first|(refine⟨_,_,_,_,_,dH,fun _ _=>?_⟩;conv=>whnf)|refine OkM.seq ?_|((first|refine OkM.region tok ?_|refine OkM.cond ?_);conv=>whnf)|refine OkM.block ?_|((first|refine OkM.skip ?_|refine nI ?_|refine ix _ aS ?_);conv=>whnf)|(refine bI ?_ ?_<;>intro<;>first|omega|conv=>whnf)|fail)
   rename_i g hg;refine OkM.aT [1,5,6,11,12,13,26] [27] 0 2 (fun (y:Nat × List (Str × Int × Nat) × Nat)=>[.i .i64 (y.1:Nat)]) (fun _ b=>b) (fun _ r=>r) (fun (y:Nat × List (Str × Int × Nat) × Nat)=>[(g,bG D.s fI y.2.1 y.2.2)]) (fun (y:Nat × List (Str × Int × Nat) × Nat)=>y.1<=ps.length/\iF y.2.1 (ps.take y.1)) (fun (y:Nat × List (Str × Int × Nat) × Nat)=>ps.length - y.1) ((0,[],0)) (⟨Nat.zero_le _,iF.nil⟩) sT ?_;(conv=>whnf);refine⟨by ((conv=>whnf);first|rfl|(simp[ak, au, SI.row, Node.row, Pfx.row, Link.row, aG, Line.row, Rule.row, Box.row, Slc.row, Config.row];done)|(simp[ak, au, SI.row, Node.row, Pfx.row, Link.row, aG, Line.row, Rule.row, Box.row, Slc.row, Config.row];rw[IntKind.wrap_i64];omega)),?_⟩;rintro⟨j,l2,c2⟩ ⟨hj,hpm⟩;dsimp only at hj hpm ⊢;(conv=>whnf);by_cases hjl:j<ps.length
   . obtain⟨s,hs⟩:∃ s,ps[j]? = some s:=⟨_,aC hjl⟩
     have hsp:=RU b hbi hbo j s (by rw[<- hps];exact hs) _ rfl
     repeat' (first|(refine⟨_,_,_,_,_,_,_,0,_,_,dH,rfl,rfl,rfl,?_⟩;conv=>whnf)|refine OkM.seq ?_|((first|refine OkM.region tok ?_|refine OkM.dP (id:=8) tok follows [(2,4,[]),(1,6,[]),(2,6,[]),(4,6,[])] (.q 0 (.q 1 (.q 2 (.q 3 (.q 5 (.l 4 (.l 6 .nil))))))) kR ?_|refine OkM.cond ?_);conv=>whnf)|refine OkM.block ?_|((first|refine OkM.skip ?_|refine nI ?_);conv=>whnf)|(refine Or.inl ?_;(conv=>whnf);refine Or.inl ?_;(conv=>whnf);(repeat (refine aI ?_;conv=>whnf));refine⟨_,hsp,rfl,?_⟩;conv=>whnf)|(refine bI ?_ ?_<;>intro<;>first|omega|conv=>whnf)|fail)
     refine⟨(j+1,(aX l2 c2 s j).1,(aX l2 c2 s j).2),by dsimp only;omega,⟨by dsimp only;omega,hpm.put hs (Po hnm hs).2 c2 j rfl⟩,.refl _,?_⟩;(conv=>whnf);rfl
   . obtain rfl:j=ps.length:=oA
     rw[List.take_length,hps] at hpm;have hbs:=aaI hW hI c hc.fields hh b hbx hbt g l2 c2 hpm;(try (conv=>whnf));repeat' (first|(refine Or.inr (Or.inl ?_);(conv=>whnf);(repeat (refine aI ?_;conv=>whnf));refine⟨_,hbs,?_⟩;rintro _ _ _ ⟨⟨rfl,rfl⟩,rfl⟩<;>(conv=>whnf))|refine OkM.seq ?_|((first|refine OkM.region tok ?_|refine OkM.cond ?_|refine OkM.skip ?_|refine OkM.exit ?_|refine OkM.ret ?_|refine nI ?_);conv=>whnf)|(refine bI ?_ ?_<;>intro<;>first|omega|conv=>whnf)|fail)
     . rename_i he
       refine Or.inl ?_;(conv=>whnf);refine⟨?_,rfl⟩;rw[hfe,iW hbb he];rfl
     . rename_i he
       refine⟨i+1,oA,⟨oA,by rw[hfe,qN hbb (Classical.not_not.1 he)]⟩,List.nil_sublist _,?_⟩;(conv=>whnf);rfl
 . obtain rfl:i=c.boxes.l.length:=oA
   rw[lX (by simp[Config.b])] at hfe;(try (conv=>whnf));repeat' (first|refine OkM.seq ?_|((first|refine OkM.region tok ?_|refine OkM.cond ?_|refine OkM.exit ?_|refine OkM.ret ?_);conv=>whnf)|(refine bI ?_ ?_<;>intro<;>first|omega|conv=>whnf)|fail)
   all_goals first
    | omega
    | (refine Or.inl ?_;(conv=>whnf)
       exact⟨by rw[hfe];rfl,rfl⟩)
end Go.Proofs.YtnlingegeangmaaGreatDoor
namespace Go.Proofs.YtnlingegeangmaaGreatDoor
open Go Go.Vx
def uh(bs:List bf):List Str:=bs.flatMap fun b=>b.ins.map (dot b.name)
def lZ(bs:List bf):List Str:=bs.flatMap fun b=>b.outs.map (dot b.name)
def wY(n:Nat)(bs:List bf):List (Nat × Prop):=(bs.zipIdx n).flatMap fun x=>(x.1.ins.map fun _=>(x.2,True))++x.1.outs.map fun _=>(x.2,False)
theorem yw(n:Nat)(b:bf)(bs:List bf):wY n (b :: bs)=(b.ins.map fun _=>(n,True))++(b.outs.map fun _=>(n,False))++wY (n+1) bs:=by
 simp[wY,List.zipIdx_cons]
theorem sV(b:bf)(bs:List bf):aP (b :: bs)=b.ins.map (dot b.name)++b.outs.map (dot b.name)++aP bs:=by simp[aP,yR]
theorem QD{s:Str}:∀ {bs:List bf} {n k:Nat},(aP bs)[k]? = some s->∃ (i:Nat) (q:Prop) (b:bf),(wY n bs)[k]? = some (i,q)/\n<=i/\bs[i - n]? = some b/\((q ↔ True)/\s ∈ b.ins.map (dot b.name)\/(q ↔ False)/\s ∈ b.outs.map (dot b.name))
 | [],n,k,h=>by simp[aP] at h
 | b :: bs,n,k,h=>by
  rw[sV] at h;rw[yw];by_cases h1:k<b.ins.length
  . rw[List.append_assoc,List.getElem?_append_left (by simpa using h1)] at h
    refine⟨n,True,b,?_,Nat.le_refl _,sI,.inl ⟨Iff.rfl,aU h⟩⟩;rw[List.append_assoc,List.getElem?_append_left (by simpa using h1)];simp[aC h1]
  by_cases h2:k<b.ins.length+b.outs.length
  . rw[List.getElem?_append_left (by simpa using h2),List.getElem?_append_right sO] at h
    refine⟨n,False,b,?_,Nat.le_refl _,sI,.inr ⟨Iff.rfl,aU h⟩⟩;rw[List.getElem?_append_left (by simpa using h2),List.getElem?_append_right sO];simp only[bV] at h ⊢;have:k - b.ins.length<b.outs.length:=oA;simp[aC this]
  . rw[List.getElem?_append_right sO] at h
    obtain⟨i,q,b2,e1,e2,e3,e4⟩:=QD (n:=n+1) h;refine⟨i,q,b2,?_,oA,?_,e4⟩
    . rw[List.getElem?_append_right sO]
      simp only[List.length_append,bV] at e1 ⊢;exact e1
    . rw[show i - n=(i - (n+1))+1 by omega,List.getElem?_cons_succ]
      exact e3
theorem aaJ{bs:List bf}{s:Str}{k:Nat}(h:(aP bs)[k]? = some s):∃ (i:Nat) (q:Prop) (b:bf),(bY bs)[k]? = some (i,q)/\bs[i]? = some b/\((q ↔ True)/\s ∈ b.ins.map (dot b.name)\/(q ↔ False)/\s ∈ b.outs.map (dot b.name)):=by
 obtain⟨i,q,b,e1,_,e3,e4⟩:=QD (n:=0) h;exact⟨i,q,b,e1,by simpa using e3,e4⟩
theorem oq{bs:List bf}{s:Str}:s ∈ aP bs ↔ s ∈ uh bs\/s ∈ lZ bs:=by
 simp only[aP,uh,lZ,yR,List.mem_flatMap,List.map_append,bQ];constructor
 . rintro⟨b,hb,h|h⟩
   . exact .inl ⟨b,hb,h⟩
   . exact .inr ⟨b,hb,h⟩
 . rintro (⟨b,hb,h⟩|⟨b,hb,h⟩)
   . exact⟨b,hb,.inl h⟩
   . exact⟨b,hb,.inr h⟩
theorem RY{n n' p p':Str}(hn:46 ∉ n)(hn':46 ∉ n')(h:dot n p=dot n' p'):n=n'/\p=p':=by
 unfold dot at h;simp only[List.append_assoc,List.singleton_append] at h
 induction n generalizing n' with
 | nil=>
  cases n' with
  | nil=>simp at h;exact⟨rfl,h⟩
  | cons c l=>simp at h;exact absurd (by rw[h.1];simp) hn'
 | cons a n ih=>
  cases n' with
  | nil=>simp at h;exact absurd (by rw[h.1];simp) hn
  | cons c l=>
   simp only[List.cons_append,List.cons.injEq] at h;obtain⟨e1,e2⟩:=ih (fun g=>hn (by simp[g])) (fun g=>hn' (by simp[g])) h.2;exact⟨by rw[h.1,e1],e2⟩
theorem MF{α:Type}{l:List α}(h:∀ (i:Nat) x,l[i]? = some x->x ∉ l.take i):l.Nodup:=by
 rw[List.nodup_iff_pairwise_ne,List.pairwise_iff_getElem];intro i j hi hj hij e;refine h j l[j] (aC hj) ?_;rw[<- e];exact aU (i:=i) (by rw[List.getElem?_take_of_lt hij];exact aC hi)
theorem WL{s:Str}(h:iR s):(46:UInt8) ∉ s:=by
 intro hm;obtain⟨i,hi⟩:=List.getElem?_of_mem hm;have:=h.1.2.2 i 46 hi;unfold nameAt Ltr Dgt at this;simp at this
theorem Md:∀ {bs:List bf},(∀ b ∈ bs,(46:UInt8) ∉ b.name/\(b.ins++b.outs).Nodup)->(bs.map bf.name).Nodup->(aP bs).Nodup
 | [],_,_=>List.nodup_nil
 | b :: bs,h,hn=>by
  obtain⟨n1,n2⟩:=List.nodup_cons.1 (by simpa using hn:(b.name :: bs.map bf.name).Nodup);have ih:=Md (fun x hx=>h x (by simp[hx])) n2;obtain⟨hb1,hb2⟩:=h b sI;have hmap:((b.ins++b.outs).map (dot b.name)).Nodup:=by
   refine List.Pairwise.map _ ?_ hb2;intro x y hne e;exact hne (RY hb1 hb1 e).2
  rw[sV,<- List.map_append];refine List.nodup_append.2 ⟨hmap,ih,fun x hx y hy e=>?_⟩;subst e;obtain⟨p,hp,rfl⟩:=List.mem_map.1 hx;simp only[aP,yR,List.mem_flatMap,List.mem_map] at hy;obtain⟨b2,hb2',p2,_,e⟩:=hy;have:=(RY (h b2 (by simp[hb2'])).1 hb1 e).1;exact n1 (List.mem_map.2 ⟨b2,hb2',this⟩)
theorem zJ{c:bC}(h:(lJ c).1=0):(aP c.boxes).Nodup:=by
 refine Md (fun b hb=>?_) (MF fun i x hx=>?_)
 . obtain⟨i,hi⟩:=List.getElem?_of_mem hb
   obtain⟨h1,_,h3⟩:=I9 h hi;exact⟨WL h1,MF fun j s hs=>(Po h3 hs).2⟩
 . simp only[aN,Option.map_eq_some_iff] at hx
   obtain⟨b,hb,rfl⟩:=hx;rw[<- List.map_take];exact (I9 h hb).2.1
theorem DJ{l:List Str}(h:l.Nodup){i j:Nat}{s:Str}(hi:l[i]? = some s)(hj:l[j]? = some s):i=j:=
 (List.getElem?_inj (aK.1 hi).1 h).1 (hi.trans hj.symm)
theorem Pq{s:Str}:∀ {bs:List bf} {n:Nat},s ∈ uh bs->∃ k i:Nat,(aP bs)[k]? = some s/\(wY n bs)[k]? = some (i,True)
 | [],n,h=>by simp[uh] at h
 | b :: bs,n,h=>by
  simp only[uh,List.flatMap_cons,bQ] at h;rcases h with h|h
  . obtain⟨k,hk⟩:=List.getElem?_of_mem h
    have hkl:=(aK.1 hk).1;simp only[bV] at hkl;refine⟨k,n,?_,?_⟩
    . rw[sV,List.append_assoc,List.getElem?_append_left (by simpa using hkl)];exact hk
    . rw[yw,List.append_assoc,List.getElem?_append_left (by simpa using hkl)];simp[aC hkl]
  . obtain⟨k,i,h1,h2⟩:=Pq (bs:=bs) (n:=n+1) h
    refine⟨b.ins.length+b.outs.length+k,i,?_,?_⟩
    . rw[sV,List.getElem?_append_right sI,<- h1]
      congr 1;simp
    . rw[yw,List.getElem?_append_right sI,<- h2]
      congr 1;simp
theorem Om{s:Str}:∀ {bs:List bf} {n:Nat},s ∈ lZ bs->∃ k i:Nat,(aP bs)[k]? = some s/\(wY n bs)[k]? = some (i,False)
 | [],n,h=>by simp[lZ] at h
 | b :: bs,n,h=>by
  simp only[lZ,List.flatMap_cons,bQ] at h;rcases h with h|h
  . obtain⟨k,hk⟩:=List.getElem?_of_mem h
    have hkl:=(aK.1 hk).1;simp only[bV] at hkl;refine⟨b.ins.length+k,n,?_,?_⟩
    . rw[sV,List.getElem?_append_left sO,List.getElem?_append_right sI]
      simpa using hk
    . rw[yw,List.getElem?_append_left sO,List.getElem?_append_right sI]
      simp[aC hkl]
  . obtain⟨k,i,h1,h2⟩:=Om (bs:=bs) (n:=n+1) h
    refine⟨b.ins.length+b.outs.length+k,i,?_,?_⟩
    . rw[sV,List.getElem?_append_right sI,<- h1]
      congr 1;simp
    . rw[yw,List.getElem?_append_right sI,<- h2]
      congr 1;simp
theorem WM{bs:List bf}(hnd:(aP bs).Nodup){s:Str}(hs:s ∈ aP bs):∃ (i:Nat) (q:Prop),(bY bs)[(plc (aP bs) s).toNat]? = some (i,q)/\(q ↔ s ∈ uh bs)/\(¬ q ↔ s ∈ lZ bs):=by
 obtain⟨h0,hk⟩:=rD hs;obtain⟨i,q,b,e1,e2,e3⟩:=aaJ hk;have hin:s ∈ uh bs->(q ↔ True):=fun h=>by
  obtain⟨k,j,h1,h2⟩:=Pq (n:=0) h;have:=DJ hnd h1 hk;subst this;have h3:(bY bs)[(plc (aP bs) s).toNat]? = some (j,True):=h2;rw[e1] at h3;cases h3;exact Iff.rfl
 have hout:s ∈ lZ bs->(q ↔ False):=fun h=>by
  obtain⟨k,j,h1,h2⟩:=Om (n:=0) h;have:=DJ hnd h1 hk;subst this;have h3:(bY bs)[(plc (aP bs) s).toNat]? = some (j,False):=h2;rw[e1] at h3;cases h3;exact Iff.rfl
 refine⟨i,q,e1,⟨fun hq=>?_,fun h=>(hin h).2 trivial⟩,⟨fun hq=>?_,fun h hq=>(hout h).1 hq⟩⟩
 . rcases oq.1 hs with h|h
   . exact h
   . exact ((hout h).1 hq).elim
 . rcases oq.1 hs with h|h
   . exact absurd ((hin h).2 trivial) hq
   . exact h
end Go.Proofs.YtnlingegeangmaaGreatDoor
namespace Go.Proofs.YtnlingegeangmaaGreatDoor
open Go Go.Vx
theorem zO(bs:List bf):(aP bs).length=rC bs:=by
 induction bs with
 | nil=>rfl
 | cons b bs ih=>
  rw[sV];simp only[List.length_append,bV,ih,rC,List.map_cons,List.sum_cons]
theorem qQ{c:bC}(h:(jL c).1=0):c.boxes.length<=16/\rC c.boxes<=48/\c.links.length<=48/\c.slices.length<=8:=by
 rw[XO] at h;split at h
 . cases h
 split at h
 . cases h
 split at h
 . cases h
 split at h
 . cases h
 split at h
 . cases h
 split at h
 . cases h
 split at h
 . cases h
 omega
theorem Ai{c:Config}(ht:c.Tx):∀ b ∈ c.boxes.l,b.name.length<=1048576/\(∀ s ∈ b.ins.l,s.length<=1048576)/\∀ s ∈ b.outs.l,s.length<=1048576:=fun b hb=>
 ⟨(ht.boxes b hb).name,(ht.boxes b hb).ins,(ht.boxes b hb).outs⟩
structure qm(c:bC)(lst:List (Str × Int × Nat)):Prop where
 nd:(aP c.boxes).Nodup
 map:jX lst (aP c.boxes)
 keys:jR lst
theorem qm.some{c:bC}{lst:List (Str × Int × Nat)}(h:qm c lst){s:Str}(hs:s ∈ aP c.boxes):∃ (i:Nat) (q:Prop),lk lst s=Option.some (plc (aP c.boxes) s)/\((bY c.boxes).map bP)[((lk lst s).getD 0).toNat]? = Option.some (bP (i,q))/\0<=(lk lst s).getD 0/\(lk lst s).getD 0<((bY c.boxes).length:Nat)/\(q ↔ s ∈ uh c.boxes)/\(¬ q ↔ s ∈ lZ c.boxes):=by
 obtain⟨i,q,h1,h2,h3⟩:=WM h.nd hs;have hl:=(h.map s).2 hs;have h0:=rD hs;have h4:=A8 (aP c.boxes) s;refine⟨i,q,hl,?_,?_,?_,h2,h3⟩
 . rw[hl]
   simp only[Option.getD_some,aN,h1];rfl
 . rw[hl];exact h0.1
 . rw[hl,Qx];exact h4
theorem qm.three{c:bC}{lst:List (Str × Int × Nat)}(h:qm c lst)(s:Str) :
    (s ∉ dQ c/\s ∉ dU c/\¬ (lk lst s).isSome=true) \/
    (s ∈ dQ c/\s ∉ dU c/\(lk lst s).isSome=true/\0<=(lk lst s).getD 0/\(lk lst s).getD 0<((bY c.boxes).length:Nat)/\∃ i:Nat,((bY c.boxes).map bP)[((lk lst s).getD 0).toNat]? = Option.some (bP (i,True))) \/
    (s ∉ dQ c/\s ∈ dU c/\(lk lst s).isSome=true/\0<=(lk lst s).getD 0/\(lk lst s).getD 0<((bY c.boxes).length:Nat)/\∃ i:Nat,((bY c.boxes).map bP)[((lk lst s).getD 0).toNat]? = Option.some (bP (i,False))):=by
 by_cases hs:s ∈ aP c.boxes
 . obtain⟨i,q,h1,h2,h3,h4,h5,h6⟩:=h.some hs
   right;have h7:(lk lst s).isSome=true:=by rw[h1];rfl
   by_cases hq:q
   . obtain rfl:q=True:=propext ⟨fun _=>trivial,fun _=>hq⟩
     exact Or.inl ⟨h5.1 trivial,fun g=>h6.2 g trivial,h7,h3,h4,i,h2⟩
   . obtain rfl:q=False:=propext ⟨fun g=>hq g,fun g=>g.elim⟩
     exact Or.inr ⟨fun g=>h5.2 g,h6.1 hq,h7,h3,h4,i,h2⟩
 . refine Or.inl ⟨fun g=>hs (oq.2 (Or.inl g)),fun g=>hs (oq.2 (Or.inr g)),?_⟩
   rw[(h.map s).1 hs];simp
theorem qm.vN{c:bC}{lst:List (Str × Int × Nat)}(h:qm c lst)(s:Str):(lk lst s).isSome=true ↔ s ∈ aP c.boxes:=by
 constructor
 . intro g
   refine Classical.byContradiction fun hn=>?_
   rw[(h.map s).1 hn] at g;cases g
 . intro g
   rw[(h.map s).2 g];rfl
theorem born_inj{κ α:Type}{l:List (κ × α × Nat)}:(l.map fun e=>e.2.2).Nodup->∀ {x y:κ × α × Nat},x ∈ l->y ∈ l->x.2.2=y.2.2->x=y:=by
 induction l with
 | nil=>intro _ x y hx;cases hx
 | cons z l ih=>
  intro h x y hx hy he;rw[List.map_cons,List.nodup_cons] at h;rcases List.mem_cons.1 hx with rfl|hx'<;>rcases List.mem_cons.1 hy with rfl|hy'
  . rfl
  . exact absurd (List.mem_map.2 ⟨y,hy',he.symm⟩) h.1
  . exact absurd (List.mem_map.2 ⟨x,hx',he⟩) h.1
  . exact ih h.2 hx' hy' he
theorem DK{κ α:Type}{l:List (κ × α × Nat)}{seen:List Nat}{e:κ × α × Nat}(he:e ∈ l)(hn:e.2.2 ∉ seen):(l.filter fun x=>decide (x.2.2 ∉ seen++[e.2.2])).length<(l.filter fun x=>decide (x.2.2 ∉ seen)).length:=by
 induction l with
 | nil=>cases he
 | cons y l ih=>
  have hsub:(l.filter fun x=>decide (x.2.2 ∉ seen++[e.2.2])).length<=(l.filter fun x=>decide (x.2.2 ∉ seen)).length:=by
   rw[<- List.countP_eq_length_filter,<- List.countP_eq_length_filter];exact List.countP_mono_left fun x _ h=>by simp only[decide_eq_true_eq,bQ,not_or] at h ⊢;exact h.1
  rcases List.mem_cons.1 he with rfl|he
  . rw[List.filter_cons_of_neg sI,List.filter_cons_of_pos (by simpa using hn)]
    simp only[List.length_cons];omega
  . have:=ih he
    by_cases hy:y.2.2 ∈ seen
    . rw[List.filter_cons_of_neg (by simp[hy]),List.filter_cons_of_neg (by simp[hy])]
      exact this
    . have h1:(List.filter (fun x=>decide (x.2.2 ∉ seen)) (y :: l)).length=(List.filter (fun x=>decide (x.2.2 ∉ seen)) l).length+1:=by
        rw[List.filter_cons_of_pos (by simpa using hy)];rfl
      rw[h1];have h2:(List.filter (fun x=>decide (x.2.2 ∉ seen++[e.2.2])) (y :: l)).length<=(List.filter (fun x=>decide (x.2.2 ∉ seen++[e.2.2])) l).length+1:=by
       rw[List.filter_cons];split<;>simp
      omega
section
variable {c : bC} {pre : List Link} {x : Link}
theorem zU(h:dG [x.frm] (dU c) (dQ c) ≠ 0):jl c pre x=(dG [x.frm] (dU c) (dQ c),x.frm):=if_pos h
theorem Ja(h:¬ dG [x.frm] (dU c) (dQ c) ≠ 0)(h2:dG [x.dst] (dQ c) (dU c) ≠ 0):jl c pre x=(dG [x.dst] (dQ c) (dU c),x.dst):=by unfold jl;rw[if_neg h,if_pos h2]
theorem Oo(h:¬ dG [x.frm] (dU c) (dQ c) ≠ 0)(h2:¬ dG [x.dst] (dQ c) (dU c) ≠ 0)(h3:x.cost<1\/9999<x.cost):jl c pre x=(71,x.frm):=by unfold jl;rw[if_neg h,if_neg h2,if_pos h3]
theorem Pv(h:¬ dG [x.frm] (dU c) (dQ c) ≠ 0)(h2:¬ dG [x.dst] (dQ c) (dU c) ≠ 0)(h3:¬ (x.cost<1\/9999<x.cost))(h4:∃ y ∈ pre,y.frm=x.frm):jl c pre x=(75,x.frm):=by unfold jl;rw[if_neg h,if_neg h2,if_neg h3,if_pos h4]
theorem Zc(h:¬ dG [x.frm] (dU c) (dQ c) ≠ 0)(h2:¬ dG [x.dst] (dQ c) (dU c) ≠ 0)(h3:¬ (x.cost<1\/9999<x.cost))(h4:¬ ∃ y ∈ pre,y.frm=x.frm):jl c pre x=(0,[]):=by unfold jl;rw[if_neg h,if_neg h2,if_neg h3,if_neg h4]
end
theorem XY(c:Config)(hc:c.Ok)(ht:c.Tx)(hn:(lJ c.b).1=0)(hcn:(jL c.b).1=0) :
    dL Tryz.prog T [] 82 [.agg c.row] (fun d rows M=>(d = .tup [.i .i64 (lK c.b).1,.s (lK c.b).2]/\rows=[])/\M=[]):=by
 have hll:(c.links.l.map Link.row).length=c.links.l.length:=sI;have hL:=hc.links;have hpn:(aP c.b.boxes).length<=1000:=by rw[zO];have:=(qQ hcn).2.1;omega
 have hnum:=Dj c hc (Ai ht) hpn;have hpr:((bY c.b.boxes).map bP).length=(bY c.b.boxes).length:=sI;refine dL.oI tok Tryz.func82 rfl Tryz.call82 sI ?_;(try (conv=>whnf));repeat' (first|((first|refine⟨_,_,_,_,_,dH,fun _ _=>?_⟩|refine⟨_,_,_,_,_,_,_,dH,mG,fun _ _=>?_⟩);conv=>whnf)|(refine Or.inr (Or.inl ?_);(conv=>whnf);(repeat (refine aI ?_;conv=>whnf));refine⟨_,hnum , ?_⟩;rintro _ _ _ ⟨gn,lst,cn,rfl,rfl,rfl,hnm,hwf,hky⟩<;>(conv=>whnf))|refine OkM.seq ?_|(refine OkM.region tok ?_;conv=>whnf)|refine OkM.block ?_|fail)
 rename_i gf hgf gi hgi;have hN:qm c.b lst:=⟨zJ hn,hnm,hky⟩;refine OkM.aT [1,4,5,6,23] [] 1 3 (fun (x:List (Str × Int × Nat) × Nat × List Nat)=>[]) (fun _ b=>b) (fun _ r=>r) (fun (x:List (Str × Int × Nat) × Nat × List Nat)=>[(gi,oN gn cn x.2.2),(gf,bG D.s fI x.1 x.2.1),(gn,bG D.s fI lst cn)]) (fun (x:List (Str × Int × Nat) × Nat × List Nat)=>jR x.1/\∀ s,(lk x.1 s).isSome=true ↔ ∃ e ∈ lst,e.2.2 ∈ x.2.2/\e.1=s/\s ∈ lZ c.b.boxes) (fun (x:List (Str × Int × Nat) × Nat × List Nat)=>(lst.filter fun e=>decide (e.2.2 ∉ x.2.2)).length) (([],0,[])) (⟨List.nodup_nil,fun s=>by simp[Fj]⟩) sT ?_;(conv=>whnf);refine⟨by ((conv=>whnf);first|rfl|(simp[ak, au, SI.row, Node.row, Pfx.row, Link.row, aG, Line.row, Rule.row, Box.row, Slc.row, Config.row, bP];done)|(simp[ak, au, SI.row, Node.row, Pfx.row, Link.row, aG, Line.row, Rule.row, Box.row, Slc.row, Config.row, bP];rw[IntKind.wrap_i64];omega)),?_⟩;rintro⟨lf,cf,seen⟩ ⟨hkf,hfr⟩;dsimp only at hkf hfr ⊢;(conv=>whnf);refine OkM.seq ?_;refine OkM.region tok ?_;(conv=>whnf);refine⟨_,_,inferInstance,_,_,_,_,0,_,_,fun _=>rfl,fun _=>rfl,hwf,rfl,.tail _ (.tail _ (.head _)),?_,?_⟩;rotate_left
 . intro e he hns
   have hle:=FX hky he;have heF:e.1 ∈ aP c.b.boxes:=(hN.vN e.1).1 (by rw[hle];rfl);obtain⟨bi,q,h1,h2,h3,h4,h5,h6⟩:=hN.some heF;rw[hle] at h2 h3 h4;simp only[Option.getD_some] at h2 h3 h4;(conv=>whnf)
   repeat' (first|((first|refine⟨_,_,inferInstance,_,_,_,_,0,_,_,e,fun _=>rfl,fun _=>rfl,hwf,rfl,.tail _ (.tail _ (.head _)),he,?_⟩|refine⟨_,_,_,_,_,_,_,1,_,_,dH,rfl,rfl,rfl,?_⟩);conv=>whnf)|refine OkM.seq ?_|((first|refine OkM.region tok ?_|refine OkM.cond ?_);conv=>whnf)|refine OkM.block ?_|((first|refine OkM.skip ?_|refine⟨_,aS,?_⟩);conv=>whnf)|(refine bI ?_ ?_<;>intro<;>first|omega|conv=>whnf)|(refine aJ ?_;conv=>whnf)|fail)
   . refine⟨((aX lf cf e.1 e.2.1).1,(aX lf cf e.1 e.2.1).2,seen++[e.2.2]),DK he hns,⟨zS hkf _ _,fun s=>?_⟩,List.Sublist.refl _,?_⟩
     . dsimp only
       have hq:e.1 ∈ lZ c.b.boxes:=h6.1 aS;rw[ug];by_cases hs:s=e.1
       . rw[if_pos hs]
         exact⟨fun _=>⟨e,he,sI,hs.symm,by rw[hs];exact hq⟩,fun _=>rfl⟩
       . rw[if_neg hs,hfr s]
         constructor
         . rintro⟨e',a1,a2,a3,a4⟩
           exact⟨e',a1,List.mem_append_left _ a2,a3,a4⟩
         . rintro⟨e',a1,a2,a3,a4⟩
           rcases bQ.1 a2 with a2|a2
           . exact⟨e',a1,a2,a3,a4⟩
           . exact absurd (by rw[<- a3,born_inj hwf.1 a1 he (List.mem_singleton.1 a2)]) hs
     . (conv=>whnf);(first|rfl|simp[ak, au, SI.row, Node.row, Pfx.row, Link.row, aG, Line.row, Rule.row, Box.row, Slc.row, Config.row, bP])
   . refine⟨(lf,cf,seen++[e.2.2]),DK he hns,⟨hkf,fun s=>?_⟩,List.Sublist.refl _,?_⟩
     . dsimp only
       have hq:¬ e.1 ∈ lZ c.b.boxes:=fun g=>(by assumption:¬ ¬ (bi,q).2) (h6.2 g)
       rw[hfr s];constructor
       . rintro⟨e',a1,a2,a3,a4⟩
         exact⟨e',a1,List.mem_append_left _ a2,a3,a4⟩
       . rintro⟨e',a1,a2,a3,a4⟩
         rcases bQ.1 a2 with a2|a2
         . exact⟨e',a1,a2,a3,a4⟩
         . exact absurd (by rw[<- a3,born_inj hwf.1 a1 he (List.mem_singleton.1 a2)] at a4;exact a4) hq
     . (conv=>whnf);(first|rfl|simp[ak, au, SI.row, Node.row, Pfx.row, Link.row, aG, Line.row, Rule.row, Box.row, Slc.row, Config.row, bP])
 . intro hall
   have hfree:∀ s,(lk lf s).isSome=true ↔ s ∈ lZ c.b.boxes/\∀ y ∈ c.links.l.take 0,y.frm ≠ s:=by
    intro s;rw[hfr s];constructor
    . rintro⟨e,_,_,_,h⟩
      exact⟨h,fun y hy=>by simp at hy⟩
    . rintro⟨h,_⟩
      have hs:s ∈ aP c.b.boxes:=oq.2 (Or.inr h);have:=(hN.vN s).2 hs;obtain⟨a,ha⟩:=Option.isSome_iff_exists.1 this;obtain⟨n,hm⟩:=JO ha;exact⟨_,hm,hall _ hm,rfl,h⟩
   clear hfr;(try (conv=>whnf));repeat' (first|refine OkM.seq ?_|((first|refine OkM.region tok ?_|refine OkM.cond ?_|refine OkM.exit ?_);conv=>whnf)|fail)
   refine Or.inr ?_;(conv=>whnf)
   repeat' (first|refine OkM.seq ?_|(refine OkM.region tok ?_;conv=>whnf)|refine OkM.block ?_|fail)
   refine OkM.aT [6,9,40,41] [42] 1 3 (fun (x:Nat × List (Str × Int × Nat) × Nat)=>[.i .i64 x.1]) (fun _ b=>b) (fun _ r=>r) (fun (x:Nat × List (Str × Int × Nat) × Nat)=>[(gf,bG D.s fI x.2.1 x.2.2),(gn,bG D.s fI lst cn)]) (fun (x:Nat × List (Str × Int × Nat) × Nat)=>x.1<=c.links.l.length/\lK c.b=aV (jl c.b) (c.links.l.take x.1) (c.links.l.drop x.1)/\jR x.2.1/\∀ s,(lk x.2.1 s).isSome=true ↔ s ∈ lZ c.b.boxes/\∀ y ∈ c.links.l.take x.1,y.frm ≠ s) (fun (x:Nat × List (Str × Int × Nat) × Nat)=>c.links.l.length - x.1) ((0,lf,cf)) (⟨Nat.zero_le _,rfl,hkf,hfree⟩) sT ?_;(conv=>whnf);refine⟨by ((conv=>whnf);first|rfl|(simp[ak, au, SI.row, Node.row, Pfx.row, Link.row, aG, Line.row, Rule.row, Box.row, Slc.row, Config.row, bP];done)|(simp[ak, au, SI.row, Node.row, Pfx.row, Link.row, aG, Line.row, Rule.row, Box.row, Slc.row, Config.row, bP];rw[IntKind.wrap_i64];omega)),?_⟩;rintro⟨k,lf,cf⟩ ⟨hk,hO,hkf,hfr⟩;dsimp only at hk hO hkf hfr ⊢;by_cases hlt:k<c.links.l.length
   . obtain⟨x,hx⟩:∃ x,c.links.l[k]? = some x:=⟨_,aC hlt⟩
     have hxr:(c.links.l.map Link.row)[k]? = some x.row:=by rw[aN,hx];rfl
     (conv=>whnf)
     repeat' (first|refine OkM.seq ?_|((first|refine OkM.region tok ?_|refine OkM.cond ?_);conv=>whnf)|refine OkM.block ?_|((first|refine OkM.skip ?_|refine ix _ aS ?_);conv=>whnf)|(refine bI ?_ ?_<;>intro<;>first|omega|conv=>whnf)|fail)
     have hdr:lK c.b=if (jl c.b (c.links.l.take k) x).1 ≠ 0 then jl c.b (c.links.l.take k) x else aV (jl c.b) (c.links.l.take (k+1)) (c.links.l.drop (k+1)):=by rw[hO,zF hx]
     rcases hN.three x.frm with⟨a1,a2,a3⟩|⟨a1,a2,a3,a4,a5,ai,a6⟩|⟨a1,a2,a3,a4,a5,ai,a6⟩
     . have hE:jl c.b (c.links.l.take k) x=(73,x.frm):=by
         have h1:dG [x.frm] (dU c.b) (dQ c.b)=73:=by rw[o8,qO a2 a1]
         rw[zU (by rw[h1];decide),h1]
       refine Or.inr ?_;(conv=>whnf);refine⟨_,_,Tryz.func125,rfl,Tryz.call125,?_⟩;(conv=>whnf);(try (conv=>whnf));repeat' (first|(exact absurd a3 aS)|(refine⟨_,_,_,_,_,_,_,_,dH,mH,rfl,?_⟩;conv=>whnf)|refine OkM.seq ?_|((first|refine OkM.region tok ?_|refine OkM.aB (Ok.bH tok follows kR ?_)|refine OkM.cond ?_|refine OkM.ret ?_);conv=>whnf)|(refine bI ?_ ?_<;>intro<;>first|omega|conv=>whnf)|fail)
       all_goals first
        | exact absurd a3 aS
        | (refine Or.inl ?_;(conv=>whnf)
           exact⟨by rw[hdr,hE];rfl,rfl⟩)
     . have hE:jl c.b (c.links.l.take k) x=(74,x.frm):=by
         have h1:dG [x.frm] (dU c.b) (dQ c.b)=74:=by rw[o8,vC a2 a1]
         rw[zU (by rw[h1];decide),h1]
       have a7:¬ ((ai,True).2 ↔ False):=fun h=>h.1 trivial
       refine Or.inr ?_;(conv=>whnf);refine⟨_,_,Tryz.func125,rfl,Tryz.call125,?_⟩;(conv=>whnf);(try (conv=>whnf));repeat' (first|(exact absurd a3 aS)|(exact absurd a7 aS)|(refine⟨_,_,_,_,_,_,_,_,dH,mH,rfl,?_⟩;conv=>whnf)|refine OkM.seq ?_|((first|refine OkM.region tok ?_|refine OkM.aB (Ok.bH tok follows kR ?_)|refine OkM.cond ?_|refine OkM.skip ?_|refine OkM.ret ?_|refine⟨_,aS,?_⟩);conv=>whnf)|(refine bI ?_ ?_<;>intro<;>first|omega|conv=>whnf)|(refine aJ ?_;conv=>whnf)|fail)
       all_goals first
        | (refine Or.inl ?_;(conv=>whnf)
           exact⟨by rw[hdr,hE];rfl,rfl⟩)
     . have h1:¬ dG [x.frm] (dU c.b) (dQ c.b) ≠ 0:=by rw[o8,Ah a2 sI];simp
       have a7:(ai,False).2 ↔ False:=Iff.rfl;have hE3:=Ja (pre:=c.links.l.take k) h1;refine Or.inr ?_;(conv=>whnf);refine⟨_,_,Tryz.func125,rfl,Tryz.call125,?_⟩;(conv=>whnf);(try (conv=>whnf));repeat' (first|(exact absurd a3 aS)|(exact absurd a7 aS)|(refine⟨_,_,_,_,_,_,_,_,dH,mH,rfl,?_⟩;conv=>whnf)|refine OkM.seq ?_|((first|refine OkM.region tok ?_|refine OkM.cond ?_|refine OkM.skip ?_|refine OkM.ret ?_|refine⟨_,aS,?_⟩);conv=>whnf)|(refine bI ?_ ?_<;>intro<;>first|omega|conv=>whnf)|(refine aJ ?_;conv=>whnf)|fail)
       rcases hN.three x.dst with⟨b1,b2,b3⟩|⟨b1,b2,b3,b4,b5,bi,b6⟩|⟨b1,b2,b3,b4,b5,bi,b6⟩
       . have hE:jl c.b (c.links.l.take k) x=(73,x.dst):=by
           have h1:dG [x.dst] (dQ c.b) (dU c.b)=73:=by rw[o8,qO b1 b2]
           rw[hE3 (by rw[h1];decide),h1]
         refine Or.inr ?_;(conv=>whnf);refine⟨_,_,Tryz.func125,rfl,Tryz.call125,?_⟩;(conv=>whnf);(try (conv=>whnf));repeat' (first|(exact absurd b3 aS)|(refine⟨_,_,_,_,_,_,_,_,dH,mH,rfl,?_⟩;conv=>whnf)|refine OkM.seq ?_|((first|refine OkM.region tok ?_|refine OkM.aB (Ok.bH tok follows kR ?_)|refine OkM.cond ?_|refine OkM.ret ?_);conv=>whnf)|(refine bI ?_ ?_<;>intro<;>first|omega|conv=>whnf)|fail)
         all_goals first
          | (refine Or.inl ?_;(conv=>whnf)
             exact⟨by rw[hdr,hE];rfl,rfl⟩)
       . have h2:¬ dG [x.dst] (dQ c.b) (dU c.b) ≠ 0:=by rw[o8,Ah b1 sI];simp
         have b7:(bi,True).2 ↔ True:=Iff.rfl;refine Or.inr ?_;(conv=>whnf);refine⟨_,_,Tryz.func125,rfl,Tryz.call125,?_⟩;(conv=>whnf);(try (conv=>whnf));repeat' (first|(exact absurd b3 aS)|(exact absurd b7 aS)|((first|refine⟨_,_,_,_,_,_,_,_,dH,mH,rfl,?_⟩|refine⟨_,_,_,_,_,_,_,0,_,dH,rfl,rfl,?_⟩);conv=>whnf)|refine OkM.seq ?_|((first|refine OkM.region tok ?_|refine OkM.aB (Ok.bH tok follows kR ?_)|refine OkM.cond ?_|refine OkM.skip ?_|refine OkM.ret ?_|refine nI ?_|refine⟨_,aS,?_⟩);conv=>whnf)|(refine bI ?_ ?_<;>intro<;>first|omega|conv=>whnf)|(refine aJ ?_;conv=>whnf)|fail)
         all_goals first
          | (have hE:=Oo (c:=c.b) (pre:=c.links.l.take k) (x:=x) h1 h2 oA
             refine Or.inl ?_;(conv=>whnf);exact⟨by rw[hdr,hE];rfl,rfl⟩)
          | (have hE:=Pv (c:=c.b) (pre:=c.links.l.take k) (x:=x) h1 h2 oA (by
               refine Classical.byContradiction fun hn=>(by assumption:¬ (lk lf x.frm).isSome=true) ((hfr x.frm).2 ⟨a2,fun y hy he=>hn ⟨y,hy,he⟩⟩))
             refine Or.inl ?_;(conv=>whnf);exact⟨by rw[hdr,hE];rfl,rfl⟩)
          | skip
         rename_i hc1 hc2 hfs;have hfr0:=(hfr x.frm).1 (Classical.not_not.1 hfs);have hE:=Zc (c:=c.b) (pre:=c.links.l.take k) (x:=x) h1 h2 oA (fun⟨y,hy,he⟩=>hfr0.2 y hy he);refine⟨(k+1,lT lf x.frm,cf),by dsimp only;omega,⟨by dsimp only;omega,by rw[hdr,hE];rfl,XI hkf _,fun s=>?_⟩,List.Sublist.refl _,?_⟩
         . dsimp only
           rw[aaF hkf,List.take_add_one,hx];by_cases hs:s=x.frm
           . rw[if_pos hs]
             exact⟨fun h=>by simp at h,fun h=>absurd hs.symm (h.2 x sI)⟩
           . rw[if_neg hs,hfr s]
             constructor
             . rintro⟨g1,g2⟩
               refine⟨g1,fun y hy=>?_⟩;rcases bQ.1 hy with hy|hy
               . exact g2 y hy
               . simp at hy
                 rw[hy];exact fun h=>hs h.symm
             . rintro⟨g1,g2⟩
               exact⟨g1,fun y hy=>g2 y (List.mem_append_left _ hy)⟩
         . (conv=>whnf)
           rfl
       . have hE:jl c.b (c.links.l.take k) x=(74,x.dst):=by
           have h1:dG [x.dst] (dQ c.b) (dU c.b)=74:=by rw[o8,vC b1 b2]
           rw[hE3 (by rw[h1];decide),h1]
         have b7:¬ ((bi,False).2 ↔ True):=fun h=>h.2 trivial
         refine Or.inr ?_;(conv=>whnf);refine⟨_,_,Tryz.func125,rfl,Tryz.call125,?_⟩;(conv=>whnf);(try (conv=>whnf));repeat' (first|(exact absurd b3 aS)|(exact absurd b7 aS)|(refine⟨_,_,_,_,_,_,_,_,dH,mH,rfl,?_⟩;conv=>whnf)|refine OkM.seq ?_|((first|refine OkM.region tok ?_|refine OkM.aB (Ok.bH tok follows kR ?_)|refine OkM.cond ?_|refine OkM.skip ?_|refine OkM.ret ?_|refine⟨_,aS,?_⟩);conv=>whnf)|(refine bI ?_ ?_<;>intro<;>first|omega|conv=>whnf)|(refine aJ ?_;conv=>whnf)|fail)
         all_goals first
          | (refine Or.inl ?_;(conv=>whnf)
             exact⟨by rw[hdr,hE];rfl,rfl⟩)
   . obtain rfl:k=c.links.l.length:=oA
     rw[lX sI] at hO;(conv=>whnf)
     repeat' (first|refine OkM.seq ?_|((first|refine OkM.region tok ?_|refine OkM.cond ?_|refine OkM.exit ?_|refine OkM.ret ?_);conv=>whnf)|(refine bI ?_ ?_<;>intro<;>first|omega|conv=>whnf)|fail)
     all_goals first
      | omega
      | (refine Or.inl ?_;(conv=>whnf)
         exact⟨by rw[hO];rfl,rfl⟩)
end Go.Proofs.YtnlingegeangmaaGreatDoor
namespace Go.Proofs.YtnlingegeangmaaGreatDoor
open Go Go.Vx
section
variable {c : bC} {pre : List Str} {p : Str}
theorem Oq(h:p ∉ dQ c/\p ∉ dU c):kG c pre p=(73,p):=if_pos h
theorem Ot(h:¬ (p ∉ dQ c/\p ∉ dU c))(h2:p ∈ pre):kG c pre p=(72,p):=by unfold kG;rw[if_neg h,if_pos h2]
theorem XZ(h:¬ (p ∉ dQ c/\p ∉ dU c))(h2:p ∉ pre):kG c pre p=(0,[]):=by unfold kG;rw[if_neg h,if_neg h2]
variable {pr : List qx} {s : qx}
theorem Ou(h:¬ iR s.name):wI c pr s=(36,s.name):=if_pos h
theorem Ov(h:iR s.name)(h2:s.name ∈ pr.map qx.name):wI c pr s=(72,s.name):=by
 unfold wI;rw[if_neg fun g=>g h,if_pos (by obtain⟨x,hx,e⟩:=List.mem_map.1 h2;exact⟨x,hx,e⟩)]
theorem X0(h:iR s.name)(h2:s.name ∉ pr.map qx.name):wI c pr s=orE (aV (kG c) [] s.eX) (if dZ (fds c.fields) (nds s.whr) ≠ 0 then (77,s.name) else (0,[])):=by
 unfold wI;rw[if_neg fun g=>g h,if_neg (by rintro⟨x,hx,e⟩;exact h2 (List.mem_map.2 ⟨x,hx,e⟩))]
end
theorem WO(hN:∀ s,aF Tryz.prog T 121 [.s s] (fun d _=>d = .b (iR s)))(c:Config)(hc:c.Ok)(ht:c.Tx)(hn:(lJ c.b).1=0)(hcn:(jL c.b).1=0) :
    dL Tryz.prog T [] 83 [.agg c.row] (fun d rows M=>(d = .tup [.i .i64 (nD c.b).1,.s (nD c.b).2]/\rows=[])/\M=[]):=by
 have hll:(c.slices.l.map Slc.row).length=c.slices.l.length:=sI;have hL:=hc.slices;have hpn:(aP c.b.boxes).length<=1000:=by rw[zO];have:=(qQ hcn).2.1;omega
 have hnum:=Dj c hc (Ai ht) hpn;have hpr:((bY c.b.boxes).map bP).length=(bY c.b.boxes).length:=sI;refine dL.oI tok Tryz.func83 rfl Tryz.call83 sI ?_;(try (conv=>whnf));repeat' (first|(refine⟨_,_,_,_,_,dH,fun _ _=>?_⟩;conv=>whnf)|(refine Or.inr (Or.inl ?_);(conv=>whnf);(repeat (refine aI ?_;conv=>whnf));refine⟨_,hnum , ?_⟩;rintro _ _ _ ⟨gn,lst,cn,rfl,rfl,rfl,hnm,hwf,hky⟩<;>(conv=>whnf))|refine OkM.seq ?_|(refine OkM.region tok ?_;conv=>whnf)|refine OkM.block ?_|fail)
 rename_i g hg;have hNo:qm c.b lst:=⟨zJ hn,hnm,hky⟩;have hin:∀ p,(lk lst p).isSome=true ↔ ¬ (p ∉ dQ c.b/\p ∉ dU c.b):=fun p=>by
  rw[hNo.vN,oq];constructor
  . rintro (h|h) ⟨h1,h2⟩
    . exact h1 h
    . exact h2 h
  . intro h
    by_cases h1:p ∈ dQ c.b
    . exact Or.inl h1
    . exact Or.inr (Classical.byContradiction fun h2=>h ⟨h1,h2⟩)
 refine OkM.aT [1,5,6,25,26] [27] 1 1 (fun (x:Nat × List (Str × Int × Nat) × Nat)=>[.i .i64 (x.1:Nat)]) (fun _ b=>b) (fun _ r=>r) (fun (x:Nat × List (Str × Int × Nat) × Nat)=>[(g,bG D.s fI x.2.1 x.2.2),(gn,bG D.s fI lst cn)]) (fun (x:Nat × List (Str × Int × Nat) × Nat)=>x.1<=c.slices.l.length/\kQ x.2.1 ((c.b.slices.take x.1).map qx.name)/\nD c.b=aV (wI c.b) (c.b.slices.take x.1) (c.b.slices.drop x.1)) (fun (x:Nat × List (Str × Int × Nat) × Nat)=>c.slices.l.length - x.1) ((0,[],0)) (⟨Nat.zero_le _,kQ.nil,rfl⟩) sT ?_;(conv=>whnf);refine⟨by ((conv=>whnf);first|rfl|(simp[ak, au, SI.row, Node.row, Pfx.row, Link.row, aG, Line.row, Rule.row, Box.row, Slc.row, Config.row, bP];done)|(simp[ak, au, SI.row, Node.row, Pfx.row, Link.row, aG, Line.row, Rule.row, Box.row, Slc.row, Config.row, bP];rw[IntKind.wrap_i64];omega)),?_⟩;rintro⟨i,ls,ck⟩ ⟨hi,hkm,hfe⟩;dsimp only at hi hkm hfe ⊢;(conv=>whnf);by_cases hil:i<c.slices.l.length
 . obtain⟨b,hb⟩:∃ b,c.slices.l[i]? = some b:=⟨_,aC hil⟩
   have hbI:c.slices.l[((i:Nat):Int).toNat]? = some b:=hb;have hbb:c.b.slices[i]? = some b.b:=by simp[Config.b,hb]
   have LD:c.b.slices.take (i+1)=c.b.slices.take i++[b.b]:=by rw[List.take_add_one,hbb];rfl
   have hbx:=hc.slc b (aU hb);have hbt:=ht.slices b (aU hb);have hbp:=hbx.eX;have hpl:(b.eX.l.map aG).length=b.eX.l.length:=sI;have hck:=Pm (fds c.fields.l) c.fields.room (nds b.whr.l) b.whr.room (by rw[vX];have:=hc.fields;omega) (by have:=hbx.whr;simp[nds];omega) (TB hbt.whr);rw[Au,RQ] at hck;(try (conv=>whnf));repeat' (first|((first|refine⟨_,_,_,_,_,_,_,_,dH,mH,rfl,?_⟩|refine⟨_,_,_,_,_,dH,fun _ _=>?_⟩|refine⟨_,_,_,_,_,_,_,0,_,_,dH,rfl,rfl,rfl,?_⟩);conv=>whnf)|refine OkM.seq ?_|((first|refine OkM.region tok ?_|refine OkM.aB (Ok.bH tok follows kR ?_)|refine OkM.cond ?_);conv=>whnf)|refine OkM.block ?_|((first|refine OkM.skip ?_|refine OkM.ret ?_|refine ix _ aS ?_);conv=>whnf)|(refine Or.inl ?_;(conv=>whnf);refine Or.inl ?_;(conv=>whnf);(repeat (refine aI ?_;conv=>whnf));refine⟨_,hN b.name,rfl,?_⟩;conv=>whnf)|(refine bI ?_ ?_<;>intro<;>first|omega|conv=>whnf)|fail)
   . rename_i hx
     refine Or.inl ?_;(conv=>whnf);refine⟨?_,rfl⟩;rw[hfe,iW hbb (by rw[Ou hx];simp),Ou hx];rfl
   . rename_i hx hy
     have hx:=Classical.not_not.1 hx;have hm:=(hkm _).1 hy;refine Or.inl ?_;(conv=>whnf);refine⟨?_,rfl⟩;rw[hfe,iW hbb (by rw[Ov hx hm];simp),Ov hx hm];rfl
   rename_i hx hy g2 hg2;have hx:=Classical.not_not.1 hx;have hm:b.b.name ∉ (c.b.slices.take i).map qx.name:=fun h=>hy ((hkm _).2 h)
   rw[zF hbb,X0 hx hm] at hfe;refine OkM.aT [1,5,6,8,11,25,26,27,54,55] [56] 1 2 (fun (y:Nat × List (Str × Int × Nat) × Nat)=>[.i .i64 (y.1:Nat)]) (fun _ b=>b) (fun _ r=>r) (fun (y:Nat × List (Str × Int × Nat) × Nat)=>[(g2,bG D.s fI y.2.1 y.2.2),(g,bG D.s fI (aX ls ck b.name i).1 (aX ls ck b.name i).2),(gn,bG D.s fI lst cn)]) (fun (y:Nat × List (Str × Int × Nat) × Nat)=>y.1<=b.eX.l.length/\kQ y.2.1 (b.eX.l.take y.1)/\aV (kG c.b) [] b.eX.l=aV (kG c.b) (b.eX.l.take y.1) (b.eX.l.drop y.1)) (fun (y:Nat × List (Str × Int × Nat) × Nat)=>b.eX.l.length - y.1) ((0,[],0)) (⟨Nat.zero_le _,kQ.nil,rfl⟩) sT ?_;(conv=>whnf);refine⟨by ((conv=>whnf);first|rfl|(simp[ak, au, SI.row, Node.row, Pfx.row, Link.row, aG, Line.row, Rule.row, Box.row, Slc.row, Config.row, bP];done)|(simp[ak, au, SI.row, Node.row, Pfx.row, Link.row, aG, Line.row, Rule.row, Box.row, Slc.row, Config.row, bP];rw[IntKind.wrap_i64];omega)),?_⟩;rintro⟨j,l2,c2⟩ ⟨hj,su,gU⟩;dsimp only at hj su gU ⊢;(conv=>whnf);by_cases hjl:j<b.eX.l.length
   . obtain⟨s,hs⟩:∃ s,b.eX.l[j]? = some s:=⟨_,aC hjl⟩
     have hsr:(b.eX.l.map aG)[j]? = some (aG s):=by rw[aN,hs];rfl
     have htk:b.eX.l.take (j+1)=b.eX.l.take j++[s]:=by rw[List.take_add_one,hs];rfl
     repeat' (first|((first|refine⟨_,_,_,_,_,_,_,_,dH,mH,rfl,?_⟩|refine⟨_,_,_,_,_,_,_,0,_,_,dH,rfl,rfl,rfl,?_⟩);conv=>whnf)|refine OkM.seq ?_|((first|refine OkM.region tok ?_|refine OkM.cond ?_);conv=>whnf)|refine OkM.block ?_|((first|refine OkM.skip ?_|refine OkM.ret ?_|refine nI ?_|refine ix _ aS ?_);conv=>whnf)|(refine bI ?_ ?_<;>intro<;>first|omega|conv=>whnf)|fail)
     . rename_i hz
       have hu:=Classical.not_not.1 fun h=>hz ((hin s).2 h)
       rw[iW hs (by rw[Oq hu];simp),Oq hu] at gU;change nD c.b=if (orE (aV (kG c.b) [] b.eX.l) _).1 ≠ 0 then orE (aV (kG c.b) [] b.eX.l) _ else _ at hfe
       rw[gU] at hfe;refine Or.inl ?_;(conv=>whnf);refine⟨?_,rfl⟩;rw[hfe];rfl
     . rename_i hz hv
       have hu:=(hin s).1 (Classical.not_not.1 hz);have hp:=(su s).1 hv;rw[iW hs (by rw[Ot hu hp];simp),Ot hu hp] at gU;change nD c.b=if (orE (aV (kG c.b) [] b.eX.l) _).1 ≠ 0 then orE (aV (kG c.b) [] b.eX.l) _ else _ at hfe
       rw[gU] at hfe;refine Or.inl ?_;(conv=>whnf);refine⟨?_,rfl⟩;rw[hfe];rfl
     . rename_i hz hv
       have hu:=(hin s).1 (Classical.not_not.1 hz);have hp:s ∉ b.eX.l.take j:=fun h=>hv ((su s).2 h)
       refine⟨(j+1,(aX l2 c2 s ((lk lst s).getD 0)).1,(aX l2 c2 s ((lk lst s).getD 0)).2),by dsimp only;omega,⟨by dsimp only;omega,by dsimp only;rw[htk];exact su.put c2 s _,?_⟩,.refl _,?_⟩
       . rw[gU,qN hs (by rw[XZ hu hp])]
       . (conv=>whnf)
         rfl
   . obtain rfl:j=b.eX.l.length:=oA
     rw[lX (Nat.le_refl _)] at gU;change nD c.b=if (orE (aV (kG c.b) [] b.eX.l) (if dZ (fds c.fields.l) (nds b.whr.l) ≠ 0 then (77,b.name) else (0,[]))).1 ≠ 0 then orE (aV (kG c.b) [] b.eX.l) (if dZ (fds c.fields.l) (nds b.whr.l) ≠ 0 then (77,b.name) else (0,[])) else _ at hfe
     rw[gU] at hfe;(try (conv=>whnf));repeat' (first|refine OkM.seq ?_|((first|refine OkM.region tok ?_|refine OkM.aB (Ok.bH tok follows kR ?_)|refine OkM.cond ?_|refine OkM.skip ?_|refine OkM.exit ?_|refine OkM.ret ?_|refine nI ?_);conv=>whnf)|(refine Or.inl ?_;(conv=>whnf);refine Or.inl ?_;(conv=>whnf);(repeat (refine aI ?_;conv=>whnf));refine⟨_,hck,rfl,?_⟩;conv=>whnf)|(refine bI ?_ ?_<;>intro<;>first|omega|conv=>whnf)|fail)
     . rename_i hz
       rw[if_pos hz] at hfe;refine Or.inl ?_;(conv=>whnf);refine⟨?_,rfl⟩;rw[hfe];rfl
     . rename_i hz
       rw[if_neg hz,if_neg (by simp[orE])] at hfe;refine⟨(i+1,(aX ls ck b.name i).1,(aX ls ck b.name i).2),by dsimp only;omega,⟨by dsimp only;omega,?_,hfe⟩,.cons _ (.refl _),?_⟩
       . dsimp only
         rw[LD,List.map_append];exact hkm.put ck b.name i
       . (conv=>whnf)
         rfl
 . obtain rfl:i=c.slices.l.length:=oA
   rw[lX (by simp[Config.b])] at hfe;(try (conv=>whnf));repeat' (first|refine OkM.seq ?_|((first|refine OkM.region tok ?_|refine OkM.cond ?_|refine OkM.exit ?_|refine OkM.ret ?_);conv=>whnf)|(refine bI ?_ ?_<;>intro<;>first|omega|conv=>whnf)|fail)
   all_goals first
    | omega
    | (refine Or.inl ?_;(conv=>whnf)
       exact⟨by rw[hfe];rfl,rfl⟩)
end Go.Proofs.YtnlingegeangmaaGreatDoor
namespace Go.Proofs.YtnlingegeangmaaGreatDoor
open Go Go.Vx
theorem EU{f:FuncId}{ds:List D}{e:Er}(h:dL Tryz.prog T [] f ds (fun d rows M=>(d = .tup [.i .i64 e.1,.s e.2]/\rows=[])/\M=[])):aF Tryz.prog T f ds (fun d _=>d = .tup [.i .i64 e.1,.s e.2]):=
 dL.nil (h.mono fun _ _ _ h=>h.1.1)
theorem pJ{a b:Er}(h:a.1 ≠ 0):orE a b=a:=if_pos h
theorem gI{a b:Er}(h:a.1=0):orE a b=b:=if_neg (fun g=>g h)
theorem IB(hW:Ba)(hI:Fq)(c:Config)(hc:c.Ok)(ht:c.Tx) :
    aF Tryz.prog T 35 [.agg c.row] (fun d _=>d = .tup [.i .i64 (fZ c.b).1,.s (fZ c.b).2]):=by
 have p0:=Y5 c hc.fields;have p1:=WG c hc;have p2:=EU (XL Oe c hc (Ai ht));have p3:=fun hh hn=>EU (XW hW hI c hc ht hh hn)
 have p4:=fun hn hcn=>EU (XY c hc ht hn hcn)
 have p5:=fun hn hcn=>EU (WO Oe c hc ht hn hcn)
 refine aF.aB tok Tryz.func35 rfl Tryz.call35 sI ?_;(try (conv=>whnf));repeat' (first|refine Ok.seq ?_|(refine Ok.region tok ?_;conv=>whnf)|refine Ok.block ?_|fail)
 refine Ok.aT [1,8,9] [10] 1 1 (fun (k:Nat)=>[.i .i64 (k:Nat)]) (fun _ b=>b) (fun _ r=>r) (fun (k:Nat)=>k<=6/\(0<k->(jQ c.b).1=0)/\(1<k->(jL c.b).1=0)/\(2<k->(lJ c.b).1=0)/\(3<k->(ql c.b).1=0)/\(4<k->(lK c.b).1=0)/\(5<k->(nD c.b).1=0)) (fun (k:Nat)=>6 - k) (0) (⟨oA,oA,oA,oA,oA,oA,oA⟩) ?_;(conv=>whnf);refine⟨by ((conv=>whnf);first|rfl|(simp[ak, au, SI.row, Node.row, Pfx.row, Link.row, aG, Line.row, Rule.row, Box.row, Slc.row, Config.row, bP];done)|(simp[ak, au, SI.row, Node.row, Pfx.row, Link.row, aG, Line.row, Rule.row, Box.row, Slc.row, Config.row, bP];rw[IntKind.wrap_i64];omega)),?_⟩;rintro k ⟨hk,h0,h1,h2,h3,h4,h5⟩;(conv=>whnf);obtain rfl|rfl|rfl|rfl|rfl|rfl|rfl:k=0\/k=1\/k=2\/k=3\/k=4\/k=5\/k=6:=oA
 . have pp:=p0
   (try (conv=>whnf));repeat' (first|refine Ok.seq ?_|((first|refine Ok.region tok ?_|refine Ok.cond ?_);conv=>whnf)|refine Ok.block ?_|((first|refine Ok.skip ?_|refine Ok.ret ?_|refine nI ?_);conv=>whnf)|(refine Or.inl ?_;(conv=>whnf);(repeat (refine aI ?_;conv=>whnf));refine⟨_,pp,rfl,?_⟩;conv=>whnf)|(refine bI ?_ ?_<;>intro<;>first|omega|conv=>whnf)|((first|refine aJ ?_|refine⟨_,rfl,?_⟩);conv=>whnf)|fail)
   all_goals first
    | (rename_i hz
       refine Or.inl ?_;(conv=>whnf);have:fZ c.b=jQ c.b:=by unfold fZ;rw[pJ hz]
       rw[this];rfl)
    | (rename_i hz
       refine⟨1,oA,⟨oA,fun _=>Classical.not_not.1 hz,fun h=>absurd h oA,fun h=>absurd h oA,fun h=>absurd h oA,fun h=>absurd h oA,fun h=>absurd h oA⟩,?_⟩;(conv=>whnf);rfl)
 . have pp:=p1
   (try (conv=>whnf));repeat' (first|refine Ok.seq ?_|((first|refine Ok.region tok ?_|refine Ok.cond ?_);conv=>whnf)|refine Ok.block ?_|((first|refine Ok.skip ?_|refine Ok.ret ?_|refine nI ?_);conv=>whnf)|(refine Or.inl ?_;(conv=>whnf);(repeat (refine aI ?_;conv=>whnf));refine⟨_,pp,rfl,?_⟩;conv=>whnf)|(refine bI ?_ ?_<;>intro<;>first|omega|conv=>whnf)|((first|refine aJ ?_|refine⟨_,rfl,?_⟩);conv=>whnf)|fail)
   all_goals first
    | (rename_i hz
       refine Or.inl ?_;(conv=>whnf);have:fZ c.b=jL c.b:=by unfold fZ;rw[gI (h0 oA),pJ hz]
       rw[this];rfl)
    | (rename_i hz
       refine⟨2,oA,⟨oA,fun _=>h0 oA,fun _=>Classical.not_not.1 hz,fun h=>absurd h oA,fun h=>absurd h oA,fun h=>absurd h oA,fun h=>absurd h oA⟩,?_⟩;(conv=>whnf);rfl)
 . have pp:=p2
   (try (conv=>whnf));repeat' (first|refine Ok.seq ?_|((first|refine Ok.region tok ?_|refine Ok.cond ?_);conv=>whnf)|refine Ok.block ?_|((first|refine Ok.skip ?_|refine Ok.ret ?_|refine nI ?_);conv=>whnf)|(refine Or.inl ?_;(conv=>whnf);(repeat (refine aI ?_;conv=>whnf));refine⟨_,pp,rfl,?_⟩;conv=>whnf)|(refine bI ?_ ?_<;>intro<;>first|omega|conv=>whnf)|((first|refine aJ ?_|refine⟨_,rfl,?_⟩);conv=>whnf)|fail)
   all_goals first
    | (rename_i hz
       refine Or.inl ?_;(conv=>whnf);have:fZ c.b=lJ c.b:=by unfold fZ;rw[gI (h0 oA),gI (h1 oA),pJ hz]
       rw[this];rfl)
    | (rename_i hz
       refine⟨3,oA,⟨oA,fun _=>h0 oA,fun _=>h1 oA,fun _=>Classical.not_not.1 hz,fun h=>absurd h oA,fun h=>absurd h oA,fun h=>absurd h oA⟩,?_⟩;(conv=>whnf);rfl)
 . have pp:=(p3 (Jw (h0 oA)) (h2 oA))
   (try (conv=>whnf));repeat' (first|refine Ok.seq ?_|((first|refine Ok.region tok ?_|refine Ok.cond ?_);conv=>whnf)|refine Ok.block ?_|((first|refine Ok.skip ?_|refine Ok.ret ?_|refine nI ?_);conv=>whnf)|(refine Or.inl ?_;(conv=>whnf);(repeat (refine aI ?_;conv=>whnf));refine⟨_,pp,rfl,?_⟩;conv=>whnf)|(refine bI ?_ ?_<;>intro<;>first|omega|conv=>whnf)|((first|refine aJ ?_|refine⟨_,rfl,?_⟩);conv=>whnf)|fail)
   all_goals first
    | (rename_i hz
       refine Or.inl ?_;(conv=>whnf);have:fZ c.b=ql c.b:=by unfold fZ;rw[gI (h0 oA),gI (h1 oA),gI (h2 oA),pJ hz]
       rw[this];rfl)
    | (rename_i hz
       refine⟨4,oA,⟨oA,fun _=>h0 oA,fun _=>h1 oA,fun _=>h2 oA,fun _=>Classical.not_not.1 hz,fun h=>absurd h oA,fun h=>absurd h oA⟩,?_⟩;(conv=>whnf);rfl)
 . have pp:=(p4 (h2 oA) (h1 oA))
   (try (conv=>whnf));repeat' (first|refine Ok.seq ?_|((first|refine Ok.region tok ?_|refine Ok.cond ?_);conv=>whnf)|refine Ok.block ?_|((first|refine Ok.skip ?_|refine Ok.ret ?_|refine nI ?_);conv=>whnf)|(refine Or.inl ?_;(conv=>whnf);(repeat (refine aI ?_;conv=>whnf));refine⟨_,pp,rfl,?_⟩;conv=>whnf)|(refine bI ?_ ?_<;>intro<;>first|omega|conv=>whnf)|((first|refine aJ ?_|refine⟨_,rfl,?_⟩);conv=>whnf)|fail)
   all_goals first
    | (rename_i hz
       refine Or.inl ?_;(conv=>whnf);have:fZ c.b=lK c.b:=by unfold fZ;rw[gI (h0 oA),gI (h1 oA),gI (h2 oA),gI (h3 oA),pJ hz]
       rw[this];rfl)
    | (rename_i hz
       refine⟨5,oA,⟨oA,fun _=>h0 oA,fun _=>h1 oA,fun _=>h2 oA,fun _=>h3 oA,fun _=>Classical.not_not.1 hz,fun h=>absurd h oA⟩,?_⟩;(conv=>whnf);rfl)
 . have pp:=(p5 (h2 oA) (h1 oA))
   (try (conv=>whnf));repeat' (first|refine Ok.seq ?_|((first|refine Ok.region tok ?_|refine Ok.cond ?_);conv=>whnf)|refine Ok.block ?_|((first|refine Ok.skip ?_|refine Ok.ret ?_|refine nI ?_);conv=>whnf)|(refine Or.inl ?_;(conv=>whnf);(repeat (refine aI ?_;conv=>whnf));refine⟨_,pp,rfl,?_⟩;conv=>whnf)|(refine bI ?_ ?_<;>intro<;>first|omega|conv=>whnf)|((first|refine aJ ?_|refine⟨_,rfl,?_⟩);conv=>whnf)|fail)
   all_goals first
    | (rename_i hz
       refine Or.inl ?_;(conv=>whnf);have:fZ c.b=nD c.b:=by unfold fZ;rw[gI (h0 oA),gI (h1 oA),gI (h2 oA),gI (h3 oA),gI (h4 oA)]
       rw[this];rfl)
    | (rename_i hz
       refine⟨6,oA,⟨oA,fun _=>h0 oA,fun _=>h1 oA,fun _=>h2 oA,fun _=>h3 oA,fun _=>h4 oA,fun _=>Classical.not_not.1 hz⟩,?_⟩;(conv=>whnf);rfl)
 . (try (conv=>whnf));repeat' (first|refine Ok.seq ?_|((first|refine Ok.region tok ?_|refine Ok.cond ?_|refine Ok.exit ?_|refine Ok.ret ?_);conv=>whnf)|(refine bI ?_ ?_<;>intro<;>first|omega|conv=>whnf)|fail)
   all_goals first
    | omega
    | (refine Or.inl ?_;(conv=>whnf)
       have h6:fZ c.b=nD c.b:=by unfold fZ;rw[gI (h0 oA),gI (h1 oA),gI (h2 oA),gI (h3 oA),gI (h4 oA)]
       have h7:nD c.b=(0,[]):=WE (h5 oA);rw[h6,h7];rfl)
end Go.Proofs.YtnlingegeangmaaGreatDoor
namespace Go.Proofs.YtnlingegeangmaaGreatDoor
open Go Go.Vx
theorem Dk{c:bC}(h:(fZ c).1=0):(jQ c).1=0/\(jL c).1=0/\(lJ c).1=0/\(ql c).1=0/\(lK c).1=0/\(nD c).1=0:=by
 unfold fZ at h;by_cases h0:(jQ c).1=0
 . rw[gI h0] at h
   by_cases h1:(jL c).1=0
   . rw[gI h1] at h
     by_cases h2:(lJ c).1=0
     . rw[gI h2] at h
       by_cases h3:(ql c).1=0
       . rw[gI h3] at h
         by_cases h4:(lK c).1=0
         . rw[gI h4] at h
           exact⟨h0,h1,h2,h3,h4,h⟩
         . exact absurd (by rwa [pJ h4] at h) h4
       . exact absurd (by rwa [pJ h3] at h) h3
     . exact absurd (by rwa [pJ h2] at h) h2
   . exact absurd (by rwa [pJ h1] at h) h1
 . exact absurd (by rwa [pJ h0] at h) h0
end Go.Proofs.YtnlingegeangmaaGreatDoor
namespace Go.Proofs.YtnlingegeangmaaGreatDoor
open Go Go.Vx
section
variable {fs : List Fd} {pre : List SI} {s : SI}
theorem QE(h:cO s.s fs 0<0):qB fs pre s=(41,[]):=if_pos h
theorem QF(h:¬ cO s.s fs 0<0)(h2:∃ t ∈ pre,t.s=s.s):qB fs pre s=(45,[]):=by unfold qB;rw[if_neg h,if_pos h2]
theorem Zd(h:¬ cO s.s fs 0<0)(h2:¬ ∃ t ∈ pre,t.s=s.s)(h3:s.n<0\/(tw ((fs[(cO s.s fs 0).toNat]?).getD ⟨[],0⟩).bits.toNat:Int) - 1<s.n):qB fs pre s=(42,[]):=by unfold qB;rw[if_neg h,if_neg h2,if_pos h3]
theorem aaK(h:¬ cO s.s fs 0<0)(h2:¬ ∃ t ∈ pre,t.s=s.s)(h3:¬ (s.n<0\/(tw ((fs[(cO s.s fs 0).toNat]?).getD ⟨[],0⟩).bits.toNat:Int) - 1<s.n)):qB fs pre s=(0,[]):=by unfold qB;rw[if_neg h,if_neg h2,if_neg h3]
end
theorem WQ{fs:List Fd}{l:List SI}(h:12<l.length):rP fs l=2:=if_pos h
theorem Ze{fs:List Fd}{l:List SI}(h:¬ 12<l.length)(h2:(dh fs).1=0):rP fs l=(aV (qB fs) [] l).1:=by unfold rP;rw[if_neg h,if_neg (fun g=>g h2)]
theorem WR{l:List Fd}{k:Nat}{c:Fd}(hc:l[k]? = some c):wid (l.take k)+c.bits.toNat<=wid l:=by
 rw[<- Qe hc,aau l (k+1)];omega
end Go.Proofs.YtnlingegeangmaaGreatDoor
namespace Go.Proofs.YtnlingegeangmaaGreatDoor
open Go Go.Vx
structure Prt where
 name:Str
 box:Nat
 inn:Prop
 dst:Int
def Prt.row(x:Prt):List D:=[.s x.name,.i .i64 (x.box:Nat),.b x.inn,.i .i64 x.dst]
def LG(n:Nat)(b:bf):List Prt:=(b.ins.map fun s=>⟨dot b.name s,n,True,-1⟩)++(b.outs.map fun s=>⟨dot b.name s,n,False,-1⟩)
def mQ:Nat->List bf->List Prt
 | _,[]=>[]
 | n,b :: bs=>LG n b++mQ (n+1) bs
theorem zK(n:Nat)(l:List bf):(mQ n l).map Prt.name=aP l:=by
 induction l generalizing n with
 | nil=>rfl
 | cons b l ih=>
  rw[sV,mQ,List.map_append,ih];simp[LG,Function.comp_def]
end Go.Proofs.YtnlingegeangmaaGreatDoor
namespace Go.Proofs
open Go.Shelf
def Tryz.vxItoa_ren:Go.Shelf.Ren:=⟨fun|171=>150|243=>175|246=>216|283=>237|284=>238|285=>239|286=>240|129=>189|317=>254|318=>255|319=>256|320=>257|337=>274|338=>275|n=>n,fun|3=>3|9=>9|2=>2|4=>4|171=>346|0=>0|53=>285|37=>302|5=>5|173=>348|212=>364|51=>283|20=>20|213=>365|46=>253|232=>392|233=>393|n=>n,fun|17=>2|18=>4|19=>5|n=>n⟩
theorem Tryz.vxItoa:Go.Proofs.LaysM.n171 Tryz.prog Tryz.vxItoa_ren:={
 mixed:=kR
 f129:=Tryz.func189.trans (congrArg some kR)
 f171:=Tryz.func150.trans (congrArg some kR)
 f243:=Tryz.func175.trans (congrArg some kR)
 f246:=Tryz.func216.trans (congrArg some kR)
 f283:=Tryz.func237.trans (congrArg some kR)
 f284:=Tryz.func238.trans (congrArg some kR)
 f285:=Tryz.func239.trans (congrArg some kR)
 f286:=Tryz.func240.trans (congrArg some kR)
 f317:=Tryz.func254.trans (congrArg some kR)
 f318:=Tryz.func255.trans (congrArg some kR)
 f319:=Tryz.func256.trans (congrArg some kR)
 f320:=Tryz.func257.trans (congrArg some kR)
 f337:=Tryz.func274.trans (congrArg some kR)
 f338:=Tryz.func275.trans (congrArg some kR)
 t0:=Tryz.underlying0
 a0:=Tryz.isAgg0
 z0:=Tryz.sizeOf0
 v0:=Tryz.zeroValue0
 t2:=Tryz.underlying2
 a2:=Tryz.isAgg2
 z2:=Tryz.sizeOf2
 v2:=Tryz.zeroValue2
 t3:=Tryz.underlying3
 a3:=Tryz.isAgg3
 z3:=Tryz.sizeOf3
 v3:=Tryz.zeroValue3
 t4:=Tryz.underlying4
 a4:=Tryz.isAgg4
 z4:=Tryz.sizeOf4
 v4:=Tryz.zeroValue4
 t5:=Tryz.underlying5
 a5:=Tryz.isAgg5
 z5:=Tryz.sizeOf5
 v5:=Tryz.zeroValue5
 t9:=Tryz.underlying9
 a9:=Tryz.isAgg9
 z9:=Tryz.sizeOf9
 v9:=Tryz.zeroValue9
 t20:=Tryz.underlying20
 a20:=Tryz.isAgg20
 z20:=Tryz.sizeOf20
 v20:=Tryz.zeroValue20
 t37:=Tryz.underlying302
 a37:=Tryz.isAgg302
 z37:=Tryz.sizeOf302
 v37:=Tryz.zeroValue302
 t46:=Tryz.underlying253
 a46:=Tryz.isAgg253
 z46:=Tryz.sizeOf253
 v46:=Tryz.zeroValue253
 t51:=Tryz.underlying283
 a51:=Tryz.isAgg283
 z51:=Tryz.sizeOf283
 v51:=Tryz.zeroValue283
 t53:=Tryz.underlying285
 a53:=Tryz.isAgg285
 z53:=Tryz.sizeOf285
 v53:=Tryz.zeroValue285
 t171:=Tryz.underlying346
 a171:=Tryz.isAgg346
 z171:=Tryz.sizeOf346
 v171:=Tryz.zeroValue346
 t173:=Tryz.underlying348
 a173:=Tryz.isAgg348
 z173:=Tryz.sizeOf348
 v173:=Tryz.zeroValue348
 t212:=Tryz.underlying364
 a212:=Tryz.isAgg364
 z212:=Tryz.sizeOf364
 v212:=Tryz.zeroValue364
 t213:=Tryz.underlying365
 a213:=Tryz.isAgg365
 z213:=Tryz.sizeOf365
 t232:=Tryz.underlying392
 a232:=Tryz.isAgg392
 z232:=Tryz.sizeOf392
 v232:=Tryz.zeroValue392
 t233:=Tryz.underlying393
 a233:=Tryz.isAgg393
 z233:=Tryz.sizeOf393
 v233:=Tryz.zeroValue393
 g17:=kR
 g18:=kR
 g19:=kR
 i0:=kR
 i2:=kR
 i3:=kR
 i4:=kR
 i5:=kR
 i9:=kR
 i20:=kR
 i37:=kR
 i46:=kR
 i51:=kR
 i53:=kR
 i171:=kR
 i173:=kR
 i212:=kR
 i232:=kR
 i233:=kR
 m17:=kR
 m18:=kR
 m19:=by kernel_rfl }
end Go.Proofs
namespace Go.Proofs.YtnlingegeangmaaGreatDoor
open Go Go.Vx Go.RowKit Go.Shelf Go.Proofs
theorem text_of{P:Program}{T:Tab}{f:FuncId}{ds:List D}{l:List UInt8}(hcall:∀ args w,(callFunc f args).run P w = .ok (.enter f args) w)
    (h:∀ (V:Vw) (w:World) (args:Array Value),VOk V w->args.size=ds.length->(∀ (j:Nat) v d,args[j]? = some v->ds[j]? = some d->RI (ah T) V v d)->Calls P f args w fun q w'=>
     q = .returned (.string ⟨l.toArray⟩)/\Below w.heap.size w w') :
    aF P T f ds fun d _=>d = .s l:=by
 refine⟨hcall,fun V w args hV hl hR=>(h V w args hV hl hR).mono ?_⟩;rintro q w' ⟨rfl,hb⟩;exact⟨V,[],[],_,_,rfl,rfl,.imm _ _ (.s l),hb,fun _ _ h=>h,hV.ext hb,fun _ _=>rfl,rfl,sI,sI,sI⟩
theorem Zf(w:World)(n:Nat)(os:Array Obj):Below w.heap.size w (Sort.grow (w.drewN n) os):=by
 have h:(w.drewN n).heap=w.heap:=rfl;refine⟨rfl,rfl,rfl,?_,fun k hk=>?_⟩
 . show w.heap.size<=(w.heap++os).size
   simp
 . show (w.heap++os)[k]? = _
   rw[Array.getElem?_append_left hk]
theorem Zg{w:World}(h:GT w):Lib.TabIs Tryz.prog w "internal/strconv.uint64pow10" .u64 Lib.pow10Tab:=by
 obtain⟨_,a,b,hw⟩:=h 2 _ rfl;unfold Lib.TabIs World.var?;rw[show Tryz.prog.globalNamed "internal/strconv.uint64pow10" = some 2 from by kernel_rfl];simp only[Option.bind_some,hw];rfl
theorem Jy:Fq:=by
 intro n h0 h1;refine text_of Tryz.call150 fun V w args hV hl hR=>?_
 have hl1:args.size=1:=hl;have h2:args[0]? = some args[0]:=Array.getElem?_eq_getElem oA;have h3:args=#[.int .i64 n]:=by
  have:=Rw (hR 0 _ _ h2 rfl);rw[this] at h2;apply Array.ext';apply List.ext_getElem?;intro i
  match i with
  | 0=>simpa using h2
  | i+1=>simp;omega
 subst h3;refine (Any.strconv_Itoa Tryz.vxItoa n h0 h1 w (Zg hV.1.2)).mono ?_;rintro e w' ⟨rfl,k,os,rfl⟩;exact⟨rfl,Zf w k os⟩
end Go.Proofs.YtnlingegeangmaaGreatDoor
namespace Go.Proofs.YtnlingegeangmaaGreatDoor
open Go Go.Vx
theorem Jz:Ba:=by
 intro l r S r2 hch hS;obtain⟨mX,hl12⟩:=vV hch;have hSl:(S.map SI.row).length=S.length:=sI;have hll:(l.map bJ).length=l.length:=sI;have hrc:=Af l r oA;have hw:=AZ mX;have hrw:=D9 l r oA mX;have hxs:=EL (wid l) oA;have hxl:(xsT (wid l)).length=wid l:=by simp[xsT]
 rw[show dh l=(0,(dh l).2) from by rw[<- hch]] at hrc;refine aF.aB tok Tryz.func174 rfl Tryz.call174 sI ?_;by_cases h12:12<S.length
 . (try (conv=>whnf));repeat' (first|refine Ok.seq ?_|((first|refine Ok.region tok ?_|refine Ok.cond ?_|refine Ok.ret ?_);conv=>whnf)|(refine bI ?_ ?_<;>intro<;>first|omega|conv=>whnf)|fail)
   all_goals first
    | omega
    | (refine Or.inl ?_;(conv=>whnf)
       exact⟨⟨_,by rw[WQ h12];rfl⟩,rfl⟩)
 (try (conv=>whnf));repeat' (first|refine Ok.seq ?_|((first|refine Ok.region tok ?_|refine Ok.cond ?_);conv=>whnf)|refine Ok.block ?_|(refine Ok.skip ?_;conv=>whnf)|(refine Or.inl ?_;(conv=>whnf);(repeat (refine aI ?_;conv=>whnf));refine⟨_,hrc,rfl,?_⟩;conv=>whnf)|(refine Or.inl ?_;(conv=>whnf);(repeat (refine aI ?_;conv=>whnf));refine⟨_,hrw,rfl,?_⟩;conv=>whnf)|(refine Or.inl ?_;(conv=>whnf);(repeat (refine aI ?_;conv=>whnf));refine⟨_,hxs,rfl,?_⟩;conv=>whnf)|(refine bI ?_ ?_<;>intro<;>first|omega|conv=>whnf)|(refine aJ ?_;conv=>whnf)|fail)
 all_goals first
  | omega
  | skip
 have hwI:=Ze h12 hch;rw[hxl];refine Ok.aT [0,1,8,35,36] [37] 1 0 (fun (x:Nat × Str)=>[.i .i64 (x.1:Nat)]) (fun _ b=>b) (fun (x:Nat × Str) (_:Vx.Rows)=>[some (Nat.add 5 BIG,x.2.map bT)]) (fun (x:Nat × Str)=>x.1<=S.length/\x.2.length=wid l/\rP l S=(aV (qB l) (S.take x.1) (S.drop x.1)).1) (fun (x:Nat × Str)=>S.length - x.1) ((0,xsT (wid l))) (⟨Nat.zero_le _,hxl,hwI⟩) ?_;(conv=>whnf);refine⟨by ((conv=>whnf);first|rfl|(simp[ak, au, SI.row, Node.row, Pfx.row, Link.row, aG, Line.row, Rule.row, Box.row, Slc.row, Config.row, bJ, bT];done)|(simp[ak, au, SI.row, Node.row, Pfx.row, Link.row, aG, Line.row, Rule.row, Box.row, Slc.row, Config.row, bJ, bT];rw[IntKind.wrap_i64];omega)),?_⟩;rintro⟨i,w⟩ ⟨hi,hwl,hfe⟩;dsimp only at hi hwl hfe ⊢;have hwb:(w.map bT).length=wid l:=by rw[bV,hwl]
 (conv=>whnf);by_cases hil:i<S.length
 . obtain⟨s,hs⟩:∃ s,S[i]? = some s:=⟨_,aC hil⟩
   have hsI:S[((i:Nat):Int).toNat]? = some s:=hs;have hsR:(S.map SI.row)[((i:Nat):Int).toNat]? = some s.row:=by rw[aN,hsI];rfl
   have htp:=EK l r s.s oA;by_cases hu:cO s.s l 0<0
   . rw[iW hs (by rw[QE hu];simp),QE hu] at hfe
     (try (conv=>whnf));repeat' (first|refine Ok.seq ?_|((first|refine Ok.region tok ?_|refine Ok.cond ?_);conv=>whnf)|refine Ok.block ?_|((first|refine Ok.skip ?_|refine Ok.ret ?_|refine ix _ aS ?_);conv=>whnf)|(refine Or.inl ?_;(conv=>whnf);(repeat (refine aI ?_;conv=>whnf));refine⟨_,htp,rfl,?_⟩;conv=>whnf)|(refine bI ?_ ?_<;>intro<;>first|omega|conv=>whnf)|fail)
     all_goals first
      | omega
      | (refine Or.inl ?_;(conv=>whnf)
         exact⟨⟨_,by rw[hfe];rfl⟩,rfl⟩)
   obtain⟨k,hk⟩:∃ k:Nat,cO s.s l 0=k:=⟨(cO s.s l 0).toNat,oA⟩;have hkl:k<l.length:=by have:=(Ae s.s l 0).2.2;omega
   obtain⟨f,hf⟩:∃ f,l[k]? = some f:=⟨_,aC hkl⟩;have hfI:l[((k:Nat):Int).toNat]? = some f:=hf;have hfR:(l.map bJ)[((k:Nat):Int).toNat]? = some (bJ f):=by rw[aN,hfI];rfl
   have hfb:=mX f (aU hf);rw[hk] at htp;have hws:=WR hf;have hmt:((S.map SI.row++r2).take i).drop 0=(S.take i).map SI.row:=by rw[List.drop_zero,List.take_append_of_le_length oA,List.map_take]
   have hml:((S.take i).map SI.row).length=i:=by simp;omega
   (try (conv=>whnf));repeat' (first|refine Ok.seq ?_|((first|refine Ok.region tok ?_|refine Ok.cond ?_);conv=>whnf)|refine Ok.block ?_|((first|refine Ok.skip ?_|refine ix _ aS ?_);conv=>whnf)|(refine Or.inl ?_;(conv=>whnf);(repeat (refine aI ?_;conv=>whnf));refine⟨_,htp,rfl,?_⟩;conv=>whnf)|(refine⟨_,_,rfl,rfl,?_⟩;conv=>whnf)|(refine bI ?_ ?_<;>intro<;>first|omega|conv=>whnf)|(refine aJ ?_;conv=>whnf)|fail)
   have hnu:¬ cO s.s l 0<0:=hu;have adi:(((S.map SI.row++r2).take i).drop 0).length=i:=by rw[hmt,hml]
   refine Ok.aT [0,1,8,10,11,35,36,37,50,51] [52] 1 1 (fun (j:Nat)=>[.i .i64 (j:Nat)]) (fun _ b=>b) (fun _ r=>r) (fun (j:Nat)=>j<=i/\∀ (m:Nat) q,m<j->S[m]? = some q->q.s ≠ s.s) (fun (j:Nat)=>i - j) (0) (⟨Nat.zero_le _,fun m q hm=>absurd hm oA⟩) ?_;(conv=>whnf);refine⟨by ((conv=>whnf);first|rfl|(simp[ak, au, SI.row, Node.row, Pfx.row, Link.row, aG, Line.row, Rule.row, Box.row, Slc.row, Config.row, bJ, bT];done)|(simp[ak, au, SI.row, Node.row, Pfx.row, Link.row, aG, Line.row, Rule.row, Box.row, Slc.row, Config.row, bJ, bT];rw[IntKind.wrap_i64];omega)),?_⟩;rintro j ⟨hj,hall⟩;(conv=>whnf);by_cases hji:j<i
   . obtain⟨q,hq⟩:∃ q,S[j]? = some q:=⟨_,aC oA⟩
     have hqI:S[((j:Nat):Int).toNat]? = some q:=hq;have hqR:(((S.map SI.row++r2).take i).drop 0)[((j:Nat):Int).toNat]? = some q.row:=by
      rw[hmt];show ((S.take i).map SI.row)[j]? = _;rw[aN,List.getElem?_take_of_lt hji,hq];rfl
     have hqm:q ∈ S.take i:=aU (i:=j) (by rw[List.getElem?_take_of_lt hji];exact hq);(try (conv=>whnf));repeat' (first|refine Ok.seq ?_|((first|refine Ok.region tok ?_|refine Ok.cond ?_);conv=>whnf)|refine Ok.block ?_|((first|refine Ok.skip ?_|refine Ok.ret ?_|refine nI ?_|refine⟨_,aS,?_⟩);conv=>whnf)|(refine bI ?_ ?_<;>intro<;>first|omega|conv=>whnf)|(refine aJ ?_;conv=>whnf)|fail)
     . rename_i he
       rw[iW hs (by rw[QF hnu ⟨q,hqm,he⟩];simp),QF hnu ⟨q,hqm,he⟩] at hfe;refine Or.inl ?_;(conv=>whnf);exact⟨⟨_,by rw[hfe];rfl⟩,rfl⟩
     . rename_i he
       refine⟨j+1,oA,⟨oA,fun m x hm hx=>?_⟩,?_⟩
       . by_cases hmj:m=j
         . subst hmj;rw[hq] at hx;cases hx;exact he
         . exact hall m x oA hx
       . (conv=>whnf)
         rfl
   obtain rfl:j=i:=oA;have hno:¬ ∃ t ∈ S.take j,t.s=s.s:=by
    rintro⟨q,hq,h⟩;obtain⟨m,hm⟩:=List.getElem?_of_mem hq;have hmj:m<j:=by have:=(aK.1 hm).1;rw[List.length_take] at this;omega
    rw[List.getElem?_take_of_lt hmj] at hm;exact hall m q hmj hm h
   have CP:((l[(cO s.s l 0).toNat]?).getD ⟨[],0⟩).bits=f.bits:=by rw[hk,hfI];rfl
   obtain⟨B,hB⟩:∃ B:Nat,f.bits=B:=⟨f.bits.toNat,oA⟩;have hBt:f.bits.toNat=B:=oA;have htop:=yO B oA;rw[<- hB] at htop;have htw:(0:Int)<tw B:=by have:=AY B;omega
   have acI:=rZ (k:=B) oA;by_cases hv:s.n<0\/(tw B:Int) - 1<s.n
   . have hb:=Zd hnu hno (by rw[CP,hBt];exact hv)
     rw[iW hs (by rw[hb];simp),hb] at hfe;(try (conv=>whnf));repeat' (first|refine Ok.seq ?_|((first|refine Ok.region tok ?_|refine Ok.bH tok follows kR ?_|refine Ok.cond ?_|refine Ok.exit ?_|refine Ok.ret ?_|refine ix _ aS ?_|refine⟨_,aS,?_⟩);conv=>whnf)|(refine bI ?_ ?_<;>intro<;>first|omega|conv=>whnf)|(refine aJ ?_;conv=>whnf)|fail)
     all_goals first
      | omega
      | (refine Or.inl ?_;(conv=>whnf)
         exact⟨⟨_,by rw[hfe];rfl⟩,rfl⟩)
   have hok:=aaK hnu hno (by rw[CP,hBt];exact hv);rw[qN hs (by rw[hok])] at hfe;obtain⟨v,hvn⟩:∃ v:Nat,s.n=v:=⟨s.n.toNat,oA⟩;have hdg:=OU v B B oA oA oA;have hbl:=tJ v B B;rw[<- hB,<- hvn] at hdg;have adk:wid (l.take k)+B<=wid l:=oA;have hmk:((l.map bJ++r).take k).drop 0=(l.take k).map bJ:=by rw[List.drop_zero,List.take_append_of_le_length oA,List.map_take]
   have hwd:=D9 (l.take k) ((l.map bJ++r).drop k) (by rw[List.length_take];omega) (fun x hx=>mX x (List.mem_of_mem_take hx));rw[<- hmk] at hwd;(try (conv=>whnf));repeat' (first|refine Ok.seq ?_|((first|refine Ok.region tok ?_|refine Ok.aW (id:=22) tok follows [(7,10,[]),(4,10,[]),(7,11,[10]),(4,11,[5]),(10,11,[])] [.q 0,.q 1,.q 2,.q 3,.q 6,.q 7,.q 8,.q 9,.l 4,.q 5,.l 10,.l 11] kR ?_|refine Ok.bH tok follows kR ?_|refine Ok.cond ?_|refine Ok.skip ?_|refine Ok.exit ?_|refine nI ?_|refine ix _ aS ?_|refine⟨_,aS,?_⟩);conv=>whnf)|(refine Or.inl ?_;(conv=>whnf);(repeat (refine aI ?_;conv=>whnf));refine⟨_,hdg,rfl,?_⟩;conv=>whnf)|(refine Or.inl ?_;(conv=>whnf);(repeat (refine aI ?_;conv=>whnf));refine⟨_,hwd,rfl,?_⟩;conv=>whnf)|(refine⟨_,_,rfl,rfl,?_⟩;conv=>whnf)|(refine bI ?_ ?_<;>intro<;>first|omega|conv=>whnf)|((first|refine aJ ?_|refine⟨_,rfl,?_⟩);conv=>whnf)|fail)
   refine⟨(j+1,w.take (wid (l.take k))++lQ v B B++w.drop (wid (l.take k)+(lQ v B B).length)),by dsimp only;omega,⟨by dsimp only;omega,by simp;omega,hfe⟩,?_⟩;dsimp only;rw[List.map_append,List.map_append,List.map_take,List.map_drop];(conv=>whnf);rfl
 . obtain rfl:i=S.length:=oA
   rw[lX sI] at hfe;(try (conv=>whnf));repeat' (first|(refine⟨w,by rw[au oA],?_⟩;conv=>whnf)|refine Ok.seq ?_|((first|refine Ok.region tok ?_|refine Ok.cond ?_|refine Ok.exit ?_|refine Ok.ret ?_);conv=>whnf)|(refine bI ?_ ?_<;>intro<;>first|omega|conv=>whnf)|(refine aJ ?_;conv=>whnf)|fail)
   all_goals first
    | omega
    | (refine Or.inl ?_;(conv=>whnf)
       exact⟨⟨_,by rw[hfe];rfl⟩,rfl⟩)
end Go.Proofs.YtnlingegeangmaaGreatDoor
namespace Go.Proofs.YtnlingegeangmaaGreatDoor
open Go Go.Vx
theorem QG:∀ (n:Nat) (bs:List bf),wY n bs=(mQ n bs).map fun x=>(x.box,x.inn)
 | n,[]=>rfl
 | n,b :: bs=>by
  rw[yw,mQ,List.map_append,<- QG (n+1) bs];simp[LG,Function.comp_def]
theorem EW(bs:List bf):bY bs=(mQ 0 bs).map fun x=>(x.box,x.inn):=QG 0 bs
def xM(fs:List Str)(l:List Prt)(x:Link):List Prt:=match l[(plc fs x.frm).toNat]? with
 | some p=>l.set (plc fs x.frm).toNat ⟨p.name,p.box,p.inn,plc fs x.dst⟩
 | none=>l
theorem X3{fs:List Str}{l:List Prt}{x:Link}{p:Prt}(h:l[(plc fs x.frm).toNat]? = some p):xM fs l x=l.set (plc fs x.frm).toNat ⟨p.name,p.box,p.inn,plc fs x.dst⟩:=by unfold xM;rw[h]
theorem WS(fs:List Str)(l:List Prt)(x:Link):(xM fs l x).map Prt.name=l.map Prt.name:=by
 unfold xM;split
 . rename_i p hp
   apply List.ext_getElem?;intro i;by_cases hi:i=(plc fs x.frm).toNat
   . subst hi
     rw[aN,List.getElem?_set_self (aK.1 hp).1,aN,hp];rfl
   . rw[aN,List.getElem?_set_ne (Ne.symm hi),aN]
 . rfl
noncomputable def jT(c:bC)(k:Nat):List Prt:=(c.links.take k).foldl (xM (aP c.boxes)) (mQ 0 c.boxes)
theorem WT{c:bC}{k:Nat}{x:Link}(h:c.links[k]? = some x):jT c (k+1)=xM (aP c.boxes) (jT c k) x:=by
 unfold jT;rw[List.take_add_one,h,List.foldl_append];rfl
theorem Nl(fs:List Str):∀ (l:List Link) (P:List Prt),(l.foldl (xM fs) P).map Prt.name=P.map Prt.name
 | [],_=>rfl
 | x :: l,P=>by rw[List.foldl_cons,Nl fs l,WS]
theorem Np(c:bC)(k:Nat):(jT c k).map Prt.name=aP c.boxes:=by
 unfold jT;rw[Nl,zK]
theorem Px:∀ (n:Nat) (bs:List bf),∀ p ∈ mQ n bs,p.dst=-1
 | _,[],p,h=>by cases h
 | n,b :: bs,p,h=>by
  rcases bQ.1 h with h|h
  . rcases bQ.1 h with h|h <;>
    . obtain⟨_,_,rfl⟩:=List.mem_map.1 h
      rfl
  . exact Px _ bs p h
noncomputable def kL(c:bC):List Prt:=jT c c.links.length
theorem DL(c:bC)(k:Nat):(jT c k).length=(aP c.boxes).length:=by rw[<- Np c k,bV]
theorem zQ{c:bC}(h:(lK c).1=0){x:Link}(hx:x ∈ c.links):x.frm ∈ aP c.boxes/\x.dst ∈ aP c.boxes:=by
 obtain⟨k,hk⟩:=List.getElem?_of_mem hx;have h1:=sU h k x hk;refine⟨Classical.byContradiction fun hn=>?_,Classical.byContradiction fun hn=>?_⟩
 . have hI:x.frm ∉ dQ c:=fun g=>hn (oq.2 (.inl g))
   have hU:x.frm ∉ dU c:=fun g=>hn (oq.2 (.inr g))
   have h2:dG [x.frm] (dU c) (dQ c)=73:=by rw[o8,qO hU hI]
   rw[zU (by rw[h2];decide),h2] at h1;cases h1
 . have hI:x.dst ∉ dQ c:=fun g=>hn (oq.2 (.inl g))
   have hU:x.dst ∉ dU c:=fun g=>hn (oq.2 (.inr g))
   by_cases hf:dG [x.frm] (dU c) (dQ c) ≠ 0
   . rw[zU hf] at h1
     exact hf h1
   . have h2:dG [x.dst] (dQ c) (dU c)=73:=by rw[o8,qO hI hU]
     rw[Ja hf (by rw[h2];decide),h2] at h1;cases h1
theorem X4{r:List D}{a b c d:D}(h:r.length=4):setCells r 0 [a,b,c,d]=[a,b,c,d]:=by
 unfold setCells;rw[List.take_zero,List.drop_eq_nil_of_le (by simp[h])];rfl
def UE:List D:=[.s [],.i .i64 0,.b False,.i .i64 0]
theorem X5(c:Config)(hc:c.Ok)(ht:c.Tx)(h0:(fZ c.b).1=0) :
    dL Tryz.prog T [] 84 [.agg c.row] (fun d rows M=>(d = .tup [.own 0 (kL c.b).length,.i .i64 0]/\rows=[some (147,(kL c.b).map Prt.row)])/\M=[]):=by
 have hck:=IB Jz Jy c hc ht;rw[h0] at hck;obtain⟨_,h1,h2,_,h4,_⟩:=Dk h0;have hpn:(aP c.b.boxes).length<=1000:=by rw[zO];have:=(qQ h1).2.1;omega
 have hnum:=Dj c hc (Ai ht) hpn;have hpr:((bY c.b.boxes).map bP).length=(bY c.b.boxes).length:=sI;have hll:(c.links.l.map Link.row).length=c.links.l.length:=sI;have hL:=hc.links;have hpl:(bY c.b.boxes).length=(aP c.b.boxes).length:=by rw[EW,bV,<- zK 0,bV]
 obtain⟨P,hP⟩:∃ P,P=mQ 0 c.b.boxes:=⟨_,rfl⟩;have hPn:P.map Prt.name=aP c.b.boxes:=by rw[hP,zK]
 have hPl:P.length=(aP c.b.boxes).length:=by rw[<- hPn,bV]
 have hPc:(bY c.b.boxes)=P.map fun x=>(x.box,x.inn):=by rw[hP,EW]
 refine dL.oI tok Tryz.func84 rfl Tryz.call84 sI ?_;(try (conv=>whnf));repeat' (first|(refine⟨_,_,_,_,_,_,_,dH,mG,fun _ _=>?_⟩;conv=>whnf)|(refine Or.inr (Or.inl ?_);(conv=>whnf);(repeat (refine aI ?_;conv=>whnf));refine⟨_,hnum , ?_⟩;rintro _ _ _ ⟨gn,lst,cn,rfl,rfl,rfl,hnm,hwf,hky⟩<;>(conv=>whnf))|refine OkM.seq ?_|((first|refine OkM.region tok ?_|refine OkM.cond ?_);conv=>whnf)|refine OkM.block ?_|(refine OkM.skip ?_;conv=>whnf)|(refine Or.inl ?_;(conv=>whnf);refine Or.inl ?_;(conv=>whnf);(repeat (refine aI ?_;conv=>whnf));refine⟨_,hck,rfl,?_⟩;conv=>whnf)|(refine⟨_,_,rfl,rfl,?_⟩;conv=>whnf)|(refine bI ?_ ?_<;>intro<;>first|omega|conv=>whnf)|((first|refine aJ ?_|refine⟨_,rfl,?_⟩);conv=>whnf)|fail)
 rename_i gi hgi;have hN:qm c.b lst:=⟨zJ h2,hnm,hky⟩;have hat:∀ s,s ∈ aP c.b.boxes->∃ p,P[((lk lst s).getD 0).toNat]? = some p/\p.name=s/\lk lst s=some (plc (aP c.b.boxes) s)/\0<=(lk lst s).getD 0/\(lk lst s).getD 0<(P.length:Nat):=by
  intro s hs;obtain⟨_,_,e1,_⟩:=hN.some hs;obtain⟨g0,g1⟩:=rD hs;have g2:=A8 (aP c.b.boxes) s;rw[e1];simp only[Option.getD_some];have hk:(plc (aP c.b.boxes) s).toNat<P.length:=oA;refine⟨P[(plc (aP c.b.boxes) s).toNat],aC hk,?_,trivial,g0,oA⟩;have h3:=congrArg (fun l=>l[(plc (aP c.b.boxes) s).toNat]?) hPn;simp only[aN,aC hk,g1,Option.map_some,Option.some.injEq] at h3;exact h3
 have acL:∀ (k:Nat) p,P[k]? = some p->((bY c.b.boxes).map bP)[k]? = some (bP (p.box,p.inn)):=fun k p h=>by
  rw[hPc,List.map_map,aN,h];rfl
 refine OkM.aT [1,6,7,8,30] [] 2 1 (fun (x:List (List D) × List Nat)=>[]) (fun (x:List (List D) × List Nat) (_:List (List D))=>[c.row]) (fun (x:List (List D) × List Nat) (_:Vx.Rows)=>[some (211,(bY c.b.boxes).map bP),some (147,x.1)]) (fun (x:List (List D) × List Nat)=>[(gi,oN gn cn x.2),(gn,bG D.s fI lst cn)]) (fun (x:List (List D) × List Nat)=>(x.1.length=P.length/\∀ r ∈ x.1,r.length=4)/\∀ e ∈ lst,e.2.2 ∈ x.2->x.1[e.2.1.toNat]? = (P[e.2.1.toNat]?).map Prt.row) (fun (x:List (List D) × List Nat)=>(lst.filter fun e=>decide (e.2.2 ∉ x.2)).length) ((List.replicate (bY c.b.boxes).length UE,[])) (⟨⟨(List.length_replicate ..).trans (hpl.trans hPl.symm),fun r hr=>by rw[(List.mem_replicate.1 hr).2];simp[UE]⟩,fun e _ h=>by cases h⟩) sT ?_;(conv=>whnf);refine⟨by ((conv=>whnf);first|rfl|(simp[ak, au, SI.row, Node.row, Pfx.row, Link.row, aG, Line.row, Rule.row, Box.row, Slc.row, Config.row, bP, Prt.row];done)|(simp[ak, au, SI.row, Node.row, Pfx.row, Link.row, aG, Line.row, Rule.row, Box.row, Slc.row, Config.row, bP, Prt.row];rw[IntKind.wrap_i64];omega)),?_⟩;rintro⟨R,seen⟩ ⟨⟨hRl,hR4⟩,hRs⟩;dsimp only at hRl hR4 hRs ⊢;(conv=>whnf);refine OkM.seq ?_;refine OkM.region tok ?_;(conv=>whnf);refine⟨_,_,inferInstance,_,_,_,_,0,_,_,fun _=>rfl,fun _=>rfl,hwf,rfl,.tail _ (.head _),?_,?_⟩;rotate_left
 . intro e he hns
   have hle:=FX hky he;have heF:e.1 ∈ aP c.b.boxes:=(hN.vN e.1).1 (by rw[hle];rfl);obtain⟨p,hp,UF,h6,h7,h8⟩:=hat e.1 heF;rw[hle] at hp h6 h7 h8;simp only[Option.getD_some] at hp h7 h8;have adl:=acL _ p hp;obtain⟨r0,hr0⟩:∃ r0,R[e.2.1.toNat]? = some r0:=⟨_,aC oA⟩;have hr4:=hR4 r0 (aU hr0);(conv=>whnf)
   repeat' (first|(refine⟨_,_,inferInstance,_,_,_,_,0,_,_,e,fun _=>rfl,fun _=>rfl,hwf,rfl,.tail _ (.head _),he,?_⟩;conv=>whnf)|refine OkM.seq ?_|((first|refine OkM.region tok ?_|refine OkM.aB (Ok.aW (id:=9) tok follows [(7,15,[]),(12,15,[])] [.q 0,.q 1,.q 2,.q 3,.q 4,.q 5,.q 6,.q 7,.q 8,.q 9,.q 10,.q 11,.q 12,.q 13,.q 14,.l 15] kR ?_)|refine OkM.cond ?_);conv=>whnf)|refine OkM.block ?_|((first|refine OkM.skip ?_|refine⟨_,aS,?_⟩|refine aJ ?_|refine⟨_,rfl,?_⟩);conv=>whnf)|fail)
   have hsc:setCells r0 0 [D.s e.1,.i .i64 (p.box:Nat),.b p.inn,.i .i64 (-1)]=p.row:=by
    rw[X4 hr4,<- UF,<- Px 0 c.b.boxes p (aU (by rw[<- hP];exact hp))];rfl
   have hlt:e.2.1.toNat<R.length:=(aK.1 hr0).1;refine⟨(R.set e.2.1.toNat (setCells r0 0 [D.s e.1,.i .i64 (p.box:Nat),.b p.inn,.i .i64 (-1)]),seen++[e.2.2]),DK he hns,⟨⟨by rw[List.length_set];exact hRl,fun r hr=>?_⟩,fun e2 he2 hs2=>?_⟩,List.Sublist.refl _,?_⟩
   . rw[hsc] at hr
     rcases List.mem_or_eq_of_mem_set hr with h|h
     . exact hR4 r h
     . rw[h];rfl
   . dsimp only at hs2 ⊢
     rw[hsc];by_cases hk:e2.2.1.toNat=e.2.1.toNat
     . rw[hk,List.getElem?_set_self hlt,hp]
       rfl
     . rw[List.getElem?_set_ne (Ne.symm hk)]
       rcases bQ.1 hs2 with h|h
       . exact hRs e2 he2 h
       . exact absurd (by rw[born_inj hwf.1 he2 he (List.mem_singleton.1 h)]) hk
   . (conv=>whnf)
     rfl
 . intro hall
   have hRP:R=P.map Prt.row:=by
    apply List.ext_getElem?;intro k;by_cases hk:k<P.length
    . obtain⟨s,hs⟩:∃ s,(aP c.b.boxes)[k]? = some s:=⟨_,aC oA⟩
      obtain⟨p,hp,UF,h6,h7,h8⟩:=hat s (aU hs);obtain⟨n,hm⟩:=JO h6;have h9:=hRs _ hm (hall _ hm);have h10:=DJ hN.nd hs (rD (aU hs)).2;dsimp only at h9;rw[<- h10] at h9;rw[h9,aN]
    . rw[List.getElem?_eq_none oA,List.getElem?_eq_none sO]
   subst hRP;(try (conv=>whnf));repeat' (first|refine OkM.seq ?_|((first|refine OkM.region tok ?_|refine OkM.cond ?_);conv=>whnf)|refine OkM.block ?_|(refine OkM.exit ?_;conv=>whnf)|fail)
   have hw0:P=jT c.b 0:=by rw[hP];rfl
   have hinv:∀ k,(jT c.b k).length=P.length:=fun k=>by rw[DL,hPl]
   rw[hw0] at hinv ⊢;refine OkM.aT [7,8,52,53] [54] 2 1 (fun (k:Nat)=>[.i .i64 (k:Nat)]) (fun (k:Nat) (_:List (List D))=>[c.row]) (fun (k:Nat) (_:Vx.Rows)=>[some (211,(bY c.b.boxes).map bP),some (147,(jT c.b k).map Prt.row)]) (fun (k:Nat)=>[(gn,bG D.s fI lst cn)]) (fun (k:Nat)=>k<=c.links.l.length) (fun (k:Nat)=>c.links.l.length - k) (0) (Nat.zero_le _) sT ?_;(conv=>whnf);refine⟨by ((conv=>whnf);first|rfl|(simp[ak, au, SI.row, Node.row, Pfx.row, Link.row, aG, Line.row, Rule.row, Box.row, Slc.row, Config.row, bP, Prt.row];done)|(simp[ak, au, SI.row, Node.row, Pfx.row, Link.row, aG, Line.row, Rule.row, Box.row, Slc.row, Config.row, bP, Prt.row];rw[IntKind.wrap_i64];omega)),?_⟩;rintro k hk;(conv=>whnf);by_cases hlt:k<c.links.l.length
   . obtain⟨x,hx⟩:∃ x,c.links.l[k]? = some x:=⟨_,aC hlt⟩
     have hxI:c.links.l[((k:Nat):Int).toNat]? = some x:=hx;have hxr:(c.links.l.map Link.row)[((k:Nat):Int).toNat]? = some x.row:=by rw[aN,hxI];rfl
     obtain⟨hxf,hxt⟩:=zQ h4 (aU hx);obtain⟨_,_,_,f1,f2,f3⟩:=hat x.frm hxf;obtain⟨_,_,_,t1,t2,t3⟩:=hat x.dst hxt;have hkl:((lk lst x.frm).getD 0).toNat<(jT c.b k).length:=by rw[DL,<- hPl];omega
     obtain⟨p,hp⟩:∃ p,(jT c.b k)[((lk lst x.frm).getD 0).toNat]? = some p:=⟨_,aC hkl⟩;have adn:((jT c.b k).map Prt.row)[((lk lst x.frm).getD 0).toNat]? = some p.row:=by rw[aN,hp];rfl
     have hwl:((jT c.b k).map Prt.row).length=P.length:=by rw[bV,DL,hPl]
     have hs:=WT (c:=c.b) (k:=k) (x:=x) hx;rw[X3 (p:=p) (by rw[f1] at hp;exact hp)] at hs;have hsc:setCells p.row 3 [fI (lk lst x.dst)]=Prt.row ⟨p.name,p.box,p.inn,plc (aP c.b.boxes) x.dst⟩:=by
      rw[t1];rfl
     have hs2:jT c.b (k+1)=(jT c.b k).set ((lk lst x.frm).getD 0).toNat ⟨p.name,p.box,p.inn,plc (aP c.b.boxes) x.dst⟩:=by
      rw[hs,f1];rfl
     (try (conv=>whnf));repeat' (first|((first|refine st (⟨p.name,p.box,p.inn,plc (aP c.b.boxes) x.dst⟩:Prt) hp (by simp[Prt.row]) hsc ?_|refine⟨_,_,_,_,_,_,_,_,dH,mH,rfl,?_⟩);conv=>whnf)|refine OkM.seq ?_|((first|refine OkM.region tok ?_|refine OkM.cond ?_);conv=>whnf)|refine OkM.block ?_|((first|refine OkM.skip ?_|refine nI ?_|refine ix _ aS ?_);conv=>whnf)|(refine bI ?_ ?_<;>intro<;>first|omega|conv=>whnf)|(refine aJ ?_;conv=>whnf)|fail)
     refine⟨k+1,oA,oA,List.Sublist.refl _,?_⟩;rw[hs2];(conv=>whnf);rfl
   . obtain rfl:k=c.links.l.length:=oA
     (try (conv=>whnf));repeat' (first|refine OkM.seq ?_|((first|refine OkM.region tok ?_|refine OkM.cond ?_|refine OkM.exit ?_|refine OkM.ret ?_);conv=>whnf)|(refine bI ?_ ?_<;>intro<;>first|omega|conv=>whnf)|fail)
     refine Or.inr (Or.inl ?_);(conv=>whnf);exact⟨by rw[show (kL c.b).length=(bY c.b.boxes).length from (DL _ _).trans hpl.symm];rfl,rfl⟩
end Go.Proofs.YtnlingegeangmaaGreatDoor
namespace Go.Proofs.YtnlingegeangmaaGreatDoor
open Go Go.Vx
structure Eg where
 frm:Int
 dst:Int
 cost:Int
 out:Int
def Eg.row(e:Eg):List D:=[.i .i64 e.frm,.i .i64 e.dst,.i .i64 e.cost,.i .i64 e.out]
def BH(c:bC)(k:Int):Int:=(((mQ 0 c.boxes)[k.toNat]?).map fun p=>(p.box:Int)).getD 0
def uX(c:bC)(x:Link):Eg:=⟨BH c (plc (aP c.boxes) x.frm),BH c (plc (aP c.boxes) x.dst),x.cost,plc (aP c.boxes) x.frm⟩
def qC(c:bC)(l:List Link)(k:Int):List Link:=l.filter fun x=>decide (plc (aP c.boxes) x.frm=k)
def xO(c:bC)(l:List Link)(k:Int):List Eg:=(qC c l k).map (uX c)
def jY(c:bC)(n:Nat):List Eg:=(List.range n).flatMap fun i:Nat=>xO c c.links (i:Int)
def dS(c:bC):List Eg:=jY c (aP c.boxes).length
def wL(c:bC)(l:List Link)(k:Int):Option Eg:=((qC c l k).getLast?).map (uX c)
theorem DN(c:bC)(n:Nat):jY c (n+1)=jY c n++xO c c.links n:=by simp[jY,List.range_succ]
theorem X6{c:bC}{l:List Link}{i:Nat}{x:Link}(h:l[i]? = some x)(k:Int):qC c (l.take (i+1)) k=qC c (l.take i) k++if plc (aP c.boxes) x.frm=k then [x] else []:=by
 unfold qC;rw[List.take_add_one,h,List.filter_append];congr 1;by_cases hk:plc (aP c.boxes) x.frm=k<;>simp[hk]
theorem VR{c:bC}{l:List Link}{i:Nat}{x:Link}(h:l[i]? = some x)(k:Int):wL c (l.take (i+1)) k=if k=plc (aP c.boxes) x.frm then some (uX c x) else wL c (l.take i) k:=by
 unfold wL;rw[X6 h];by_cases hk:plc (aP c.boxes) x.frm=k
 . rw[if_pos hk,if_pos hk.symm]
   simp
 . rw[if_neg hk,if_neg (fun e=>hk e.symm),List.append_nil]
theorem Zh(c:bC)(l:List Link)(k:Int):(xO c l k).length<=l.length:=by
 unfold xO qC;rw[bV];exact List.length_filter_le _ _
theorem QH{c:bC}(h:c.links.length<=48):∀ n:Nat,(jY c n).length<=n*48
 | 0=>by simp[jY]
 | n+1=>by
  rw[DN,List.length_append];have h1:=Zh c c.links n;have h2:=QH h n;omega
theorem Zi{c:bC}(h:(lK c).1=0){k:Nat}{x:Link}(hx:c.links[k]? = some x):¬ ∃ y ∈ c.links.take k,y.frm=x.frm:=by
 have h1:=sU h k x hx;intro hy;by_cases e1:dG [x.frm] (dU c) (dQ c) ≠ 0
 . rw[zU e1] at h1;exact e1 h1
 by_cases e2:dG [x.dst] (dQ c) (dU c) ≠ 0
 . rw[Ja e1 e2] at h1;exact e2 h1
 by_cases e3:x.cost<1\/9999<x.cost
 . rw[Oo e1 e2 e3] at h1;cases h1
 . rw[Pv e1 e2 e3 hy] at h1;cases h1
theorem X7{c:bC}(h:(lK c).1=0):c.links.Pairwise fun x y=>plc (aP c.boxes) x.frm ≠ plc (aP c.boxes) y.frm:=by
 rw[List.pairwise_iff_getElem];intro i j hi hj hij he;have hx:c.links[i]? = some c.links[i]:=aC hi;have hy:c.links[j]? = some c.links[j]:=aC hj;refine Zi h hy ⟨c.links[i],?_,?_⟩
 . refine aU (i:=i) ?_
   rw[List.getElem?_take_of_lt hij,hx]
 . obtain⟨_,h1⟩:=rD (zQ h (aU hx)).1
   obtain⟨_,h2⟩:=rD (zQ h (aU hy)).1;rw[he,h2] at h1;exact (Option.some.inj h1).symm
theorem Py{c:bC}(h:(lK c).1=0)(k:Int):xO c c.links k=(wL c c.links k).toList:=by
 unfold xO wL;have h1:(qC c c.links k).Pairwise fun x y=>plc (aP c.boxes) x.frm ≠ plc (aP c.boxes) y.frm:=(X7 h).filter _
 have h2:∀ x ∈ qC c c.links k,plc (aP c.boxes) x.frm=k:=fun x hx=>by simpa using (List.mem_filter.1 hx).2
 generalize qC c c.links k=l at h1 h2
 match l with
 | []=>rfl
 | [x]=>rfl
 | x :: y :: l=>exact absurd ((h2 x sI).trans (h2 y sI).symm) ((List.pairwise_cons.1 h1).1 y sI)
end Go.Proofs.YtnlingegeangmaaGreatDoor
namespace Go.Proofs.YtnlingegeangmaaGreatDoor
open Go Go.Vx
structure Rch where
 node:Int
 far:Int
def Rch.row(r:Rch):List D:=[.i .i64 r.node,.i .i64 r.far]
def ay(x:Int):List D:=[.i .i64 x]
def ig(a b:Rch):Prop:=a.far<b.far
theorem qR:Hp.Swo ig:=⟨fun a=>by unfold ig;omega,fun a b c h1 h2=>by unfold ig at *;omega,fun a b h=>by unfold ig at *;omega⟩
def okE(n:Int)(e:Eg):Prop:=0<=e.frm/\e.frm<n/\0<=e.dst/\e.dst<n/\1<=e.cost/\e.cost<=9999/\0<=e.out/\e.out<48
instance (n:Int) (e:Eg):Decidable (okE n e):=by unfold okE;infer_instance
def okD(n:Int)(d:Int):Prop:=0<=d/\d<n
instance (n:Int) (d:Int):Decidable (okD n d):=by unfold okD;infer_instance
def eP(n:Int)(es:List Eg)(ds:List Int):Int:=
 if 48<es.length\/16<ds.length then 2 else if n<1\/16<n then 1 else if ∀ e ∈ es,okE n e then (if ∀ d ∈ ds,okD n d then 0 else 1) else 81
theorem IC{n:Int}{es:List Eg}{ds:List Int}(h:eP n es ds=0):es.length<=48/\ds.length<=16/\1<=n/\n<=16/\(∀ e ∈ es,okE n e)/\∀ d ∈ ds,okD n d:=by
 unfold eP at h;split at h
 . omega
 split at h
 . omega
 split at h
 . split at h
   . rename_i h1 h2 h3 h4
     exact⟨oA,oA,oA,oA,h3,h4⟩
   . omega
 . omega
structure jk(n:Nat)(es:List Eg)(ds:List Int)(far:List Int):Prop where
 len:far.length=n
 low:∀ (v:Nat) x,far[v]? = some x->x=-1\/0<=x
 dest:∀ d ∈ ds,far[d.toNat]? = some 0
 edge:∀ e ∈ es,∀ y,far[e.dst.toNat]? = some y->0<=y->∃ x,far[e.frm.toNat]? = some x/\0<=x/\x<=y+e.cost
 tight:∀ (v:Nat) x,far[v]? = some x->0<=x->(x=0/\(v:Int) ∈ ds)\/∃ e ∈ es,e.frm=(v:Int)/\∃ y,far[e.dst.toNat]? = some y/\0<=y/\x=y+e.cost
theorem jk.le{n:Nat}{es:List Eg}{ds:List Int}{f g:List Int}(hc:∀ e ∈ es,1<=e.cost)(hf:jk n es ds f)(hg:jk n es ds g):∀ (k:Nat) (v:Nat) x,x.toNat<=k->f[v]? = some x->0<=x->∃ y,g[v]? = some y/\0<=y/\y<=x:=by
 intro k
 induction k with
 | zero=>
  intro v x hx hv h0;rcases hf.tight v x hv h0 with⟨rfl,hd⟩|⟨e,he,hfr,y,hy,hy0,hxy⟩
  . exact⟨0,by have:=hg.dest _ hd;simpa using this,oA,oA⟩
  . have:=hc e he;omega
 | succ k ih=>
  intro v x hx hv h0;rcases hf.tight v x hv h0 with⟨rfl,hd⟩|⟨e,he,hfr,y,hy,hy0,hxy⟩
  . exact⟨0,by have:=hg.dest _ hd;simpa using this,oA,oA⟩
  . have hce:=hc e he
    obtain⟨z,hz,hz0,hzy⟩:=ih e.dst.toNat y oA hy hy0;obtain⟨w,hw,hw0,hwz⟩:=hg.edge e he z hz hz0;refine⟨w,?_,hw0,oA⟩;rw[hfr] at hw;simpa using hw
theorem jk.uniq{n:Nat}{es:List Eg}{ds:List Int}{f g:List Int}(hc:∀ e ∈ es,1<=e.cost)(hf:jk n es ds f)(hg:jk n es ds g):f=g:=by
 apply List.ext_getElem?;intro v;by_cases hv:v<n
 . obtain⟨x,hx⟩:∃ x,f[v]? = some x:=⟨_,aC (by rw[hf.len];exact hv)⟩
   obtain⟨y,hy⟩:∃ y,g[v]? = some y:=⟨_,aC (by rw[hg.len];exact hv)⟩;rw[hx,hy];congr 1;rcases hf.low v x hx with h1|h1<;>rcases hg.low v y hy with h2|h2
   . omega
   . obtain⟨z,hz,hz0,_⟩:=hg.le hc hf _ v y (Nat.le_refl _) hy h2
     rw[hx] at hz;cases hz;omega
   . obtain⟨z,hz,hz0,_⟩:=hf.le hc hg _ v x (Nat.le_refl _) hx h1
     rw[hy] at hz;cases hz;omega
   . obtain⟨z,hz,hz0,hzz⟩:=hg.le hc hf _ v y (Nat.le_refl _) hy h2
     rw[hx] at hz;cases hz;obtain⟨z,hz,hz0,hzz⟩:=hf.le hc hg _ v x (Nat.le_refl _) hx h1;rw[hy] at hz;cases hz;omega
 . rw[List.getElem?_eq_none (by rw[hf.len];omega),List.getElem?_eq_none (by rw[hg.len];omega)]
def Ti(es:List Eg)(far:List Int)(i v:Nat):Prop:=∃ e x y,es[i]? = some e/\e.frm.toNat=v/\far[e.dst.toNat]? = some y/\0<=y/\far[v]? = some x/\x=y+e.cost
def oC(es:List Eg)(far:List Int)(lo hi:Nat)(v:Nat)(p:Int):Prop:=
 (p=-1/\∀ i,lo<=i->i<hi->¬ Ti es far i v)\/∃ i:Nat,p=(i:Int)/\lo<=i/\i<hi/\Ti es far i v/\∀ j,lo<=j->j<i->¬ Ti es far j v
theorem oC.uniq{es:List Eg}{far:List Int}{lo hi v:Nat}{p p':Int}(h:oC es far lo hi v p)(h':oC es far lo hi v p'):p=p':=by
 rcases h with⟨rfl,h⟩|⟨i,rfl,h1,h2,h3,h4⟩<;>rcases h' with⟨rfl,h'⟩|⟨j,rfl,g1,g2,g3,g4⟩
 . rfl
 . exact absurd g3 (h j g1 g2)
 . exact absurd h3 (h' i h1 h2)
 . rcases Nat.lt_trichotomy i j with hh|hh|hh
   . exact absurd h3 (g4 i h1 hh)
   . rw[hh]
   . exact absurd g3 (h4 j g1 hh)
def kZ(n:Nat)(es:List Eg)(far fst:List Int)(lo hi:Nat):Prop:=fst.length=n/\∀ (v:Nat) p,fst[v]? = some p->oC es far lo hi v p
theorem kZ.uniq{n:Nat}{es:List Eg}{far f g:List Int}{lo hi:Nat}(hf:kZ n es far f lo hi)(hg:kZ n es far g lo hi):f=g:=by
 apply List.ext_getElem?;intro v;by_cases hv:v<n
 . obtain⟨x,hx⟩:∃ x,f[v]? = some x:=⟨_,aC (by rw[hf.1];exact hv)⟩
   obtain⟨y,hy⟩:∃ y,g[v]? = some y:=⟨_,aC (by rw[hg.1];exact hv)⟩;rw[hx,hy,(hf.2 v x hx).uniq (hg.2 v y hy)]
 . rw[List.getElem?_eq_none (by rw[hf.1];omega),List.getElem?_eq_none (by rw[hg.1];omega)]
theorem oC.Kv{es:List Eg}{far:List Int}{lo hi v:Nat}{p:Int}(h:oC es far lo hi v p)(hn:¬ Ti es far hi v\/0<=p):oC es far lo (hi+1) v p:=by
 rcases h with⟨rfl,h⟩|⟨i,rfl,h1,h2,h3,h4⟩
 . refine .inl ⟨rfl,fun i h1 h2=>?_⟩
   by_cases hi':i=hi
   . subst hi';exact hn.resolve_right oA
   . exact h i h1 oA
 . exact .inr ⟨i,rfl,h1,oA,h3,h4⟩
theorem oC.Ud{es:List Eg}{far:List Int}{lo hi v:Nat}{p:Int}(h:oC es far lo hi v p)(hp:p<0)(hl:lo<=hi)(ht:Ti es far hi v):oC es far lo (hi+1) v (hi:Int):=by
 rcases h with⟨rfl,h⟩|⟨i,rfl,h1,h2,h3,h4⟩
 . exact .inr ⟨hi,rfl,hl,oA,ht,fun j h1 h2=>h j h1 h2⟩
 . omega
structure Dij(n:Nat)(es:List Eg)(ds:List Int)(far:List Int)(hs:List Rch)(P:Nat->Eg->Prop):Prop where
 len:far.length=n
 low:∀ (v:Nat) x,far[v]? = some x->x=-1\/0<=x
 hin:∀ r ∈ hs,0<=r.node/\r.node<n/\0<=r.far
 src:∀ r ∈ hs,(r.far=0/\r.node ∈ ds)\/∃ e ∈ es,e.frm=r.node/\∃ y,far[e.dst.toNat]? = some y/\0<=y/\r.far=y+e.cost
 tight:∀ (v:Nat) x,far[v]? = some x->0<=x->(x=0/\(v:Int) ∈ ds)\/∃ e ∈ es,e.frm=(v:Int)/\∃ y,far[e.dst.toNat]? = some y/\0<=y/\x=y+e.cost
 mono:∀ (v:Nat) x,far[v]? = some x->0<=x->∀ r ∈ hs,x<=r.far
 dest:∀ d ∈ ds,far[d.toNat]? = some 0\/(far[d.toNat]? = some (-1)/\⟨d,0⟩ ∈ hs)
 edge:∀ (i:Nat) e,es[i]? = some e->P i e->∀ y,far[e.dst.toNat]? = some y->0<=y->(∃ x,far[e.frm.toNat]? = some x/\0<=x/\x<=y+e.cost)\/(far[e.frm.toNat]? = some (-1)/\⟨e.frm,y+e.cost⟩ ∈ hs)
theorem Dij.dist{n:Nat}{es:List Eg}{ds far:List Int}(h:Dij n es ds far [] (fun _ _=>True)):jk n es ds far:=
 ⟨h.len,h.low,fun d hd=>(h.dest d hd).resolve_right sI,fun e he y hy h0=>by
  obtain⟨i,hi⟩:=List.getElem?_of_mem he;exact (h.edge i e hi trivial y hy h0).resolve_right sI,h.tight⟩
theorem Dij.skip{n:Nat}{es:List Eg}{ds far:List Int}{hs hs':List Rch}{r:Rch}{x:Int}(h:Dij n es ds far hs (fun _ _=>True))(hp:hs.Perm (r :: hs'))(hx:far[r.node.toNat]? = some x)(h0:0<=x):Dij n es ds far hs' (fun _ _=>True):=by
 have hsub:∀ s ∈ hs',s ∈ hs:=fun s hs=>hp.symm.subset (by simp[hs])
 have hne:∀ s ∈ hs,far[s.node.toNat]? = some (-1)->s ∈ hs':=fun s hs hn=>by
  rcases List.mem_cons.1 (hp.subset hs) with rfl|h
  . rw[hx] at hn;cases hn;omega
  . exact h
 refine⟨h.len,h.low,fun s hs=>h.hin s (hsub s hs),fun s hs=>h.src s (hsub s hs),h.tight,fun v x hv h0 s hs=>h.mono v x hv h0 s (hsub s hs),fun d hd=>?_,fun i e hi hP y hy hy0=>?_⟩
 . rcases h.dest d hd with h1|⟨h1,h2⟩
   . exact .inl h1
   . exact .inr ⟨h1,hne _ h2 h1⟩
 . rcases h.edge i e hi hP y hy hy0 with h1|⟨h1,h2⟩
   . exact .inl h1
   . exact .inr ⟨h1,hne _ h2 h1⟩
theorem Dij.take{n:Nat}{es:List Eg}{ds far:List Int}{hs hs':List Rch}{r:Rch}(hok:∀ e ∈ es,0<=e.frm/\0<=e.dst)(acM:∀ d ∈ ds,0<=d)(h:Dij n es ds far hs (fun _ _=>True))(hp:hs.Perm (r :: hs'))(hmin:∀ s ∈ hs,r.far<=s.far)(hx:far[r.node.toNat]? = some (-1)) :
    Dij n es ds (far.set r.node.toNat r.far) hs' (fun _ e=>e.dst ≠ r.node)/\∀ (v:Nat) x,(far.set r.node.toNat r.far)[v]? = some x->0<=x->x<=r.far:=by
 have hsub:∀ s ∈ hs',s ∈ hs:=fun s hs=>hp.symm.subset (by simp[hs])
 have hr:r ∈ hs:=hp.symm.subset sI;obtain⟨hn0,hn1,hf0⟩:=h.hin r hr;have hlt:r.node.toNat<far.length:=(aK.1 hx).1;have hset:∀ v:Nat,(far.set r.node.toNat r.far)[v]? = if v=r.node.toNat then some r.far else far[v]?:=fun v=>by
  by_cases hv:v=r.node.toNat
  . rw[if_pos hv,hv,List.getElem?_set_self hlt]
  . rw[if_neg hv,List.getElem?_set_ne (Ne.symm hv)]
 have hother:∀ s ∈ hs,s.node ≠ r.node->s ∈ hs':=fun s hs hn=>by
  rcases List.mem_cons.1 (hp.subset hs) with rfl|h
  . exact absurd rfl hn
  . exact h
 have hkeep:∀ (v:Nat) y,far[v]? = some y->0<=y->(far.set r.node.toNat r.far)[v]? = some y:=fun v y hy h0=>by
  rw[hset,if_neg (fun e=>by subst e;rw[hx] at hy;cases hy;omega)];exact hy
 have hsrc:∀ s ∈ hs,(s.far=0/\s.node ∈ ds)\/∃ e ∈ es,e.frm=s.node/\∃ y,(far.set r.node.toNat r.far)[e.dst.toNat]? = some y/\0<=y/\s.far=y+e.cost:=fun s hs=>by
  rcases h.src s hs with h1|⟨e,he,h1,y,hy,hy0,h2⟩
  . exact .inl h1
  . exact .inr ⟨e,he,h1,y,hkeep _ _ hy hy0,hy0,h2⟩
 refine⟨⟨by simp[h.len],fun v x hv=>?_,fun s hs=>h.hin s (hsub s hs),fun s hs=>hsrc s (hsub s hs),fun v x hv h0=>?_,fun v x hv h0 s hs=>?_,fun d hd=>?_,fun i e hi hP y hy hy0=>?_⟩,fun v x hv h0=>?_⟩
 . rw[hset] at hv
   split at hv
   . cases hv;exact .inr hf0
   . exact h.low v x hv
 . rw[hset] at hv
   split at hv
   . rename_i hvr
     cases hv;have hvn:(v:Int)=r.node:=oA;rcases hsrc r hr with⟨h1,h2⟩|⟨e,he,h1,h2⟩
     . exact .inl ⟨h1,by rw[hvn];exact h2⟩
     . exact .inr ⟨e,he,by rw[hvn];exact h1,h2⟩
   . rcases h.tight v x hv h0 with h1|⟨e,he,h1,y,hy,hy0,h2⟩
     . exact .inl h1
     . exact .inr ⟨e,he,h1,y,hkeep _ _ hy hy0,hy0,h2⟩
 . rw[hset] at hv
   split at hv
   . cases hv;exact hmin s (hsub s hs)
   . exact h.mono v x hv h0 s (hsub s hs)
 . rw[hset]
   split
   . rename_i hdr
     have hd0:=acM d hd;have hdn:d=r.node:=oA;rcases h.dest d hd with h1|⟨h1,h2⟩
     . rw[hdn,hx] at h1;cases h1
     . have:=hmin _ h2
       simp only at this;left;congr 1;omega
   . rename_i hdr
     rcases h.dest d hd with h1|⟨h1,h2⟩
     . exact .inl h1
     . exact .inr ⟨h1,hother _ h2 (fun e=>hdr (by rw[<- e]))⟩
 . have hto:=(hok e (aU hi)).2
   have hfr:=(hok e (aU hi)).1;rw[hset,if_neg (fun hh=>hP oA)] at hy;rw[hset];rcases h.edge i e hi trivial y hy hy0 with⟨x,h1,h2,h3⟩|⟨h1,h2⟩
   . left
     rw[if_neg (fun hh=>by rw[hh,hx] at h1;cases h1;omega)];exact⟨x,h1,h2,h3⟩
   . by_cases hh:e.frm.toNat=r.node.toNat
     . left
       rw[if_pos hh];exact⟨_,rfl,hf0,hmin _ h2⟩
     . rw[if_neg hh]
       exact .inr ⟨h1,hother _ h2 (fun e'=>hh (by rw[<- e']))⟩
 . rw[hset] at hv
   split at hv
   . cases hv;omega
   . exact h.mono v x hv h0 r hr
theorem Dij.push{n:Nat}{es:List Eg}{ds far:List Int}{hs hs':List Rch}{r:Rch}{k:Nat}{e:Eg}(h:Dij n es ds far hs (fun i e=>e.dst=r.node->i<k))(htop:∀ (v:Nat) x,far[v]? = some x->0<=x->x<=r.far)(hr:far[r.node.toNat]? = some r.far)(hr0:0<=r.far)
    (hk:es[k]? = some e)(hc:1<=e.cost)(hf0:0<=e.frm)(hf1:e.frm<n)(hto:e.dst=r.node)(hneg:far[e.frm.toNat]? = some (-1))(hp:hs'.Perm (⟨e.frm,r.far+e.cost⟩ :: hs)):Dij n es ds far hs' (fun i e=>e.dst=r.node->i<k+1):=by
 have hsub:∀ s ∈ hs,s ∈ hs':=fun s hs=>hp.symm.subset (by simp[hs])
 have hall:∀ s ∈ hs',s=⟨e.frm,r.far+e.cost⟩\/s ∈ hs:=fun s hs=>List.mem_cons.1 (hp.subset hs)
 refine⟨h.len,h.low,fun s hs=>?_,fun s hs=>?_,h.tight,fun v x hv h0 s hs=>?_,fun d hd=>?_,fun i e' hi hP y hy hy0=>?_⟩
 . rcases hall s hs with rfl|hs
   . exact⟨hf0,hf1,by dsimp only;omega⟩
   . exact h.hin s hs
 . rcases hall s hs with rfl|hs
   . exact .inr ⟨e,aU hk,rfl,r.far,by rw[hto];exact hr,hr0,rfl⟩
   . exact h.src s hs
 . rcases hall s hs with rfl|hs
   . have:=htop v x hv h0;dsimp only;omega
   . exact h.mono v x hv h0 s hs
 . rcases h.dest d hd with h1|⟨h1,h2⟩
   . exact .inl h1
   . exact .inr ⟨h1,hsub _ h2⟩
 . by_cases hik:i=k
   . subst hik
     rw[hk] at hi;cases hi;rw[hto,hr] at hy;cases hy;exact .inr ⟨hneg,hp.symm.subset sI⟩
   . rcases h.edge i e' hi (fun ht=>by have:=hP ht;omega) y hy hy0 with h1|⟨h1,h2⟩
     . exact .inl h1
     . exact .inr ⟨h1,hsub _ h2⟩
theorem Dij.pass{n:Nat}{es:List Eg}{ds far:List Int}{hs:List Rch}{r:Rch}{k:Nat}{e:Eg}(h:Dij n es ds far hs (fun i e=>e.dst=r.node->i<k))(htop:∀ (v:Nat) x,far[v]? = some x->0<=x->x<=r.far)(hr:far[r.node.toNat]? = some r.far)
    (hk:es[k]? = some e)(hc:1<=e.cost)(hno:e.dst=r.node->∃ x,far[e.frm.toNat]? = some x/\0<=x):Dij n es ds far hs (fun i e=>e.dst=r.node->i<k+1):=by
 refine⟨h.len,h.low,h.hin,h.src,h.tight,h.mono,h.dest,fun i e' hi hP y hy hy0=>?_⟩;by_cases hik:i=k
 . subst hik
   rw[hk] at hi;cases hi;by_cases hto:e.dst=r.node
   . obtain⟨x,hx,hx0⟩:=hno hto
     rw[hto,hr] at hy;cases hy;exact .inl ⟨x,hx,hx0,by have:=htop _ x hx hx0;omega⟩
   . exact h.edge i e hk (fun ht=>absurd ht hto) y hy hy0
 . exact h.edge i e' hi (fun ht=>by have:=hP ht;omega) y hy hy0
theorem Dij.weaken{n:Nat}{es:List Eg}{ds far:List Int}{hs:List Rch}{P P':Nat->Eg->Prop}(h:Dij n es ds far hs P)(hP:∀ i e,es[i]? = some e->P' i e->P i e):Dij n es ds far hs P':=
 ⟨h.len,h.low,h.hin,h.src,h.tight,h.mono,h.dest,fun i e hi hp=>h.edge i e hi (hP i e hi hp)⟩
theorem Dij.start{n:Nat}{es:List Eg}{ds:List Int}{hs:List Rch}(hok:∀ d ∈ ds,0<=d/\d<n)(hp:hs.Perm (ds.map fun d=>⟨d,0⟩)):Dij n es ds (List.replicate n (-1)) hs (fun _ _=>True):=by
 have hm:∀ (v:Nat) x,(List.replicate n (-1:Int))[v]? = some x->x=-1:=fun v x h=>by
  rw[List.getElem?_replicate] at h;split at h
  . cases h;rfl
  . cases h
 have hs2:∀ s ∈ hs,s.far=0/\s.node ∈ ds:=fun s h=>by
  obtain⟨d,hd,rfl⟩:=List.mem_map.1 (hp.subset h);exact⟨rfl,hd⟩
 refine⟨sI,fun v x h=>.inl (hm v x h),fun s h=>?_,fun s h=>.inl (hs2 s h),fun v x h h0=>?_,fun v x h h0=>?_,fun d hd=>.inr ⟨?_,hp.symm.subset (List.mem_map.2 ⟨d,hd,rfl⟩)⟩,fun i e hi _ y hy h0=>?_⟩
 . obtain⟨h1,h2⟩:=hs2 s h
   have:=hok _ h2;exact⟨this.1,this.2,oA⟩
 . have:=hm v x h;omega
 . have:=hm v x h;omega
 . rw[List.getElem?_replicate,if_pos (by have:=hok d hd;omega)]
 . have:=hm _ y hy;omega
theorem VT{n:Int}{es:List Eg}{ds:List Int}(h1:es.length<=48)(h2:ds.length<=16)(h3:1<=n)(h4:n<=16){e:Eg}(he:e ∈ es)(hn:¬ okE n e):eP n es ds=81:=by
 unfold eP;rw[if_neg oA,if_neg oA,if_neg (fun h=>hn (h e he))]
theorem VU{n:Int}{es:List Eg}{ds:List Int}(h1:es.length<=48)(h2:ds.length<=16)(h3:1<=n)(h4:n<=16)(hE:∀ e ∈ es,okE n e){d:Int}(hd:d ∈ ds)(hn:¬ okD n d):eP n es ds=1:=by
 unfold eP;rw[if_neg oA,if_neg oA,if_pos hE,if_neg (fun h=>hn (h d hd))]
theorem VW{n:Int}{es:List Eg}{ds:List Int}(h1:es.length<=48)(h2:ds.length<=16)(h3:1<=n)(h4:n<=16)(hE:∀ e ∈ es,okE n e)(hD:∀ d ∈ ds,okD n d):eP n es ds=0:=by
 unfold eP;rw[if_neg oA,if_neg oA,if_pos hE,if_pos hD]
theorem QI{α:Type}{l:List α}{p:α->Prop}{k:Nat}{a:α}(h:∀ x ∈ l.take k,p x)(ha:l[k]? = some a)(hp:p a):∀ x ∈ l.take (k+1),p x:=by
 intro x hx;rw[List.take_add_one,ha] at hx;rcases bQ.1 hx with hx|hx
 . exact h x hx
 . simp at hx;rw[hx];exact hp
theorem Zj(n:Int)(es:List Eg)(ds:List Int){re se rd sd:List (List D)}(he:re=es.map Eg.row)(hd:rd=ds.map ay):aF Tryz.prog T 110 [.i .i64 n,.lst 122 re se,.lst 3 rd sd] (fun d _=>d = .i .i64 (eP n es ds)):=by
 subst he hd;have hel:(es.map Eg.row).length=es.length:=sI;have hdl:(ds.map ay).length=ds.length:=sI;refine aF.aB tok Tryz.func110 rfl Tryz.call110 sI ?_;by_cases h1:48<es.length\/16<ds.length
 . have hg:eP n es ds=2:=by unfold eP;rw[if_pos h1]
   (try (conv=>whnf));repeat' (first|refine Ok.seq ?_|((first|refine Ok.region tok ?_|refine Ok.cond ?_|refine Ok.ret ?_);conv=>whnf)|(refine bI ?_ ?_<;>intro<;>first|omega|conv=>whnf)|fail)
   all_goals try (refine Or.inl ?_;(conv=>whnf);rw[hg];rfl)
 have h1a:es.length<=48:=oA;have h1b:ds.length<=16:=oA;by_cases h2:n<1\/16<n
 . have hg:eP n es ds=1:=by unfold eP;rw[if_neg h1,if_pos h2]
   (try (conv=>whnf));repeat' (first|refine Ok.seq ?_|((first|refine Ok.region tok ?_|refine Ok.cond ?_|refine Ok.skip ?_|refine Ok.ret ?_);conv=>whnf)|(refine bI ?_ ?_<;>intro<;>first|omega|conv=>whnf)|fail)
   all_goals try (refine Or.inl ?_;(conv=>whnf);rw[hg];rfl)
 (try (conv=>whnf));repeat' (first|refine Ok.seq ?_|((first|refine Ok.region tok ?_|refine Ok.cond ?_);conv=>whnf)|refine Ok.block ?_|(refine Ok.skip ?_;conv=>whnf)|(refine bI ?_ ?_<;>intro<;>first|omega|conv=>whnf)|fail)
 refine Ok.aT [0,2,25,26] [27] 0 0 (fun (k:Nat)=>[.i .i64 (k:Nat)]) (fun _ b=>b) (fun _ r=>r) (fun (k:Nat)=>k<=es.length/\∀ e ∈ es.take k,okE n e) (fun (k:Nat)=>es.length - k) (0) (⟨Nat.zero_le _,sI⟩) ?_;(conv=>whnf);refine⟨by ((conv=>whnf);first|rfl|(simp[ak,au,Eg.row,ay];done)|(simp[ak,au,Eg.row,ay];rw[IntKind.wrap_i64];omega)),?_⟩;rintro k ⟨hk,ha⟩;by_cases hkl:k<es.length
 . obtain⟨e,hke⟩:∃ e,es[k]? = some e:=⟨_,aC hkl⟩
   have hbad:¬ okE n e->eP n es ds=81:=VT h1a h1b oA oA (aU hke);(try (conv=>whnf));repeat' (first|refine Ok.seq ?_|((first|refine Ok.region tok ?_|refine Ok.cond ?_);conv=>whnf)|refine Ok.block ?_|((first|refine Ok.skip ?_|refine Ok.ret ?_|refine nI ?_|refine ix _ aS ?_);conv=>whnf)|(refine bI ?_ ?_<;>intro<;>first|omega|conv=>whnf)|fail)
   all_goals first
    | (refine⟨k+1,oA,⟨oA,QI ha hke (by unfold okE;omega)⟩,?_⟩;(conv=>whnf);(first|rfl|simp[ak,au,Eg.row,ay]))
    | (refine Or.inl ?_;(conv=>whnf);rw[hbad (by unfold okE;omega)];rfl)
 . have hkk:k=es.length:=oA
   subst hkk;rw[List.take_length] at ha;(try (conv=>whnf));repeat' (first|refine Ok.seq ?_|((first|refine Ok.region tok ?_|refine Ok.cond ?_);conv=>whnf)|refine Ok.block ?_|(refine Ok.exit ?_;conv=>whnf)|(refine bI ?_ ?_<;>intro<;>first|omega|conv=>whnf)|fail)
   refine Ok.aT [0,72,73] [74] 0 0 (fun (k:Nat)=>[.i .i64 (k:Nat)]) (fun _ b=>b) (fun _ r=>r) (fun (k:Nat)=>k<=ds.length/\∀ e ∈ ds.take k,okD n e) (fun (k:Nat)=>ds.length - k) (0) (⟨Nat.zero_le _,sI⟩) ?_;(conv=>whnf);refine⟨by ((conv=>whnf);first|rfl|(simp[ak,au,Eg.row,ay];done)|(simp[ak,au,Eg.row,ay];rw[IntKind.wrap_i64];omega)),?_⟩;rintro k ⟨hk,hb⟩;by_cases hkl:k<ds.length
   . obtain⟨d,hkd⟩:∃ e,ds[k]? = some e:=⟨_,aC hkl⟩
     have hbad:¬ okD n d->eP n es ds=1:=VU h1a h1b oA oA ha (aU hkd);(try (conv=>whnf));repeat' (first|refine Ok.seq ?_|((first|refine Ok.region tok ?_|refine Ok.cond ?_);conv=>whnf)|refine Ok.block ?_|((first|refine Ok.skip ?_|refine Ok.ret ?_|refine nI ?_|refine ix _ aS ?_);conv=>whnf)|(refine bI ?_ ?_<;>intro<;>first|omega|conv=>whnf)|fail)
     all_goals first
      | (refine⟨k+1,oA,⟨oA,QI hb hkd (by unfold okD;omega)⟩,?_⟩;(conv=>whnf);(first|rfl|simp[ak,au,Eg.row,ay]))
      | (refine Or.inl ?_;(conv=>whnf);rw[hbad (by unfold okD;omega)];rfl)
   . have hkk:k=ds.length:=oA
     subst hkk;rw[List.take_length] at hb;(try (conv=>whnf));repeat' (first|refine Ok.seq ?_|((first|refine Ok.region tok ?_|refine Ok.cond ?_|refine Ok.exit ?_|refine Ok.ret ?_);conv=>whnf)|(refine bI ?_ ?_<;>intro<;>first|omega|conv=>whnf)|fail)
     refine Or.inl ?_;(conv=>whnf);rw[VW h1a h1b oA oA ha hb];rfl
theorem Ho(rows room:List (List D))(a b:Rch):aF Tryz.prog T 111 [.lst 3 rows room,.agg a.row,.agg b.row] (fun d _=>d = .b (ig a b)):=by
 refine aF.aB tok Tryz.func111 rfl Tryz.call111 sI ?_;(try (conv=>whnf));repeat' (first|refine Ok.seq ?_|((first|refine Ok.region tok ?_|refine Ok.ret ?_);conv=>whnf)|fail)
 refine Or.inl ?_;(conv=>whnf);exact qw Iff.rfl
end Go.Proofs.YtnlingegeangmaaGreatDoor
namespace Go.Proofs.YtnlingegeangmaaGreatDoor
open Go Go.Vx
open Classical in
noncomputable def BI(n:Nat)(es:List Eg)(ds:List Int):List Int:=if h:∃ f,jk n es ds f then h.choose else []
open Classical in
noncomputable def Gs(n:Nat)(es:List Eg)(far:List Int):List Int:=if h:∃ f,kZ n es far f 0 es.length then h.choose else []
theorem yG{n:Nat}{es:List Eg}{ds f:List Int}(hc:∀ e ∈ es,1<=e.cost)(h:jk n es ds f):BI n es ds=f:=by
 unfold BI;rw[dif_pos ⟨f,h⟩];exact jk.uniq hc (Exists.choose_spec (⟨f,h⟩:∃ f,jk n es ds f)) h
theorem JA{n:Nat}{es:List Eg}{far f:List Int}(h:kZ n es far f 0 es.length):Gs n es far=f:=by
 unfold Gs;rw[dif_pos ⟨f,h⟩];exact kZ.uniq (Exists.choose_spec (⟨f,h⟩:∃ f,kZ n es far f 0 es.length)) h
noncomputable def fJ(n:Int)(es:List Eg)(ds:List Int):List Int:=if eP n es ds ≠ 0 then [] else BI n.toNat es ds
noncomputable def fA(n:Int)(es:List Eg)(ds:List Int):List Int:=if eP n es ds ≠ 0 then [] else Gs n.toNat es (BI n.toNat es ds)
def unf(far:List Int):Nat:=far.countP fun x=>decide (x<0)
theorem JB:∀ (far:List Int) (i:Nat) (y:Int),far[i]? = some (-1)->0<=y->unf (far.set i y)+1=unf far
 | [],i,y,h,_=>by simp at h
 | x :: far,0,y,h,h0=>by
  simp at h;subst h;unfold unf;rw[List.set_cons_zero,List.countP_cons,List.countP_cons];have h2:¬ y<0:=oA;simp[h2]
 | x :: far,i+1,y,h,h0=>by
  have ih:=JB far i y (by simpa using h) h0;unfold unf at *;rw[List.set_cons_succ,List.countP_cons,List.countP_cons];omega
theorem abD(far:List Int):unf far<=far.length:=List.countP_le_length
theorem aaL(N:Nat):unf (List.replicate N (-1))=N:=by
 unfold unf;rw[List.countP_replicate];simp
theorem aaM{N k:Nat}(h:k<N):(List.replicate k (-1:Int)++List.replicate (N - k) 0).set k (-1)=List.replicate (k+1) (-1)++List.replicate (N - (k+1)) 0:=by
 apply List.ext_getElem?;intro i;rw[List.getElem?_set];simp only[List.getElem?_append,List.getElem?_replicate,List.length_append,List.length_replicate]
 repeat' split
 all_goals first|rfl|omega|(congr 1;omega)
theorem abE{N k:Nat}(h:k<N):(List.replicate k (-1:Int)++List.replicate (N - k) 0)[k]? = some 0:=by
 rw[List.getElem?_append_right sI,List.getElem?_replicate];simp;omega
theorem Dl(n:Int)(es:List Eg)(ds:List Int){re se rd sd:List (List D)}(he:re=es.map Eg.row)(hd:rd=ds.map ay):aF Tryz.prog T 61 [.i .i64 n,.lst 122 re se,.lst 3 rd sd]
    (fun d rows=>rows=[some (3,(fJ n es ds).map ay),some (3,(fA n es ds).map ay)]/\d = .tup [.own 0 (fJ n es ds).length,.own 1 (fA n es ds).length,.i .i64 (eP n es ds)]):=by
 subst he hd;have hel:(es.map Eg.row).length=es.length:=sI;have hdl:(ds.map ay).length=ds.length:=sI;refine aF.aB tok Tryz.func61 rfl Tryz.call61 sI ?_;(try (conv=>whnf));repeat' (first|refine Ok.seq ?_|((first|refine Ok.region tok ?_|refine Ok.cond ?_|refine Ok.skip ?_|refine Ok.ret ?_);conv=>whnf)|(refine Or.inl ?_;(conv=>whnf);(repeat (refine aI ?_;conv=>whnf));refine⟨_,Zj n es ds rfl rfl,rfl,?_⟩;conv=>whnf)|(refine bI ?_ ?_<;>intro<;>first|omega|conv=>whnf)|fail)
 . rename_i h1
   refine Or.inr (Or.inr ?_);(conv=>whnf);simp[iE,fJ,fA,h1]
 rename_i h1;have h1:eP n es ds=0:=Classical.not_not.1 h1;obtain⟨g1,g2,g3,g4,hE,hD⟩:=IC h1;obtain⟨N,rfl⟩:=Int.eq_ofNat_of_zero_le (show 0<=n by omega);refine Ok.abS [0,1,2] [10,11] 4 0 (fun _:Unit=>[.own 2 N,.own 3 N]) (fun _=>[]) (fun _=>[none,none,some (3,(List.replicate N 0).map ay),some (3,(List.replicate N 0).map ay)]) (fun e _=>e = .normal) ?_;(conv=>whnf);refine And.intro ?_ ?_
 . (try (conv=>whnf));repeat' (first|((first|refine Ok.dP (id:=4) tok follows [] (.q 0 (.q 2 (.alt 1 (.q 4 (.l 3 (.q 5 .nil))) (.alt 3 (.l 1 (.q 4 (.q 5 .nil))) .nil)))) kR ?_|refine⟨_,_,rfl,rfl,?_⟩|refine aJ ?_|refine⟨_,rfl,?_⟩);conv=>whnf)|(exact True.intro)|(refine And.intro ?_ ?_<;>(conv=>whnf))|fail)
   all_goals first
    | (refine⟨(),rfl,[0,1],?_⟩;(conv=>whnf);simp[ak,ay];done)
    | (refine⟨(),rfl,[1,0],?_⟩;(conv=>whnf);simp[ak,ay];done)
 rintro _ _ rfl;(try (conv=>whnf));repeat' (first|refine Ok.seq ?_|(refine Ok.region tok ?_;conv=>whnf)|refine Ok.block ?_|fail)
 refine Ok.aT [1,2,10,11,32] [33] 4 0 (fun (k:Nat)=>[.i .i64 (k:Nat)]) (fun _ b=>b) (fun (k:Nat) (_:Vx.Rows)=>[none,none,some (3,(List.replicate k (-1)++List.replicate (N - k) 0).map ay),some (3,(List.replicate k (-1)++List.replicate (N - k) 0).map ay)]) (fun (k:Nat)=>k<=N) (fun (k:Nat)=>N - k) (0) (Nat.zero_le _) ?_;(conv=>whnf);refine⟨by ((conv=>whnf);first|rfl|(simp[ak,au,Eg.row,ay,Rch.row];done)|(simp[ak,au,Eg.row,ay,Rch.row];rw[IntKind.wrap_i64];omega)),?_⟩;rintro k hk;have hrl:((List.replicate k (-1)++List.replicate (N - k) 0).map ay).length=N:=by simp;omega
 by_cases hkN:k<N
 . have hat:=abE hkN
   (try (conv=>whnf));repeat' (first|refine Ok.seq ?_|((first|refine Ok.region tok ?_|refine Ok.cond ?_);conv=>whnf)|refine Ok.block ?_|(refine Ok.skip ?_;conv=>whnf)|(refine bI ?_ ?_<;>intro<;>first|omega|conv=>whnf)|(refine aJ ?_;conv=>whnf)|fail)
   refine st (-1) hat (by simp[ay]) (by simp[setCells,ay]) ?_;(try (conv=>whnf));repeat' (first|(refine aJ ?_;conv=>whnf)|fail)
   refine st (-1) hat (by simp[ay]) (by simp[setCells,ay]) ?_;(try (conv=>whnf));repeat' (first|((first|refine Ok.region tok ?_|refine nI ?_);conv=>whnf)|fail)
   refine⟨k+1,oA,oA,?_⟩;(conv=>whnf);simp[ak,aaM hkN]
 obtain rfl:N=k:=oA;have hrep:List.replicate N (-1)++List.replicate (N - N) 0=List.replicate N (-1:Int):=sI;rw[hrep];clear hrep hrl;have hrl:((List.replicate N (-1)).map ay).length=N:=sI;(try (conv=>whnf));repeat' (first|refine Ok.seq ?_|((first|refine Ok.region tok ?_|refine Ok.cond ?_|refine Ok.exit ?_);conv=>whnf)|(refine bI ?_ ?_<;>intro<;>first|omega|conv=>whnf)|fail)
 refine Or.inr ?_;(try (conv=>whnf));repeat' (first|refine Ok.seq ?_|(refine Ok.region tok ?_;conv=>whnf)|refine Ok.block ?_|fail)
 refine Ok.oG 0 0 185 rfl rfl ?_;(conv=>whnf);refine Ok.aT [1,10,11,13,46,47] [48] 5 1 (fun (x:Nat × List Rch)=>[.i .i64 (x.1:Nat)]) (fun (x:Nat × List Rch) (_:List (List D))=>[[.own 4 x.2.length,.fnh 111 [.own 2 N] []]]) (fun (x:Nat × List Rch) (_:Vx.Rows)=>[none,none,some (3,(List.replicate N (-1)).map ay),some (3,(List.replicate N (-1)).map ay),some (185,x.2.map Rch.row)]) (fun (x:Nat × List Rch)=>x.1<=ds.length/\x.2.Perm ((ds.take x.1).map fun d=>⟨d,0⟩)/\Hp.Heap ig x.2) (fun (x:Nat × List Rch)=>ds.length - x.1) ((0,[])) (⟨Nat.zero_le _,sI,fun j _ a b h=>by simp at h⟩) ?_;(conv=>whnf);refine⟨by ((conv=>whnf);first|rfl|(simp[ak,au,Eg.row,ay,Rch.row];done)|(simp[ak,au,Eg.row,ay,Rch.row];rw[IntKind.wrap_i64];omega)),?_⟩;rintro⟨k,hs⟩ ⟨hk,hp,hh⟩;dsimp only at hk hp hh ⊢;by_cases hkd:k<ds.length
 . obtain⟨d,hd⟩:∃ d,ds[k]? = some d:=⟨_,aC hkd⟩
   (try (conv=>whnf));repeat' (first|refine Ok.seq ?_|((first|refine Ok.region tok ?_|refine Ok.cond ?_);conv=>whnf)|refine Ok.block ?_|((first|refine Ok.skip ?_|refine ix _ aS ?_);conv=>whnf)|(refine bI ?_ ?_<;>intro<;>first|omega|conv=>whnf)|fail)
   refine Or.inr (Or.inr (Or.inl ?_));(conv=>whnf);refine⟨_,_,Tryz.func112,rfl,Tryz.call112,?_⟩;(conv=>whnf);refine Ok.wS [75,84,85,87,120,121,122] [] 5 1 (fun (zs:List Rch)=>[]) (fun (zs:List Rch) (_:List (List D))=>[[.own 4 zs.length,.fnh 111 [.own 2 N] []]]) (fun (zs:List Rch) (_:Vx.Rows)=>[none,none,some (3,(List.replicate N (-1)).map ay),some (3,(List.replicate N (-1)).map ay),some (185,zs.map Rch.row)]) (fun e (zs:List Rch)=>(e = .normal\/e = .ret)/\zs.Perm (hs++[⟨d,0⟩])/\Hp.Heap ig zs) ?_;(conv=>whnf);refine And.intro ?_ ?_
   . have hsl0:(hs.map Rch.row).length=hs.length:=sI
     have hpl0:hs.length<=16:=by have:=hp.length_eq;simp at this;omega
     (try (conv=>whnf));repeat' (first|refine Ok.seq ?_|((first|refine Ok.region tok ?_|refine Ok.aW (id:=1) tok follows [(5,6,[]),(4,7,[]),(5,7,[6]),(6,7,[]),(4,10,[]),(5,10,[]),(6,10,[]),(7,10,[])] [.q 0,.q 1,.q 2,.q 3,.q 4,.q 5,.l 6,.l 7,.q 8,.q 9,.l 10] kR ?_);conv=>whnf)|refine Ok.block ?_|((first|refine bU.l (aI ?_)|refine⟨_,.inl ⟨rfl,rfl⟩,?_⟩|refine⟨_,_,rfl,rfl,?_⟩|refine aJ ?_|refine jh ?_);conv=>whnf)|fail)
     refine Ok.aT [0,75,84,85,87,120,121,122] [4] 5 1 (fun (y:Nat × List Rch)=>[.i .i64 (y.1:Nat)]) (fun (y:Nat × List Rch) (_:List (List D))=>[[.own 4 y.2.length,.fnh 111 [.own 2 N] []]]) (fun (y:Nat × List Rch) (_:Vx.Rows)=>[none,none,some (3,(List.replicate N (-1)).map ay),some (3,(List.replicate N (-1)).map ay),some (185,y.2.map Rch.row)]) (fun (y:Nat × List Rch)=>y.1<y.2.length/\y.2.Perm (hs++[⟨d,0⟩])/\Hp.uz ig y.2 y.1) (fun (y:Nat × List Rch)=>y.1) ((hs.length,hs++[⟨d,0⟩])) (⟨sI,.refl _,Hp.Hy hh _⟩) ?_;(conv=>whnf);refine⟨by ((conv=>whnf);first|rfl|(simp[ak,au,Eg.row,ay,Rch.row];done)|(simp[ak,au,Eg.row,ay,Rch.row];rw[IntKind.wrap_i64];omega)),?_⟩;rintro⟨i,us⟩ ⟨hi,hup,hux⟩;dsimp only at hi hup hux ⊢;have UG:(us.map Rch.row).length=us.length:=sI;have acN:us.length=hs.length+1:=by rw[hup.length_eq];simp
     obtain⟨a,ha⟩:∃ a,us[i]? = some a:=⟨_,aC hi⟩;by_cases hi0:0<i
     . obtain⟨u,hu⟩:∃ u,u=(i - 1) / 2:=⟨_,rfl⟩
       have htd:IntKind.i64.wrap (((i:Int) - 1).tdiv 2)=(u:Int):=by
        rw[Int.tdiv_eq_ediv_of_nonneg oA,IntKind.wrap_i64];omega
       obtain⟨b,hb⟩:∃ b,us[u]? = some b:=⟨_,aC oA⟩;have hne:i ≠ u:=oA;have hb':(us.set i b)[u]? = some b:=by rw[List.getElem?_set_ne hne];exact hb
       have hsl1:((us.set i b).map Rch.row).length=us.length:=sI;(try (conv=>whnf));repeat' (first|refine Ok.seq ?_|((first|refine Ok.region tok ?_|refine Ok.aW (id:=6) tok follows [(3,25,[]),(8,25,[]),(13,25,[]),(16,25,[]),(20,25,[]),(23,25,[]),(3,27,[]),(8,27,[]),(13,27,[]),(16,27,[]),(20,27,[]),(23,27,[]),(25,27,[])] [.q 0,.q 1,.q 2,.q 3,.q 4,.q 5,.q 6,.q 7,.q 8,.q 9,.q 10,.q 11,.q 12,.q 13,.q 14,.q 15,.q 16,.q 17,.q 18,.q 19,.q 20,.q 21,.q 22,.q 23,.q 24,.l 25,.q 26,.l 27] kR ?_|refine⟨_,(htd).symm,?_⟩|refine Ok.bH tok follows kR ?_|refine Ok.cond ?_);conv=>whnf)|refine Ok.block ?_|((first|refine Ok.skip ?_|refine Ok.ret ?_|refine nI ?_|refine⟨_,Ho _ _ a b,rfl,?_⟩|refine rd rfl aS ?_);conv=>whnf)|(refine bI ?_ ?_<;>intro<;>first|omega|conv=>whnf)|(refine aJ ?_;conv=>whnf)|fail)
       . rename_i h3
         refine⟨us,⟨.inr rfl,hup,Hp.HY hux ha (by rw[<- hu];exact hb) h3⟩,?_⟩;(conv=>whnf);(first|rfl|simp[ak,au,Eg.row,ay,Rch.row])
       . rename_i h3
         have h3:ig a b:=Classical.not_not.1 h3;refine st b ha (by simp[Rch.row]) (by simp[setCells,Rch.row]) ?_;(try (conv=>whnf));repeat' (first|(refine aJ ?_;conv=>whnf)|fail)
         refine st a hb' (by simp[Rch.row]) (by simp[setCells,Rch.row]) ?_;(try (conv=>whnf));repeat' (first|(refine Ok.region tok ?_;conv=>whnf)|fail)
         refine⟨(u,Hp.swp us i u a b),by dsimp only;omega,⟨by rw[Hp.vw];dsimp only;omega,(Hp.zX ha hb hne).trans hup,by dsimp only;rw[hu] at hb ⊢;exact Hp.IL qR hux hi0 ha hb h3⟩,?_⟩;(conv=>whnf);simp[ak,Hp.swp]
     . have hi0:i=0:=oA
       subst hi0;(try (conv=>whnf));repeat' (first|refine Ok.seq ?_|((first|refine Ok.region tok ?_|refine Ok.cond ?_|refine Ok.exit ?_);conv=>whnf)|(refine bI ?_ ?_<;>intro<;>first|omega|conv=>whnf)|fail)
       refine⟨us,⟨.inl rfl,hup,Hp.Hz hux⟩,?_⟩;(conv=>whnf);(first|rfl|simp[ak,au,Eg.row,ay,Rch.row])
   . rintro e zs ⟨he,hp2,hh2⟩
     rcases he with rfl|rfl
     all_goals
      (try (conv=>whnf));repeat' (first|((first|refine Ok.region tok ?_|refine nI ?_);conv=>whnf)|fail)
      refine⟨(k+1,zs),by dsimp only;omega,⟨by dsimp only;omega,?_,hh2⟩,?_⟩
      . dsimp only
        rw[List.take_add_one,hd,List.map_append];exact hp2.trans (hp.append_right _)
      . (conv=>whnf);(first|rfl|simp[ak,au,Eg.row,ay,Rch.row])
 have hkk:k=ds.length:=oA;subst hkk;rw[List.take_length] at hp;have kS:Dij N es ds (List.replicate N (-1)) hs (fun _ _=>True):=Dij.start (fun d hd=>hD d hd) hp;have hc1:∀ e ∈ es,1<=e.cost:=fun e he=>(hE e he).2.2.2.2.1
 (try (conv=>whnf));repeat' (first|refine Ok.seq ?_|((first|refine Ok.region tok ?_|refine Ok.cond ?_);conv=>whnf)|refine Ok.block ?_|(refine Ok.exit ?_;conv=>whnf)|(refine bI ?_ ?_<;>intro<;>first|omega|conv=>whnf)|fail)
 refine Ok.wS [1,10,11] [] 4 0 (fun (far:List Int)=>[]) (fun (far:List Int) (_:List (List D))=>[]) (fun (far:List Int) (_:Vx.Rows)=>[none,none,some (3,far.map ay),some (3,(List.replicate N (-1)).map ay)]) (fun e (far:List Int)=>e = .exit 4/\jk N es ds far/\(∀ (v:Nat) x,far[v]? = some x->x<=160000)) ?_;(conv=>whnf);refine And.intro ?_ ?_
 . refine Ok.aT [1,10,11,13] [] 5 1 (fun (x:List Int × List Rch)=>[]) (fun (x:List Int × List Rch) (_:List (List D))=>[[.own 4 x.2.length,.fnh 111 [.own 2 N] []]]) (fun (x:List Int × List Rch) (_:Vx.Rows)=>[none,none,some (3,x.1.map ay),some (3,(List.replicate N (-1)).map ay),some (185,x.2.map Rch.row)]) (fun (x:List Int × List Rch)=>Dij N es ds x.1 x.2 (fun _ _=>True)/\Hp.Heap ig x.2/\(∀ r ∈ x.2,r.far<=9999*((N - unf x.1:Nat):Int))/\x.2.length+unf x.1*(es.length+1)<=1000/\(∀ (v:Nat) y,x.1[v]? = some y->y<=9999*((N - unf x.1:Nat):Int))) (fun (x:List Int × List Rch)=>x.2.length+unf x.1*(es.length+1)) ((List.replicate N (-1),hs)) (⟨kS,hh,fun r hr=>by obtain⟨d,_,rfl⟩:=List.mem_map.1 (hp.subset hr);dsimp only;omega,by dsimp only;rw[aaL];have:=hp.length_eq;simp at this;have h16:N*(es.length+1)<=16*49:=Nat.mul_le_mul oA oA;omega,fun v y hv=>by simp[List.getElem?_replicate] at hv;omega⟩) ?_;(conv=>whnf);refine⟨by ((conv=>whnf);first|rfl|(simp[ak,au,Eg.row,ay,Rch.row];done)|(simp[ak,au,Eg.row,ay,Rch.row];rw[IntKind.wrap_i64];omega)),?_⟩
   clear hh hp kS;rintro⟨far,hs⟩ ⟨kS,hh,hbd,hsz,hfb⟩;dsimp only at kS hh hbd hsz hfb ⊢;have hfl:(far.map ay).length=N:=by simp[kS.len]
   by_cases h0:0<hs.length
   . (try (conv=>whnf));repeat' (first|refine Ok.seq ?_|((first|refine Ok.region tok ?_|refine Ok.cond ?_);conv=>whnf)|refine Ok.block ?_|(refine Ok.skip ?_;conv=>whnf)|(refine bI ?_ ?_<;>intro<;>first|omega|conv=>whnf)|fail)
     refine Or.inr (Or.inr (Or.inl ?_));(conv=>whnf);refine⟨_,_,Tryz.func113,rfl,Tryz.call113,?_⟩;(conv=>whnf);refine Ok.abT [109,118,119,121] [2] 5 1 5 2 (fun (x:Rch × List Rch)=>[.bp 1 0]) (fun (x:Rch × List Rch)=>[[.own 4 x.2.length,.fnh 111 [.own 2 N] []],x.1.row]) (fun (x:Rch × List Rch)=>[none,none,some (3,far.map ay),some (3,(List.replicate N (-1)).map ay),some (185,x.2.map Rch.row)]) (fun e (x:Rch × List Rch)=>e = .ret/\(x.1 :: x.2).Perm hs/\(∀ b ∈ hs,¬ ig b x.1)/\Hp.Heap ig x.2) ?_;(conv=>whnf);refine And.intro ?_ ?_
     . have UG:(hs.map Rch.row).length=hs.length:=sI
       obtain⟨a,ha⟩:∃ a,hs[0]? = some a:=⟨_,aC h0⟩;obtain⟨b,hb⟩:∃ b,hs[hs.length - 1]? = some b:=⟨_,aC oA⟩;have e1:((hs.length:Int) - 1).toNat=hs.length - 1:=oA;have hb2:hs[((hs.length:Int) - 1).toNat]? = some b:=by rw[e1];exact hb
       have ac4:((hs.set 0 b).map Rch.row).length=hs.length:=sI;(try (conv=>whnf));repeat' (first|refine Ok.seq ?_|((first|refine Ok.region tok ?_|refine Ok.aW (id:=1) tok follows [(3,13,[]),(5,13,[]),(12,13,[])] [.q 0,.q 1,.q 2,.q 3,.q 4,.q 5,.q 6,.q 7,.q 8,.q 9,.q 10,.q 11,.l 12,.l 13,.q 14] kR ?_|refine Ok.aW (id:=2) tok follows [(3,12,[]),(7,12,[]),(10,12,[])] [.q 0,.q 1,.q 2,.q 3,.q 4,.q 5,.q 6,.q 7,.q 8,.q 9,.q 10,.q 11,.l 12] kR ?_|refine nI ?_|refine rd rfl aS ?_|refine aJ ?_);conv=>whnf)|fail)
       refine st b ha (by simp[Rch.row]) (by simp[setCells,Rch.row]) ?_;(try (conv=>whnf));repeat' (first|refine Ok.seq ?_|(refine Ok.region tok ?_;conv=>whnf)|fail)
       refine⟨hs.length - 1,rfl,by show ((hs.length:Int) - 1)=_;omega,sI,?_⟩;(try (conv=>whnf));repeat' (first|refine Ok.seq ?_|(refine Ok.region tok ?_;conv=>whnf)|refine Ok.block ?_|fail)
       obtain⟨vs,hvs⟩:∃ vs,vs=(hs.set 0 b).take (hs.length - 1):=⟨_,rfl⟩;have hvl:vs.length=hs.length - 1:=by rw[hvs];simp
       have hvp:(a :: vs).Perm hs:=by rw[hvs];exact Hp.P5 ha hb
       have hvd:Hp.uD ig vs 0:=by rw[hvs];exact Hp.OE hh b
       have hmin:∀ c ∈ hs,¬ ig c a:=fun c hc=>let ⟨j,hj⟩:=List.getElem?_of_mem hc;Hp.PZ qR hh ha j c hj
       refine Ok.trunc 0 0 4 rfl rfl rfl (vs.map Rch.row) (by rw[hvs];simp[List.map_take]) ?_;(conv=>whnf);refine Ok.aT [0,2,3,4,109,118,119,121] [5] 5 3 (fun (x:Nat × List Rch)=>[.i .i64 (x.1:Nat)]) (fun (x:Nat × List Rch) (_:List (List D))=>[[.own 4 (hs.length - 1),.fnh 111 [.own 2 N] []],[.i .i64 0,.i .i64 0],a.row]) (fun (x:Nat × List Rch) (_:Vx.Rows)=>[none,none,some (3,far.map ay),some (3,(List.replicate N (-1)).map ay),some (185,x.2.map Rch.row)]) (fun (x:Nat × List Rch)=>x.2.Perm vs/\Hp.uD ig x.2 x.1/\(x.1<x.2.length\/x.1=0)) (fun (x:Nat × List Rch)=>vs.length - x.1) ((0,vs)) (⟨.refl _,hvd,.inr rfl⟩) ?_;(conv=>whnf);refine⟨by ((conv=>whnf);first|rfl|(simp[ak,au,Eg.row,ay,Rch.row];done)|(simp[ak,au,Eg.row,ay,Rch.row];rw[IntKind.wrap_i64];omega)),?_⟩;rintro⟨i,xs⟩ ⟨hxp,hxd,hxi⟩;dsimp only at hxp hxd hxi ⊢;have hxl:xs.length=hs.length - 1:=by rw[hxp.length_eq,hvl]
       have ado:(xs.map Rch.row).length=hs.length - 1:=by simp[hxl]
       refine Ok.block ?_;refine Ok.seq ?_;refine Ok.region tok ?_;(conv=>whnf);refine Ok.acs [0,2,3,4,5,109,118,119,121] [6] 5 3 (fun x:Nat=>[.i .i64 (x:Nat)]) (fun _ b=>b) (fun _ r=>r)
        (fun x=>(x=i\/2*i+1<=x/\x<=2*i+2/\x<xs.length/\∀ c d,xs[i]? = some c->xs[x]? = some d->ig d c)/\∀ j c d,2*i+1<=j->j<=2*i+2->xs[j]? = some c->xs[x]? = some d->¬ ig c d) ?_
       (conv=>whnf);refine And.intro ?_ ?_
       . (try (conv=>whnf));repeat' (first|refine Ok.seq ?_|(refine Ok.region tok ?_;conv=>whnf)|refine Ok.block ?_|(refine nI ?_;conv=>whnf)|fail)
         refine Ok.aT [0,2,3,4,5,109,118,119,121] [6,7] 5 3 (fun (x:Nat × Nat)=>[.i .i64 (x.1:Nat),.i .i64 (x.2:Nat)]) (fun _ b=>b) (fun _ r=>r) (fun (x:Nat × Nat)=>2*i+1<=x.2/\x.2<=2*i+3/\(x.1=i\/2*i+1<=x.1/\x.1<x.2/\x.1<xs.length/\∀ c d,xs[i]? = some c->xs[x.1]? = some d->ig d c)/\∀ j c d,2*i+1<=j->j<x.2->xs[j]? = some c->xs[x.1]? = some d->¬ ig c d) (fun (x:Nat × Nat)=>2*i+3 - x.2) ((i,2*i+1)) (⟨by dsimp only;omega,by dsimp only;omega,.inl rfl,fun j c d h1 h2=>absurd h2 (by dsimp only;omega)⟩) ?_;(conv=>whnf);refine⟨by ((conv=>whnf);first|rfl|(simp[ak,au,Eg.row,ay,Rch.row];done)|(simp[ak,au,Eg.row,ay,Rch.row];rw[IntKind.wrap_i64];omega)),?_⟩;rintro⟨x,y⟩ ⟨hy1,hy2,hx1,hx2⟩;dsimp only at hy1 hy2 hx1 hx2 ⊢;by_cases hyy:y<=2*i+2/\y<xs.length
         . obtain⟨hyy,hyl⟩:=hyy
           have Gl:x<xs.length:=oA;obtain⟨c,hc⟩:∃ c,xs[y]? = some c:=⟨_,aC hyl⟩;obtain⟨d,hd⟩:∃ d,xs[x]? = some d:=⟨_,aC Gl⟩;(try (conv=>whnf));repeat' (first|refine Ok.seq ?_|((first|refine Ok.region tok ?_|refine Ok.bH tok follows kR ?_|refine Ok.cond ?_);conv=>whnf)|refine Ok.block ?_|((first|refine Ok.skip ?_|refine nI ?_|refine⟨_,Ho _ _ c d,rfl,?_⟩|refine rd rfl aS ?_);conv=>whnf)|(refine bI ?_ ?_<;>intro<;>first|omega|conv=>whnf)|(refine aJ ?_;conv=>whnf)|fail)
           . rename_i h5
             refine⟨(y,y+1),by dsimp only;omega,⟨by dsimp only;omega,by dsimp only;omega,.inr ⟨hy1,by dsimp only;omega,hyl,fun e f he hf=>?_⟩,fun j e f h6 h7 he hf=>?_⟩,?_⟩
             . rw[hc] at hf
               cases hf;rcases hx1 with rfl|⟨_,_,_,hx3⟩
               . rw[hd] at he;cases he;exact h5
               . exact Classical.byContradiction fun hn=>qR.trans _ _ _ (qR.asymm _ _ (hx3 e d he hd)) hn h5
             . rw[hc] at hf
               cases hf;by_cases hj:j=y
               . subst hj;rw[hc] at he;cases he;exact qR.irrefl _
               . exact qR.trans _ _ _ (qR.asymm _ _ h5) (hx2 j e d h6 (by dsimp only at h7;omega) he hd)
             . (conv=>whnf);(first|rfl|simp[ak,au,Eg.row,ay,Rch.row])
           . rename_i h5
             refine⟨(x,y+1),by dsimp only;omega,⟨by dsimp only;omega,by dsimp only;omega,?_,fun j e f h6 h7 he hf=>?_⟩,?_⟩
             . rcases hx1 with h|⟨h6,h7,h8,h9⟩
               . exact .inl h
               . exact .inr ⟨h6,by dsimp only;omega,h8,h9⟩
             . by_cases hj:j=y
               . subst hj;rw[hc] at he;rw[hd] at hf;cases he;cases hf;exact h5
               . exact hx2 j e f h6 (by dsimp only at h7;omega) he hf
             . (conv=>whnf);(first|rfl|simp[ak,au,Eg.row,ay,Rch.row])
         . (try (conv=>whnf));repeat' (first|refine Ok.seq ?_|((first|refine Ok.region tok ?_|refine Ok.cond ?_|refine Ok.exit ?_|refine nI ?_);conv=>whnf)|(refine bI ?_ ?_<;>intro<;>first|omega|conv=>whnf)|fail)
           all_goals
            refine⟨x,⟨?_,fun j e f h6 h7 he hf=>?_⟩,?_⟩
            . rcases hx1 with h|⟨h6,h7,h8,h9⟩
              . exact .inl h
              . exact .inr ⟨h6,oA,h8,h9⟩
            . have:=(aK.1 he).1
              exact hx2 j e f h6 oA he hf
            . (conv=>whnf);(first|rfl|simp[ak,au,Eg.row,ay,Rch.row])
       . intro x ⟨hx1,hx2⟩
         by_cases h3':x=i
         . subst h3'
           (try (conv=>whnf));repeat' (first|refine Ok.seq ?_|((first|refine Ok.region tok ?_|refine Ok.cond ?_|refine Ok.ret ?_);conv=>whnf)|(refine bI ?_ ?_<;>intro<;>first|omega|conv=>whnf)|fail)
           refine⟨(a,xs),⟨rfl,(hxp.cons a).trans hvp,hmin,?_⟩,?_⟩
           . by_cases La:x<xs.length
             . obtain⟨c,hc⟩:∃ c,xs[x]? = some c:=⟨_,aC La⟩
               exact Hp.NH hxd hc fun j e h6 h7 he=>hx2 j e c h6 h7 he hc
             . intro j hj e f he hf
               have:=(aK.1 he).1;dsimp only at this;omega
           . (conv=>whnf);simp[ak,hxl,Rch.row]
         . obtain⟨hx3,hx4,hx5,hx6⟩:=hx1.resolve_left h3'
           have hil:i<xs.length:=oA;obtain⟨c,hc⟩:∃ c,xs[i]? = some c:=⟨_,aC hil⟩;obtain⟨d,hd⟩:∃ d,xs[x]? = some d:=⟨_,aC hx5⟩;have hd':(xs.set i d)[x]? = some d:=by rw[List.getElem?_set_ne (Ne.symm h3')];exact hd
           have ac5:((xs.set i d).map Rch.row).length=hs.length - 1:=by simp[hxl]
           (try (conv=>whnf));repeat' (first|refine Ok.seq ?_|((first|refine Ok.region tok ?_|refine Ok.aW (id:=13) tok follows [(3,25,[]),(8,25,[]),(13,25,[]),(16,25,[]),(20,25,[]),(23,25,[]),(3,27,[]),(8,27,[]),(13,27,[]),(16,27,[]),(20,27,[]),(23,27,[]),(25,27,[])] [.q 0,.q 1,.q 2,.q 3,.q 4,.q 5,.q 6,.q 7,.q 8,.q 9,.q 10,.q 11,.q 12,.q 13,.q 14,.q 15,.q 16,.q 17,.q 18,.q 19,.q 20,.q 21,.q 22,.q 23,.q 24,.l 25,.q 26,.l 27] kR ?_|refine Ok.cond ?_|refine Ok.skip ?_|refine rd rfl aS ?_);conv=>whnf)|(refine bI ?_ ?_<;>intro<;>first|omega|conv=>whnf)|(refine aJ ?_;conv=>whnf)|fail)
           refine st d hc (by simp[Rch.row]) (by simp[setCells,Rch.row]) ?_;(try (conv=>whnf));repeat' (first|(refine aJ ?_;conv=>whnf)|fail)
           refine st c hd' (by simp[Rch.row]) (by simp[setCells,Rch.row]) ?_;(try (conv=>whnf));repeat' (first|(refine Ok.region tok ?_;conv=>whnf)|fail)
           refine⟨(x,Hp.swp xs i x c d),by dsimp only;omega,⟨(Hp.zX hc hd (Ne.symm h3')).trans hxp,Hp.NI qR hxd hc hd hx3 hx4 (hx6 c d hc hd) fun j e h6 h7 he=>hx2 j e d h6 h7 he hd,.inl (by rw[Hp.vw];exact hx5)⟩,?_⟩;(conv=>whnf);simp[ak,Hp.swp]
     . rintro e ⟨r,hs'⟩ ⟨rfl,hp,hmin,hh'⟩
       dsimp only at hp hmin hh' ⊢;have hr:r ∈ hs:=hp.subset sI;obtain⟨hn0,hn1,hf0⟩:=kS.hin r hr;have hrb:=hbd r hr;have acO:=abD far;rw[kS.len] at acO;obtain⟨x,hx⟩:∃ x,far[r.node.toNat]? = some x:=⟨_,aC (by rw[kS.len];omega)⟩;have hlen:=hp.length_eq;simp only[List.length_cons] at hlen;have hmin':∀ s ∈ hs,r.far<=s.far:=fun s hs=>by have:=hmin s hs;unfold ig at this;omega
       rcases kS.low _ _ hx with rfl|hx0
       . obtain⟨hd2,htop⟩:=Dij.take (fun e he=>⟨(hE e he).1,(hE e he).2.2.1⟩) (fun d h=>(hD d h).1) kS hp.symm hmin' hx
         have Gt:=JB far r.node.toNat r.far hx hf0;have CQ:(far.set r.node.toNat r.far)[r.node.toNat]? = some r.far:=List.getElem?_set_self (by rw[kS.len];omega);have CP:∀ (v:Nat) y,(far.set r.node.toNat r.far)[v]? = some y->y<=9999*((N - unf (far.set r.node.toNat r.far):Nat):Int):=fun v y hv=>by
          by_cases hvn:v=r.node.toNat
          . subst hvn;rw[CQ] at hv;cases hv;omega
          . rw[List.getElem?_set_ne (Ne.symm hvn)] at hv;have:=hfb v y hv;omega
         have Kw:(far.set r.node.toNat r.far).length=N:=by simp[kS.len]
         (try (conv=>whnf));repeat' (first|refine Ok.seq ?_|((first|refine Ok.region tok ?_|refine Ok.cond ?_|refine Ok.skip ?_|refine rd rfl aS ?_);conv=>whnf)|(refine bI ?_ ?_<;>intro<;>first|omega|conv=>whnf)|(refine aJ ?_;conv=>whnf)|fail)
         refine st r.far hx (by simp[ay]) (by simp[setCells,ay]) ?_;generalize ac6:far.set r.node.toNat r.far=sD at hd2 htop Gt CQ Kw CP ⊢;have acP:(sD.map ay).length=N:=by simp[Kw]
         have hmul:unf far*(es.length+1)=unf sD*(es.length+1)+(es.length+1):=by rw[<- Gt,Nat.add_mul,Nat.one_mul]
         (try (conv=>whnf));repeat' (first|refine Ok.seq ?_|(refine Ok.region tok ?_;conv=>whnf)|refine Ok.block ?_|fail)
         refine Ok.aT [1,10,11,13,16,73,74] [75] 5 3 (fun (x:Nat × List Rch)=>[.i .i64 (x.1:Nat)]) (fun (x:Nat × List Rch) (_:List (List D))=>[[.own 4 x.2.length,.fnh 111 [.own 2 N] []],r.row,r.row]) (fun (x:Nat × List Rch) (_:Vx.Rows)=>[none,none,some (3,sD.map ay),some (3,(List.replicate N (-1)).map ay),some (185,x.2.map Rch.row)]) (fun (x:Nat × List Rch)=>x.1<=es.length/\Dij N es ds sD x.2 (fun i e=>e.dst=r.node->i<x.1)/\Hp.Heap ig x.2/\(∀ r ∈ x.2,r.far<=9999*((N - unf sD:Nat):Int))/\x.2.length<=hs'.length+x.1) (fun (x:Nat × List Rch)=>es.length - x.1) ((0,hs')) (⟨Nat.zero_le _,hd2.weaken (fun i e _ h ht=>absurd (h ht) (Nat.not_lt_zero _)),hh',fun s hs=>by have:=hbd s (hp.subset (by simp[hs]));omega,Nat.le_refl _⟩) ?_;(conv=>whnf);refine⟨by ((conv=>whnf);first|rfl|(simp[ak,au,Eg.row,ay,Rch.row];done)|(simp[ak,au,Eg.row,ay,Rch.row];rw[IntKind.wrap_i64];omega)),?_⟩;rintro⟨k,hs2⟩ ⟨hk,hd3,hh2,hbd2,hsz2⟩;dsimp only at hk hd3 hh2 hbd2 hsz2 ⊢;by_cases hke:k<es.length
         . obtain⟨g,he⟩:∃ e,es[k]? = some e:=⟨_,aC hke⟩
           obtain⟨e1,e2,e3,e4,e5,e6,_,_⟩:=hE g (aU he);obtain⟨y,hy⟩:∃ y,sD[g.frm.toNat]? = some y:=⟨_,aC (by rw[Kw];omega)⟩;(try (conv=>whnf));repeat' (first|refine Ok.seq ?_|((first|refine Ok.region tok ?_|refine Ok.cond ?_);conv=>whnf)|refine Ok.block ?_|((first|refine Ok.skip ?_|refine nI ?_|refine ix _ aS ?_|refine rd rfl aS ?_);conv=>whnf)|(refine bI ?_ ?_<;>intro<;>first|omega|conv=>whnf)|(refine aJ ?_;conv=>whnf)|fail)
           . rename_i a b
             have hym:y=-1:=by rcases hd3.low _ _ hy with h|h<;>omega
             subst hym;refine Or.inr (Or.inr (Or.inl ?_));(conv=>whnf);refine⟨_,_,Tryz.func112,rfl,Tryz.call112,?_⟩;(conv=>whnf);refine Ok.wS [75,84,85,87,90,147,148,149] [] 5 3 (fun (zs:List Rch)=>[]) (fun (zs:List Rch) (_:List (List D))=>[[.own 4 zs.length,.fnh 111 [.own 2 N] []],r.row,r.row]) (fun (zs:List Rch) (_:Vx.Rows)=>[none,none,some (3,sD.map ay),some (3,(List.replicate N (-1)).map ay),some (185,zs.map Rch.row)]) (fun e (zs:List Rch)=>(e = .normal\/e = .ret)/\zs.Perm (hs2++[⟨g.frm,r.far+g.cost⟩])/\Hp.Heap ig zs) ?_;(conv=>whnf);refine And.intro ?_ ?_
             . have hsl0:(hs2.map Rch.row).length=hs2.length:=sI
               have hpl0:hs2.length<=2000:=oA;(try (conv=>whnf));repeat' (first|refine Ok.seq ?_|((first|refine Ok.region tok ?_|refine Ok.aW (id:=1) tok follows [(5,6,[]),(4,7,[]),(5,7,[6]),(6,7,[]),(4,10,[]),(5,10,[]),(6,10,[]),(7,10,[])] [.q 0,.q 1,.q 2,.q 3,.q 4,.q 5,.l 6,.l 7,.q 8,.q 9,.l 10] kR ?_);conv=>whnf)|refine Ok.block ?_|((first|refine bU.l (aI ?_)|refine⟨_,.inl ⟨rfl,rfl⟩,?_⟩|refine⟨_,_,rfl,rfl,?_⟩|refine aJ ?_|refine jh ?_);conv=>whnf)|fail)
               refine Ok.aT [0,75,84,85,87,90,147,148,149] [4] 5 3 (fun (y:Nat × List Rch)=>[.i .i64 (y.1:Nat)]) (fun (y:Nat × List Rch) (_:List (List D))=>[[.own 4 y.2.length,.fnh 111 [.own 2 N] []],r.row,r.row]) (fun (y:Nat × List Rch) (_:Vx.Rows)=>[none,none,some (3,sD.map ay),some (3,(List.replicate N (-1)).map ay),some (185,y.2.map Rch.row)]) (fun (y:Nat × List Rch)=>y.1<y.2.length/\y.2.Perm (hs2++[⟨g.frm,r.far+g.cost⟩])/\Hp.uz ig y.2 y.1) (fun (y:Nat × List Rch)=>y.1) ((hs2.length,hs2++[⟨g.frm,r.far+g.cost⟩])) (⟨sI,.refl _,Hp.Hy hh2 _⟩) ?_;(conv=>whnf);refine⟨by ((conv=>whnf);first|rfl|(simp[ak,au,Eg.row,ay,Rch.row];done)|(simp[ak,au,Eg.row,ay,Rch.row];rw[IntKind.wrap_i64];omega)),?_⟩;rintro⟨i,us⟩ ⟨hi,hup,hux⟩;dsimp only at hi hup hux ⊢;have UG:(us.map Rch.row).length=us.length:=sI;have acN:us.length=hs2.length+1:=by rw[hup.length_eq];simp
               obtain⟨a,ha⟩:∃ a,us[i]? = some a:=⟨_,aC hi⟩;by_cases hi0:0<i
               . obtain⟨u,hu⟩:∃ u,u=(i - 1) / 2:=⟨_,rfl⟩
                 have htd:IntKind.i64.wrap (((i:Int) - 1).tdiv 2)=(u:Int):=by
                  rw[Int.tdiv_eq_ediv_of_nonneg oA,IntKind.wrap_i64];omega
                 obtain⟨b,hb⟩:∃ b,us[u]? = some b:=⟨_,aC oA⟩;have hne:i ≠ u:=oA;have hb':(us.set i b)[u]? = some b:=by rw[List.getElem?_set_ne hne];exact hb
                 have hsl1:((us.set i b).map Rch.row).length=us.length:=sI;(try (conv=>whnf));repeat' (first|refine Ok.seq ?_|((first|refine Ok.region tok ?_|refine Ok.aW (id:=6) tok follows [(3,25,[]),(8,25,[]),(13,25,[]),(16,25,[]),(20,25,[]),(23,25,[]),(3,27,[]),(8,27,[]),(13,27,[]),(16,27,[]),(20,27,[]),(23,27,[]),(25,27,[])] [.q 0,.q 1,.q 2,.q 3,.q 4,.q 5,.q 6,.q 7,.q 8,.q 9,.q 10,.q 11,.q 12,.q 13,.q 14,.q 15,.q 16,.q 17,.q 18,.q 19,.q 20,.q 21,.q 22,.q 23,.q 24,.l 25,.q 26,.l 27] kR ?_|refine⟨_,(htd).symm,?_⟩|refine Ok.bH tok follows kR ?_|refine Ok.cond ?_);conv=>whnf)|refine Ok.block ?_|((first|refine Ok.skip ?_|refine Ok.ret ?_|refine nI ?_|refine⟨_,Ho _ _ a b,rfl,?_⟩|refine rd rfl aS ?_);conv=>whnf)|(refine bI ?_ ?_<;>intro<;>first|omega|conv=>whnf)|(refine aJ ?_;conv=>whnf)|fail)
                 . rename_i h3
                   refine⟨us,⟨.inr rfl,hup,Hp.HY hux ha (by rw[<- hu];exact hb) h3⟩,?_⟩;(conv=>whnf);(first|rfl|simp[ak,au,Eg.row,ay,Rch.row])
                 . rename_i h3
                   have h3:ig a b:=Classical.not_not.1 h3;refine st b ha (by simp[Rch.row]) (by simp[setCells,Rch.row]) ?_;(try (conv=>whnf));repeat' (first|(refine aJ ?_;conv=>whnf)|fail)
                   refine st a hb' (by simp[Rch.row]) (by simp[setCells,Rch.row]) ?_;(try (conv=>whnf));repeat' (first|(refine Ok.region tok ?_;conv=>whnf)|fail)
                   refine⟨(u,Hp.swp us i u a b),by dsimp only;omega,⟨by rw[Hp.vw];dsimp only;omega,(Hp.zX ha hb hne).trans hup,by dsimp only;rw[hu] at hb ⊢;exact Hp.IL qR hux hi0 ha hb h3⟩,?_⟩;(conv=>whnf);simp[ak,Hp.swp]
               . have hi0:i=0:=oA
                 subst hi0;(try (conv=>whnf));repeat' (first|refine Ok.seq ?_|((first|refine Ok.region tok ?_|refine Ok.cond ?_|refine Ok.exit ?_);conv=>whnf)|(refine bI ?_ ?_<;>intro<;>first|omega|conv=>whnf)|fail)
                 refine⟨us,⟨.inl rfl,hup,Hp.Hz hux⟩,?_⟩;(conv=>whnf);(first|rfl|simp[ak,au,Eg.row,ay,Rch.row])
             . rintro ex zs ⟨hex,hp2,hh3⟩
               rcases hex with rfl|rfl
               all_goals
                (try (conv=>whnf));repeat' (first|((first|refine Ok.region tok ?_|refine nI ?_);conv=>whnf)|fail)
                refine⟨(k+1,zs),by dsimp only;omega,⟨by dsimp only;omega,hd3.push htop CQ hf0 he e5 e1 e2 a hy (hp2.trans List.perm_append_comm),hh3,fun s hs=>?_,?_⟩,?_⟩
                . rcases bQ.1 (hp2.subset hs) with hs|hs
                  . exact hbd2 s hs
                  . simp at hs;subst hs;dsimp only;omega
                . have:=hp2.length_eq;simp at this;dsimp only;omega
                . (conv=>whnf);(first|rfl|simp[ak,au,Eg.row,ay,Rch.row])
           . rename_i a b
             refine⟨(k+1,hs2),by dsimp only;omega,⟨by dsimp only;omega,hd3.pass htop CQ he e5 (fun _=>⟨y,hy,oA⟩),hh2,hbd2,by dsimp only;omega⟩,?_⟩;(conv=>whnf);(first|rfl|simp[ak,au,Eg.row,ay,Rch.row])
           . rename_i a
             refine⟨(k+1,hs2),by dsimp only;omega,⟨by dsimp only;omega,hd3.pass htop CQ he e5 (fun h=>absurd h a),hh2,hbd2,by dsimp only;omega⟩,?_⟩;(conv=>whnf);(first|rfl|simp[ak,au,Eg.row,ay,Rch.row])
         . obtain rfl:k=es.length:=oA
           (try (conv=>whnf));repeat' (first|refine Ok.seq ?_|((first|refine Ok.region tok ?_|refine Ok.cond ?_|refine Ok.exit ?_);conv=>whnf)|(refine bI ?_ ?_<;>intro<;>first|omega|conv=>whnf)|fail)
           refine⟨(sD,hs2),by dsimp only;omega,⟨hd3.weaken (fun i e hi _ _=>(aK.1 hi).1),hh2,hbd2,by dsimp only;omega,CP⟩,?_⟩;(conv=>whnf);(first|rfl|simp[ak,au,Eg.row,ay,Rch.row])
       . (try (conv=>whnf));repeat' (first|refine Ok.seq ?_|((first|refine Ok.region tok ?_|refine Ok.cond ?_|refine Ok.exit ?_|refine rd rfl aS ?_);conv=>whnf)|(refine bI ?_ ?_<;>intro<;>first|omega|conv=>whnf)|(refine aJ ?_;conv=>whnf)|fail)
         refine⟨(far,hs'),by dsimp only;omega,⟨kS.skip hp.symm hx hx0,hh',fun s hs=>hbd s (hp.subset (by simp[hs])),by dsimp only;omega,hfb⟩,?_⟩;(conv=>whnf);(first|rfl|simp[ak,au,Eg.row,ay,Rch.row])
   . have hnil:hs=[]:=List.eq_nil_of_length_eq_zero oA
     subst hnil;(try (conv=>whnf));repeat' (first|refine Ok.seq ?_|((first|refine Ok.region tok ?_|refine Ok.cond ?_|refine Ok.exit ?_);conv=>whnf)|(refine bI ?_ ?_<;>intro<;>first|omega|conv=>whnf)|fail)
     refine⟨far,⟨rfl,kS.dist,fun v x hv=>by have:=hfb v x hv;omega⟩,?_⟩;(conv=>whnf);(first|rfl|simp[ak,au,Eg.row,ay,Rch.row])
 clear hh hp kS;rintro e far ⟨rfl,hdist,hfb⟩;have hfl:(far.map ay).length=N:=by simp[hdist.len]
 (try (conv=>whnf));repeat' (first|refine Ok.seq ?_|(refine Ok.region tok ?_;conv=>whnf)|refine Ok.block ?_|fail)
 refine Ok.aT [10,11,102,103] [104] 4 0 (fun (x:List Int × Nat)=>[.i .i64 (x.2:Nat)]) (fun _ b=>b) (fun (x:List Int × Nat) (_:Vx.Rows)=>[none,none,some (3,far.map ay),some (3,x.1.map ay)]) (fun (x:List Int × Nat)=>x.2<=es.length/\kZ N es far x.1 0 x.2) (fun (x:List Int × Nat)=>es.length - x.2) ((List.replicate N (-1),0)) (⟨Nat.zero_le _,sI,fun v p hv=>.inl ⟨by simp[List.getElem?_replicate] at hv;omega,fun i _ h=>by dsimp only at h;omega⟩⟩) ?_;(conv=>whnf);refine⟨by ((conv=>whnf);first|rfl|(simp[ak,au,Eg.row,ay,Rch.row];done)|(simp[ak,au,Eg.row,ay,Rch.row];rw[IntKind.wrap_i64];omega)),?_⟩;rintro⟨f,k⟩ ⟨hk,hf⟩;dsimp only at hk hf ⊢;have adp:(f.map ay).length=N:=by simp[hf.1]
 by_cases hke:k<es.length
 . obtain⟨g,he⟩:∃ e,es[k]? = some e:=⟨_,aC hke⟩
   obtain⟨e1,e2,e3,e4,e5,e6,_,_⟩:=hE g (aU he);obtain⟨x,hx⟩:∃ y,far[g.frm.toNat]? = some y:=⟨_,aC (by rw[hdist.len];omega)⟩;obtain⟨y,hy⟩:∃ y,far[g.dst.toNat]? = some y:=⟨_,aC (by rw[hdist.len];omega)⟩;obtain⟨p,hp⟩:∃ y,f[g.frm.toNat]? = some y:=⟨_,aC (by rw[hf.1];omega)⟩;have hTi:Ti es far k g.frm.toNat ↔ 0<=y/\x=y+g.cost:=by
    constructor
    . rintro⟨e',x',y',h1,h2,h3,h4,h5,h6⟩
      rw[he] at h1;cases h1;rw[hy] at h3;cases h3;rw[hx] at h5;cases h5;exact⟨h4,h6⟩
    . rintro⟨h1,h2⟩
      exact⟨g,x,y,he,rfl,hy,h1,hx,h2⟩
   have hTo:∀ v,v ≠ g.frm.toNat->¬ Ti es far k v:=by
    rintro v hv ⟨e',x',y',h1,h2,_⟩;rw[he] at h1;cases h1;exact hv h2.symm
   have hbound:y<=160000:=hfb _ y hy;have hlow:-1<=y:=by rcases hdist.low _ y hy with h|h<;>omega
   have acd:(¬ (0<=y/\x=y+g.cost)\/0<=p)->kZ N es far f 0 (k+1):=fun hc=>⟨hf.1,fun v q hv=>(hf.2 v q hv).Kv (by
    by_cases hvg:v=g.frm.toNat
    . subst hvg
      rw[hp] at hv;cases hv;rcases hc with hc|hc
      . exact .inl fun h=>hc (hTi.1 h)
      . exact .inr hc
    . exact .inl (hTo v hvg))⟩
   have htake:0<=y->x=y+g.cost->p<0->kZ N es far (f.set g.frm.toNat (k:Int)) 0 (k+1):=fun h1 h2 h3=>⟨by simp[hf.1],fun v q hv=>by
    by_cases hvg:v=g.frm.toNat
    . subst hvg
      rw[List.getElem?_set_self (by rw[hf.1];omega)] at hv;cases hv;exact (hf.2 _ p hp).Ud h3 (Nat.zero_le _) (hTi.2 ⟨h1,h2⟩)
    . rw[List.getElem?_set_ne (Ne.symm hvg)] at hv
      exact (hf.2 v q hv).Kv (.inl (hTo v hvg))⟩
   (try (conv=>whnf));repeat' (first|refine Ok.seq ?_|((first|refine Ok.region tok ?_|refine Ok.bH tok follows kR ?_|refine Ok.cond ?_);conv=>whnf)|refine Ok.block ?_|((first|refine Ok.skip ?_|refine nI ?_|refine ix _ aS ?_|refine rd rfl aS ?_);conv=>whnf)|(refine bI ?_ ?_<;>intro<;>first|omega|conv=>whnf)|(refine aJ ?_;conv=>whnf)|fail)
   . refine st (k:Int) hp (by simp[ay]) (by simp[setCells,ay]) ?_
     (try (conv=>whnf));repeat' (first|((first|refine Ok.region tok ?_|refine nI ?_);conv=>whnf)|fail)
     refine⟨(f.set g.frm.toNat (k:Int),k+1),by dsimp only;omega,⟨by dsimp only;omega,htake oA oA oA⟩,?_⟩;(conv=>whnf);(first|rfl|simp[ak,au,Eg.row,ay,Rch.row])
   all_goals
    refine⟨(f,k+1),by dsimp only;omega,⟨by dsimp only;omega,acd oA⟩,?_⟩;(conv=>whnf);(first|rfl|simp[ak,au,Eg.row,ay,Rch.row])
 . obtain rfl:k=es.length:=oA
   (try (conv=>whnf));repeat' (first|refine Ok.seq ?_|((first|refine Ok.region tok ?_|refine Ok.cond ?_|refine Ok.exit ?_|refine Ok.ret ?_);conv=>whnf)|(refine bI ?_ ?_<;>intro<;>first|omega|conv=>whnf)|fail)
   refine Or.inr (Or.inl ?_);(conv=>whnf);have h2:fJ (N:Int) es ds=far:=by unfold fJ;rw[if_neg oA,Int.toNat_natCast];exact yG hc1 hdist
   have h3:fA (N:Int) es ds=f:=by unfold fA;rw[if_neg oA,Int.toNat_natCast,yG hc1 hdist];exact JA hf
   rw[h2,h3,h1];simp[iE,hdist.len,hf.1]
end Go.Proofs.YtnlingegeangmaaGreatDoor
namespace Go.Proofs.YtnlingegeangmaaGreatDoor
open Go Go.Vx
theorem Pz:∀ (hs:List Rch),hs ≠ []->∃ r ∈ hs,∀ s ∈ hs,r.far<=s.far
 | [],h=>absurd rfl h
 | [a],_=>⟨a,sI,sI⟩
 | a :: b :: hs,_=>by
  obtain⟨r,hr,hm⟩:=Pz (b :: hs) sI;by_cases h:a.far<=r.far
  . refine⟨a,sI,fun s hs'=>?_⟩
    rcases List.mem_cons.1 hs' with rfl|hs'
    . omega
    . have:=hm s hs';omega
  . refine⟨r,List.mem_cons_of_mem _ hr,fun s hs'=>?_⟩
    rcases List.mem_cons.1 hs' with rfl|hs'
    . omega
    . exact hm s hs'
theorem Jb{n:Nat}{es:List Eg}{ds far:List Int}{r:Rch}(hE:∀ e ∈ es,okE n e)(htop:∀ (v:Nat) x,far[v]? = some x->0<=x->x<=r.far)(hr:far[r.node.toNat]? = some r.far)(hr0:0<=r.far)(hlen:far.length=n)(hlow:∀ (v:Nat) x,far[v]? = some x->x=-1\/0<=x) :
    ∀ (j k:Nat) (hs:List Rch),k+j=es.length->Dij n es ds far hs (fun i e=>e.dst=r.node->i<k)->∃ hs',hs'.length<=hs.length+j/\Dij n es ds far hs' (fun _ _=>True)
 | 0,k,hs,hk,h=>⟨hs,Nat.le_refl _,h.weaken fun i e hi _ _=>by have:=(aK.1 hi).1;omega⟩
 | j+1,k,hs,hk,h=>by
  obtain⟨e,he⟩:∃ e,es[k]? = some e:=⟨_,aC oA⟩;obtain⟨e1,e2,e3,e4,e5,e6,_,_⟩:=hE e (aU he);obtain⟨y,hy⟩:∃ y,far[e.frm.toNat]? = some y:=⟨_,aC oA⟩;by_cases hc:e.dst=r.node/\y=-1
  . obtain⟨hc,rfl⟩:=hc
    obtain⟨hs',h1,h2⟩:=Jb hE htop hr hr0 hlen hlow j (k+1) _ oA (h.push htop hr hr0 he e5 e1 e2 hc hy (.refl _));exact⟨hs',by simp at h1;omega,h2⟩
  . obtain⟨hs',h1,h2⟩:=Jb hE htop hr hr0 hlen hlow j (k+1) hs oA (h.pass htop hr he e5 fun ht=>⟨y,hy,by rcases hlow _ y hy with h|h;exact absurd ⟨ht,h⟩ hc;exact h⟩)
    exact⟨hs',oA,h2⟩
theorem JC{n:Nat}{es:List Eg}{ds:List Int}(hE:∀ e ∈ es,okE n e)(hD:∀ d ∈ ds,okD n d):∀ (m:Nat) (far:List Int) (hs:List Rch),hs.length+unf far*(es.length+1)<=m->Dij n es ds far hs (fun _ _=>True)->∃ f,jk n es ds f
 | m,far,[],_,h=>⟨far,h.dist⟩
 | 0,far,a :: hs,hm,h=>by simp at hm
 | m+1,far,a :: hs,hm,h=>by
  obtain⟨r,hr,hmin⟩:=Pz (a :: hs) sI;obtain⟨us,ws,hus⟩:=List.append_of_mem hr;have hp:(a :: hs).Perm (r :: (us++ws)):=by rw[hus];exact List.perm_middle
  have hl:=hp.length_eq;simp only[List.length_cons] at hl;obtain⟨hn0,hn1,hf0⟩:=h.hin r hr;obtain⟨x,hx⟩:∃ x,far[r.node.toNat]? = some x:=⟨_,aC (by rw[h.len];omega)⟩;rcases h.low _ _ hx with rfl|hx0
  . obtain⟨hd2,htop⟩:=Dij.take (fun e he=>⟨(hE e he).1,(hE e he).2.2.1⟩) (fun d h=>(hD d h).1) h hp hmin hx
    have Gt:=JB far r.node.toNat r.far hx hf0;have hmul:unf far*(es.length+1)=unf (far.set r.node.toNat r.far)*(es.length+1)+(es.length+1):=by rw[<- Gt,Nat.add_mul,Nat.one_mul]
    obtain⟨hs',h1,h2⟩:=Jb hE htop (List.getElem?_set_self (by rw[h.len];omega)) hf0 hd2.len hd2.low es.length 0 _ oA (hd2.weaken fun i e _ hh ht=>absurd (hh ht) (Nat.not_lt_zero _));exact JC hE hD m _ hs' (by simp at hm;omega) h2
  . exact JC hE hD m far (us++ws) (by simp at hm ⊢;simp at hl;omega) (h.skip hp hx hx0)
theorem aaN{n:Nat}{es:List Eg}{ds:List Int}(hE:∀ e ∈ es,okE n e)(hD:∀ d ∈ ds,okD n d):∃ f,jk n es ds f:=
 JC hE hD _ _ _ (Nat.le_refl _) (Dij.start (hs:=ds.map fun d=>⟨d,0⟩) (fun d hd=>hD d hd) (.refl _))
def rank(g:List Int)(y:Int):Nat:=g.countP fun z=>decide (0<=z/\z<y)
theorem aaO(g:List Int)(v:Nat)(y:Int)(hv:g[v]? = some y):rank g y<g.length:=by
 unfold rank;have h:=(YD (p:=fun z=>decide (0<=z/\z<y)) (s:=fun _=>true) (l:=g) (fun _ _ _=>rfl)).2 ⟨y,aU hv,rfl,sI⟩;simpa using h
structure Rnd(n:Nat)(es:List Eg)(ds g far:List Int)(j k:Nat):Prop where
 len:far.length=n
 low:∀ (v:Nat) x,far[v]? = some x->x=-1\/∃ y,g[v]? = some y/\0<=y/\y<=x
 dest:∀ d ∈ ds,far[d.toNat]? = some 0
 fin:∀ (v:Nat) y,g[v]? = some y->0<=y->rank g y<j->far[v]? = some y
 now:∀ (v:Nat) y i e z,g[v]? = some y->0<=y->rank g y<=j->i<k->es[i]? = some e->e.frm=(v:Int)->g[e.dst.toNat]? = some z->0<=z->y=z+e.cost->far[v]? = some y
theorem Rnd.done{n:Nat}{es:List Eg}{ds g far:List Int}(hg:jk n es ds g)(h:Rnd n es ds g far n 0):far=g:=by
 apply List.ext_getElem?;intro v;by_cases hv:v<n
 . obtain⟨x,hx⟩:∃ x,far[v]? = some x:=⟨_,aC (by rw[h.len];exact hv)⟩
   obtain⟨y,hy⟩:∃ y,g[v]? = some y:=⟨_,aC (by rw[hg.len];exact hv)⟩;rcases hg.low v y hy with rfl|h0
   . rcases h.low v x hx with rfl|⟨z,hz,hz0,_⟩
     . rw[hx,hy]
     . rw[hy] at hz;cases hz;omega
   . rw[h.fin v y hy h0 (by have:=aaO g v y hy;rw[hg.len] at this;exact this),hy]
 . rw[List.getElem?_eq_none (by rw[h.len];omega),List.getElem?_eq_none (by rw[hg.len];omega)]
theorem Ia(es:List Eg)(far:List Int)(v:Nat):∀ hi,∃ p,oC es far 0 hi v p
 | 0=>⟨-1,.inl ⟨rfl,fun i _ h=>by omega⟩⟩
 | hi+1=>by
  obtain⟨p,hp⟩:=Ia es far v hi;by_cases h:¬ Ti es far hi v\/0<=p
  . exact⟨p,hp.Kv h⟩
  . exact⟨hi,hp.Ud oA (Nat.zero_le _) (Classical.not_not.1 fun h'=>h (.inl h'))⟩
theorem WU(n:Nat)(es:List Eg)(far:List Int):∃ f,kZ n es far f 0 es.length:=by
 refine⟨(List.range n).map fun v=>(Ia es far v es.length).choose,sI,fun v p hv=>?_⟩;rw[aN] at hv;by_cases h:v<n
 . rw[List.getElem?_range h] at hv
   cases hv;exact (Ia es far v es.length).choose_spec
 . rw[List.getElem?_eq_none sO] at hv
   cases hv
theorem QJ{n:Int}{es:List Eg}{ds:List Int}(h:eP n es ds=0):∃ (N:Nat) (far fst:List Int),n=(N:Int)/\jk N es ds far/\kZ N es far fst 0 es.length/\fJ n es ds=far/\fA n es ds=fst:=by
 obtain⟨g1,g2,g3,g4,hE,hD⟩:=IC h;obtain⟨N,rfl⟩:=Int.eq_ofNat_of_zero_le (show 0<=n by omega);obtain⟨far,hg⟩:=aaN hE hD;obtain⟨fst,hf⟩:=WU N es far;have hc1:∀ e ∈ es,1<=e.cost:=fun e he=>(hE e he).2.2.2.2.1
 refine⟨N,far,fst,rfl,hg,hf,?_,?_⟩
 . unfold fJ;rw[if_neg oA,Int.toNat_natCast];exact yG hc1 hg
 . unfold fA;rw[if_neg oA,Int.toNat_natCast,yG hc1 hg];exact JA hf
end Go.Proofs.YtnlingegeangmaaGreatDoor
namespace Go.Proofs.YtnlingegeangmaaGreatDoor
open Go Go.Vx
def exL:List aj:=[⟨2,8,1,2⟩,⟨3,8,2,3⟩,⟨1,8,1,1⟩,⟨2,0,0,5⟩,⟨2,8,1,4⟩]
def exS:List aj:=[⟨2,0,0,3⟩,⟨2,8,1,3⟩]
theorem EX:eG exL=[⟨⟨2,8,1,2⟩,0⟩,⟨⟨3,8,2,3⟩,1⟩,⟨⟨1,8,1,1⟩,2⟩,⟨⟨2,0,0,5⟩,3⟩,⟨⟨2,8,1,4⟩,4⟩]:=by simp[eG,exL]
theorem aaP:jo exL=[⟨3,8,2,3⟩,⟨1,8,1,1⟩,⟨2,0,0,5⟩]:=by
 refine (Ez (os:=[⟨⟨3,8,2,3⟩,1⟩,⟨⟨1,8,1,1⟩,2⟩,⟨⟨2,0,0,5⟩,3⟩]) ⟨by simp[jD],?_,?_⟩).trans rfl
 . rw[EX];simp[iC,dn]
 . rw[EX];simp[iC]
theorem aaQ:dR 4 exL=[⟨3,8,2,3⟩,⟨1,8,1,1⟩,⟨2,0,0,5⟩]:=by
 unfold dR;rw[if_neg dC,aaP]
theorem RZ:uF 4 exL 12=2/\rM 4 exL 12=0:=by
 have h:rM 4 exL 12=0:=dC;refine⟨?_,h⟩;unfold uF;rw[if_neg oA];refine Jo (.inr ⟨⟨⟨1,8,1,1⟩,2⟩,by simp[EX],rfl,dC,?_⟩);rw[EX];simp[gK,dn]
theorem JR:fJ 2 [⟨0,1,7,4⟩] [1]=[7,0]/\fA 2 [⟨0,1,7,4⟩] [1]=[0,-1]/\eP 2 [⟨0,1,7,4⟩] [1]=0:=by
 have h:eP 2 [⟨0,1,7,4⟩] [1]=0:=dC;have hd:jk 2 [⟨0,1,7,4⟩] [1] [7,0]:=by
  refine⟨rfl,fun v x hv=>?_,sI,sI,fun v x hv h0=>?_⟩
  . match v,hv with
    | 0,hv=>simp at hv;omega
    | 1,hv=>simp at hv;omega
  . match v,hv with
    | 0,hv=>simp at hv;subst hv;exact .inr ⟨_,List.mem_singleton.2 rfl,rfl,0,sI,oA,sI⟩
    | 1,hv=>simp at hv;subst hv;exact .inl ⟨rfl,sI⟩
 have hf:kZ 2 [⟨0,1,7,4⟩] [7,0] [0,-1] 0 1:=by
  refine⟨rfl,fun v x hv=>?_⟩
  match v,hv with
  | 0,hv=>simp at hv;subst hv;exact .inr ⟨0,rfl,oA,oA,⟨_,7,0,rfl,rfl,rfl,oA,rfl,sI⟩,fun j h1 h2=>by omega⟩
  | 1,hv=>
   simp at hv;subst hv;refine .inl ⟨rfl,?_⟩;rintro i h1 h2 ⟨e,x,y,he,hfr,_⟩;obtain rfl:i=0:=oA;cases he;cases hfr
 refine⟨?_,?_,h⟩
 . unfold fJ
   rw[if_neg oA];exact yG sI hd
 . unfold fA
   rw[if_neg oA];have:=yG sI hd;show Gs 2 _ (BI 2 _ _)=_;rw[this];exact JA hf
theorem Si:dK 4 exS=[⟨2,0,0,3⟩]/\dV 4 exS=0:=by
 have h:dV 4 exS=0:=dC;refine⟨?_,h⟩;have hn:eG exS=[⟨⟨2,0,0,3⟩,0⟩,⟨⟨2,8,1,3⟩,1⟩]:=by simp[eG,exS]
 have ho:jo exS=[⟨2,8,1,3⟩,⟨2,0,0,3⟩]:=by
  refine (Ez (os:=[⟨⟨2,8,1,3⟩,1⟩,⟨⟨2,0,0,3⟩,0⟩]) ⟨by simp[jD],?_,?_⟩).trans rfl
  . rw[hn];simp[iC,dn]
  . rw[hn];simp[iC]
 have hok:∀ r ∈ [(⟨2,8,1,3⟩:aj),⟨2,0,0,3⟩],okR 4 r:=dC;have hs:[(⟨2,8,1,3⟩:aj),⟨2,0,0,3⟩].Pairwise iV:=by simp[iV]
 have h1:¬ Hal [(⟨2,8,1,3⟩:aj),⟨2,0,0,3⟩] 4 8 1:=by
  intro hh;obtain⟨r,hr,hl,_⟩:=hh 8 oA dC rfl;simp at hr;rcases hr with rfl|rfl<;>simp at hl
 have h2:¬ Hal [(⟨2,8,1,3⟩:aj),⟨2,0,0,3⟩] 4 0 0:=by
  intro hh;obtain⟨r,hr,hl,hq⟩:=hh 0 oA dC rfl;simp at hr;rcases hr with rfl|rfl
  . revert hq;unfold gK;decide
  . simp at hl
 have hm:mW 4 [(⟨2,8,1,3⟩:aj),⟨2,0,0,3⟩]=[⟨2,8,1,3⟩,⟨2,0,0,3⟩]:=by
  unfold mW nX;simp[h1,h2]
 have p0:rY 4 [(⟨2,8,1,3⟩:aj),⟨2,0,0,3⟩] 0 ⟨2,8,1,3⟩=1:=by
  refine Aq hok hs (.inr ⟨1,⟨2,0,0,3⟩,rfl,dC,dC,rfl,by simp[cvR,gK],?_⟩);intro i r h1 h2 h3 _
  match i,h3 with
  | 0,h3=>omega
  | 1,h3=>cases h3;omega
 have p1:rY 4 [(⟨2,8,1,3⟩:aj),⟨2,0,0,3⟩] 1 ⟨2,0,0,3⟩=-1:=by
  refine Aq hok hs (.inl ⟨rfl,?_⟩);intro i r h1 h2 h3
  match i,h3 with
  | 0,h3=>cases h3;simp[cvR]
  | 1,h3=>omega
 unfold dK;rw[if_neg oA,ho];unfold yZ;rw[hm];have k0:¬ keepR 4 [(⟨2,8,1,3⟩:aj),⟨2,0,0,3⟩] 0 ⟨2,8,1,3⟩:=by
  unfold keepR;rw[p0];rintro (h|h)
  . omega
  . exact h _ rfl rfl
 have k1:keepR 4 [(⟨2,8,1,3⟩:aj),⟨2,0,0,3⟩] 1 ⟨2,0,0,3⟩:=by
  unfold keepR;rw[p1];exact .inl oA
 show nK 4 _ 2=_;rw[GK (k:=1) rfl k1,Mc (k:=0) rfl k0,Wy];rfl
theorem Vm:aF Tryz.prog T 60 [] (fun d rows=>rows=[some (57,exL.map aj.row)]/\d = .own 0 5):=by
 refine aF.aB tok Tryz.func60 rfl Tryz.call60 sI ?_;(try (conv=>whnf));repeat' (first|refine Ok.seq ?_|((first|refine Ok.region tok ?_|refine Ok.ret ?_);conv=>whnf)|fail)
 refine Or.inr (Or.inl ?_);(conv=>whnf);exact⟨rfl,rfl⟩
def exO:List aj:=[⟨3,8,2,3⟩,⟨1,8,1,1⟩,⟨2,0,0,5⟩]
theorem Zk{rl sl:List (List D)}(h:rl=exL.map aj.row):aF Tryz.prog T 38 [.i .i64 4,.lst 57 rl sl] (fun d rows=>rows=[some (57,exO.map aj.row)]/\d = .tup [.own 0 3,.i .i64 0]):=by
 have:=Ac 4 exL (rl:=rl) (sl:=sl) h;rw[aaQ,show dV 4 exL=0 by decide] at this;exact this
theorem X8{rl sl:List (List D)}(h:rl=exL.map aj.row):aF Tryz.prog T 18 [.i .i64 4,.lst 57 rl sl,.i .i64 12] (fun d _=>d = .tup [.i .i64 2,.i .i64 0]):=by
 subst h;have:=VB 4 12 exL sl;rw[RZ.1,RZ.2] at this;exact this
theorem X9{rl sl:List (List D)}(h:rl=exS.map aj.row):aF Tryz.prog T 39 [.i .i64 4,.lst 57 rl sl] (fun d rows=>rows=[some (57,[(⟨2,0,0,3⟩:aj)].map aj.row)]/\d = .tup [.own 0 1,.i .i64 0]):=by
 have:=EC 4 exS (rows:=rl) (room:=sl) h;rw[Si.1,Si.2] at this;exact this
theorem WV{re se rd sd:List (List D)}(he:re=[(⟨0,1,7,4⟩:Eg)].map Eg.row)(hd:rd=[1].map ay):aF Tryz.prog T 61 [.i .i64 2,.lst 122 re se,.lst 3 rd sd] (fun d rows=>rows=[some (3,[7,0].map ay),some (3,[0,-1].map ay)]/\d = .tup [.own 0 2,.own 1 2,.i .i64 0]):=by
 have:=Dl 2 [⟨0,1,7,4⟩] [1] (re:=re) (se:=se) (rd:=rd) (sd:=sd) he hd;rw[JR.1,JR.2.1,JR.2.2] at this;exact this
theorem WW:aF Tryz.prog T 14 [] (fun d _=>d = .tt):=by
 refine aF.tt (p:=True) ?_ trivial;refine aF.aB tok Tryz.func14 rfl Tryz.call14 sI ?_;have l1:(exL.map aj.row).length=5:=rfl;have l2:(exO.map aj.row).length=3:=rfl;(try (conv=>whnf));repeat' (first|refine Ok.seq ?_|((first|refine Ok.region tok ?_|refine Ok.ret ?_);conv=>whnf)|(refine Or.inl ?_;(conv=>whnf);(repeat (refine aI ?_;conv=>whnf));refine⟨_,X8 rfl,rfl,?_⟩;conv=>whnf)|(refine Or.inr (Or.inr (Or.inr (Or.inl ?_)));(conv=>whnf);(repeat (refine aI ?_;conv=>whnf));refine⟨_,Vm,?_⟩;rintro _ _ ⟨rfl,rfl⟩<;>(refine And.intro (by simp[iy,grounds,D.ground,aj.row,ay,exO,exL]) ?_;conv=>whnf))|(refine Or.inr (Or.inr (Or.inr (Or.inl ?_)));(conv=>whnf);(repeat (refine aI ?_;conv=>whnf));refine⟨_,Zk rfl,?_⟩;rintro _ _ ⟨rfl,rfl⟩<;>(refine And.intro (by simp[iy,grounds,D.ground,aj.row,ay,exO,exL]) ?_;conv=>whnf))|(refine Or.inr (Or.inr (Or.inr (Or.inl ?_)));(conv=>whnf);(repeat (refine aI ?_;conv=>whnf));refine⟨_,X9 rfl,?_⟩;rintro _ _ ⟨rfl,rfl⟩<;>(refine And.intro (by simp[iy,grounds,D.ground,aj.row,ay,exO,exL]) ?_;conv=>whnf))|(refine Or.inr (Or.inr (Or.inr (Or.inl ?_)));(conv=>whnf);(repeat (refine aI ?_;conv=>whnf));refine⟨_,WV rfl rfl,?_⟩;rintro _ _ ⟨rfl,rfl⟩<;>(refine And.intro (by simp[iy,grounds,D.ground,aj.row,ay,exO,exL]) ?_;conv=>whnf))|(refine bI ?_ ?_<;>intro<;>first|omega|conv=>whnf)|((first|refine aJ ?_|refine⟨_,rfl,?_⟩);conv=>whnf)|fail)
 . refine Or.inl ?_;(conv=>whnf)
   exact qw ⟨fun _=>trivial,fun _=>rfl⟩
 all_goals exact absurd rfl aS
end Go.Proofs.YtnlingegeangmaaGreatDoor
namespace Go.Proofs.YtnlingegeangmaaGreatDoor
open Go Go.Vx
theorem EY:EqT Tryz.prog 57 [.i .i64,.i .i64,.i .i64,.i .i64]:=EqT.KZ tok (ti:=_) rfl rfl kR
def mkR(n k:Int):aj:=⟨100+n,k,n,k⟩
theorem AA(n k:Nat)(hn:n<1000000)(hk:k<1000000000):aF Tryz.prog T 71 [.i .i64 (n:Nat),.i .i64 (k:Nat)] (fun d rows=>d = .agg (aj.row (mkR n k))/\rows=[]):=by
 refine aF.aB tok Tryz.func71 rfl Tryz.call71 sI ?_;(try (conv=>whnf));repeat' (first|refine Ok.seq ?_|((first|refine Ok.region tok ?_|refine Ok.ret ?_|refine nI ?_);conv=>whnf)|fail)
 all_goals
  refine Or.inl ?_;(conv=>whnf);exact⟨rfl,rfl⟩
def kT(n k:Nat):Nat:=if n<=k then 5000+k - n else k
theorem yC(n k:Nat)(hn:n<1000000000)(hk:k<1000000000):aF Tryz.prog T 72 [.i .i64 (n:Nat),.i .i64 (k:Nat)] (fun d rows=>d = .i .i64 (kT n k:Nat)/\rows=[]):=by
 refine aF.aB tok Tryz.func72 rfl Tryz.call72 sI ?_;(try (conv=>whnf));repeat' (first|refine Ok.seq ?_|((first|refine Ok.region tok ?_|refine Ok.cond ?_|refine Ok.skip ?_|refine Ok.ret ?_|refine nI ?_);conv=>whnf)|(refine bI ?_ ?_<;>intro<;>first|omega|conv=>whnf)|fail)
 all_goals
  refine Or.inl ?_;(conv=>whnf);refine⟨?_,rfl⟩;unfold kT
  first
   | (show D.i IntKind.i64 (5000+(k:Int) - n)=_;rw[if_pos oA];congr 1;omega)
   | (rw[if_neg oA];rfl)
theorem DR(l:List aj)(r1 r2:List (List D)){l1 l2:List (List D)}(e1:l1=l.map aj.row)(e2:l2=l.map aj.row)(hl:l.length<=3000000):aF Tryz.prog T 28 [.lst 57 l1 r1,.lst 57 l2 r2] (fun d rows=>d = .b True/\rows=[]):=by
 subst e1 e2;have h1:(l.map aj.row).length=l.length:=sI;refine aF.aB tok Tryz.func28 rfl Tryz.call28 sI ?_;(try (conv=>whnf));repeat' (first|refine Ok.seq ?_|((first|refine Ok.region tok ?_|refine Ok.cond ?_);conv=>whnf)|refine Ok.block ?_|(refine Ok.skip ?_;conv=>whnf)|(refine bI ?_ ?_<;>intro<;>first|omega|conv=>whnf)|fail)
 all_goals first
  | omega
  | skip
 refine Ok.aT [0,1] [5] 0 0 (fun (i:Nat)=>[.i .i64 (i:Nat)]) (fun _ b=>b) (fun _ r=>r) (fun (i:Nat)=>i<=l.length) (fun (i:Nat)=>l.length - i) (0) (Nat.zero_le _) ?_;(conv=>whnf);refine⟨by ((conv=>whnf);first|rfl|(simp[ak,au,aj.row,ay];done)|(simp[ak,au,aj.row,ay];rw[IntKind.wrap_i64];omega)),?_⟩;intro i hi;(conv=>whnf);by_cases hil:i<l.length
 . obtain⟨c,hc⟩:∃ c,l[i]? = some c:=⟨_,aC hil⟩
   have hcI:l[((i:Nat):Int).toNat]? = some c:=hc
   repeat' (first|(refine⟨_,EY,kR,?_⟩;conv=>whnf)|refine Ok.seq ?_|((first|refine Ok.region tok ?_|refine Ok.bH tok follows kR ?_|refine Ok.cond ?_);conv=>whnf)|refine Ok.block ?_|((first|refine Ok.skip ?_|refine Ok.ret ?_|refine nI ?_|refine ix _ aS ?_);conv=>whnf)|(refine bI ?_ ?_<;>intro<;>first|omega|conv=>whnf)|fail)
   all_goals first
    | (rename_i h;exfalso;simp[dM,eqD] at h;done)
    | (refine⟨i+1,oA,oA,?_⟩
       (conv=>whnf);rfl)
 . have hie:i=l.length:=oA
   subst hie;(try (conv=>whnf));repeat' (first|refine Ok.seq ?_|((first|refine Ok.region tok ?_|refine Ok.cond ?_|refine Ok.exit ?_|refine Ok.ret ?_);conv=>whnf)|(refine bI ?_ ?_<;>intro<;>first|omega|conv=>whnf)|fail)
   refine Or.inl ?_;(conv=>whnf);exact⟨rfl,rfl⟩
theorem Jc(l:List Int)(r1 r2:List (List D)){l1 l2:List (List D)}(e1:l1=l.map ay)(e2:l2=l.map ay)(hl:l.length<=3000000):aF Tryz.prog T 29 [.lst 3 l1 r1,.lst 3 l2 r2] (fun d rows=>d = .b True/\rows=[]):=by
 subst e1 e2;have h1:(l.map ay).length=l.length:=sI;refine aF.aB tok Tryz.func29 rfl Tryz.call29 sI ?_;(try (conv=>whnf));repeat' (first|refine Ok.seq ?_|((first|refine Ok.region tok ?_|refine Ok.cond ?_);conv=>whnf)|refine Ok.block ?_|(refine Ok.skip ?_;conv=>whnf)|(refine bI ?_ ?_<;>intro<;>first|omega|conv=>whnf)|fail)
 all_goals first
  | omega
  | skip
 refine Ok.aT [0,1] [5] 0 0 (fun (i:Nat)=>[.i .i64 (i:Nat)]) (fun _ b=>b) (fun _ r=>r) (fun (i:Nat)=>i<=l.length) (fun (i:Nat)=>l.length - i) (0) (Nat.zero_le _) ?_;(conv=>whnf);refine⟨by ((conv=>whnf);first|rfl|(simp[ak,au,aj.row,ay];done)|(simp[ak,au,aj.row,ay];rw[IntKind.wrap_i64];omega)),?_⟩;intro i hi;(conv=>whnf);by_cases hil:i<l.length
 . obtain⟨c,hc⟩:∃ c,l[i]? = some c:=⟨_,aC hil⟩
   have hcI:l[((i:Nat):Int).toNat]? = some c:=hc
   repeat' (first|refine Ok.seq ?_|((first|refine Ok.region tok ?_|refine Ok.bH tok follows kR ?_|refine Ok.cond ?_);conv=>whnf)|refine Ok.block ?_|((first|refine Ok.skip ?_|refine nI ?_|refine ix _ aS ?_);conv=>whnf)|(refine bI ?_ ?_<;>intro<;>first|omega|conv=>whnf)|fail)
   all_goals first
    | omega
    | (refine⟨i+1,oA,oA,?_⟩
       (conv=>whnf);rfl)
 . have hie:i=l.length:=oA
   subst hie;(try (conv=>whnf));repeat' (first|refine Ok.seq ?_|((first|refine Ok.region tok ?_|refine Ok.cond ?_|refine Ok.exit ?_|refine Ok.ret ?_);conv=>whnf)|(refine bI ?_ ?_<;>intro<;>first|omega|conv=>whnf)|fail)
   refine Or.inl ?_;(conv=>whnf);exact⟨rfl,rfl⟩
def rmK:List (List D):=[aj.row ⟨91,0,0,0⟩,aj.row ⟨92,0,0,0⟩]
theorem oh(l:List aj)(r1:List (List D)){l1:List (List D)}(e1:l1=l.map aj.row)(hl:l.length<=3000000):aF Tryz.prog T 22 [.lst 57 l1 r1] (fun d rows=>rows=[some (57,l.map aj.row++rmK)]/\d = .own 0 l.length):=by
 subst e1;have h1:(l.map aj.row).length=l.length:=sI;refine aF.aB tok Tryz.func22 rfl Tryz.call22 sI ?_;(try (conv=>whnf));repeat' (first|(refine⟨l.length,rfl,by show ((l.map aj.row).length:Int)=_;simp,sI,?_⟩;conv=>whnf)|refine Ok.seq ?_|((first|refine Ok.region tok ?_|refine Ok.ret ?_|refine bU.l (aI ?_)|refine⟨_,.inl ⟨rfl,rfl⟩,?_⟩|refine⟨_,_,rfl,rfl,?_⟩|refine aJ ?_);conv=>whnf)|fail)
 all_goals
  refine Or.inr (Or.inl ?_);(conv=>whnf);exact⟨rfl,rfl⟩
theorem k91(l:List aj):(List.drop 0 (List.take ((l.map aj.row).length+2) (l.map aj.row++rmK)))=l.map aj.row++rmK:=by
 rw[List.drop_zero,au (by simp[rmK])]
theorem g91(l:List aj){K:List D->Prop}(h:K (aj.row ⟨91,0,0,0⟩)):∃ row,(List.drop 0 (List.take ((l.map aj.row).length+2) (l.map aj.row++rmK)))[(((l.map aj.row).length:Nat):Int).toNat]? = some row/\K row:=by
 refine⟨_,?_,h⟩;rw[k91,Int.toNat_natCast,List.getElem?_append_right (Nat.le_refl _),Nat.sub_self];rfl
theorem g92(l:List aj){K:List D->Prop}(h:K (aj.row ⟨92,0,0,0⟩)):∃ row,(List.drop 0 (List.take ((l.map aj.row).length+2) (l.map aj.row++rmK)))[((((l.map aj.row).length:Nat):Int)+1).toNat]? = some row/\K row:=by
 refine⟨_,?_,h⟩;rw[k91,show ((((l.map aj.row).length:Nat):Int)+1).toNat=(l.map aj.row).length+1 by omega,List.getElem?_append_right oA,Nat.add_sub_cancel_left];rfl
theorem MG(l:List aj)(r2:List (List D))(hl:l.length<=60):aF Tryz.prog T 25 [.lst 57 (l.map aj.row) rmK,.lst 57 (l.map aj.row) r2] (fun d rows=>d = .b True/\rows=[]):=by
 have h1:(l.map aj.row).length=l.length:=sI;have h2:=fun (r:List (List D))=>DR l r r2 rfl rfl oA
 refine aF.aB tok Tryz.func25 rfl Tryz.call25 sI ?_;have h3:rmK.length=2:=rfl;(try (conv=>whnf));repeat' (first|((first|refine⟨_,EY,kR,?_⟩|refine g91 l ?_|refine g92 l ?_);conv=>whnf)|refine Ok.seq ?_|((first|refine Ok.region tok ?_|refine Ok.ret ?_|refine nI ?_);conv=>whnf)|(refine Or.inr (Or.inl ?_);(conv=>whnf);(repeat (refine aI ?_;conv=>whnf));refine⟨_,h2 _,?_⟩;rintro _ _ ⟨rfl,rfl⟩;conv=>whnf)|(refine⟨_,_,rfl,rfl,?_⟩;conv=>whnf)|(refine bI ?_ ?_<;>intro<;>first|omega|conv=>whnf)|(refine aJ ?_;conv=>whnf)|fail)
 all_goals first
  | (rename_i h;exfalso;simp[dM,eqD] at h;done)
  | (refine Or.inl ?_;(conv=>whnf)
     refine⟨?_,rfl⟩;show D.b _=_;simp[dM,eqD])
end Go.Proofs.YtnlingegeangmaaGreatDoor
namespace Go.Vx
open Go.RowKit Go.MapKept
def kP(k:Int × Int):D:=.agg [.i .i64 k.1,.i .i64 k.2]
theorem acQ{P:Program}{kt:TypeId}{a b:Field}(hu:P.underlying kt=some (.struct #[a,b]))(ha:a.offset=0)(hb:b.offset=1)
    (ta:P.underlying a.type=some (.int .i64))(tb:P.underlying b.type=some (.int .i64))(he:EqT P kt [.i .i64,.i .i64]):FU P kt kP:=by
 have pa:P.plainKey a.type=true:=by unfold Program.plainKey;rw[ta]
 have pb:P.plainKey b.type=true:=by unfold Program.plainKey;rw[tb]
 have hp:∀ (k:Int × Int) (j:Nat) v d,(#[Value.int .i64 k.1,Value.int .i64 k.2]:Array Value)[j]? = some v → [D.i .i64 k.1,D.i .i64 k.2][j]? = some d → lq d v:=by
  intro k j v d h1 h2
  match j with
  | 0=>simp at h1 h2;subst h1 h2;rfl
  | 1=>simp at h1 h2;subst h1 h2;rfl
  | j+2=>simp at h1
 have hv:∀ k:Int × Int,toV (kP k) = .agg #[.int .i64 k.1,.int .i64 k.2]:=fun k=>rfl
 refine⟨fun e k w=>?_,fun f l k w=>?_,fun k w=>?_,fun _=>rfl⟩
 . rw[hv]
   have h1:=run_part_plain w pa (xs:=#[Value.int .i64 k.1,Value.int .i64 k.2]) (off:=a.offset) (v:=.int .i64 k.1) (by rw[ha];rfl);have h2:=run_part_plain w pb (xs:=#[Value.int .i64 k.1,Value.int .i64 k.2]) (off:=b.offset) (v:=.int .i64 k.2) (by rw[hb];rfl)
   suffices hh:∀ n:Nat,(Instr.checkKey e (n+2) kt (.agg #[.int .i64 k.1,.int .i64 k.2])).run P w = .ok () w from hh 9998
   intro n;have c1:(Instr.checkKey e (n+1) a.type (.int .i64 k.1)).run P w = .ok () w:=run_checkKey (d:=.int .i64) (k:=.int .i64 k.1) ta rfl e n;have c2:(Instr.checkKey e (n+1) b.type (.int .i64 k.2)).run P w = .ok () w:=run_checkKey (d:=.int .i64) (k:=.int .i64 k.2) tb rfl e n;unfold Instr.checkKey;simp only[Sem.run_bind,run_underlying hu,Result.andThen_ok];by_cases na:a.name = "_" <;> by_cases nb:b.name = "_" <;> simp[na,nb,Sem.run_bind,h1,h2,c1,c2]
 . rw[hv,run_findKey_eq w (by rw[hu])]
   suffices h:∀ i,(Instr.findAsking kt (.agg #[.int .i64 k.1,.int .i64 k.2]) (l.map (dX kP f)) i).run P w = .ok ((dB k l i).map fun x=>(x.1,toV (f (some x.2)))) w from h 0
   induction l with
   | nil=>intro i;simp[Instr.findAsking,dB]
   | cons e l ih=>
    intro i;obtain⟨k',b',n⟩:=e;obtain⟨c,hc,hcc⟩:=he [.i .i64 k.1,.i .i64 k.2] [.i .i64 k'.1,.i .i64 k'.2] #[.int .i64 k.1,.int .i64 k.2] #[.int .i64 k'.1,.int .i64 k'.2] w rfl rfl rfl rfl (hp k) (hp k');simp only[List.map_cons,Instr.findAsking,Sem.run_bind,dX,hv,hc,Result.andThen_ok,dB];have hk:c=true ↔ k'=k:=by
     rw[hcc];simp only[dM,eqD];constructor
     . intro h;exact Prod.ext (by simp_all) (by simp_all)
     . rintro rfl;simp
    by_cases h:k'=k
    . rw[hk.2 h,if_pos h];simp
    . rw[show c=false by cases c with|false=>rfl|true=>exact absurd (hk.1 rfl) h,if_neg h]
      exact ih (i+1)
 . rw[hv]
   have hs:∀ n,Instr.sameBits (n+2) (.agg #[.int .i64 k.1,.int .i64 k.2]) (.agg #[.int .i64 k.1,.int .i64 k.2])=true:=fun n=>by simp[Instr.sameBits]
   unfold Instr.keyThatStays;rw[if_pos (hs 9998)];rfl
end Go.Vx
namespace Go.Vx
open Go.RowKit
abbrev aQ:=List (Nat × Obj)
def Fr.has(F:Fr)(M:aQ):Fr:={ F with kc:=M++F.kc }
structure xP(sz:TypeId->Nat)(w0:World)(F:Fr)(V:Vw)(μ:List Nat)(ω:List Value)(s:St)(a:Act)(w:World)(M:aQ):Prop where
 sim:Sim sz w0 (F.has M) V μ ω s a w
 nodup:((M++F.kc).map (·.1)).Nodup
def GoH(T:Tab)(s:St)(M:aQ)(K:St->aQ->Prop):Prop:=
 ∀ (w0:World) (F:Fr) (V:Vw) (μ:List Nat) (ω:List Value) (a:Act) (w:World),xP (ah T) w0 F V μ ω s a w M->∃ s' V' μ' ω' M',K s' M'/\xP (ah T) w0 F V' μ' ω' s' a w M'
section
variable {M : aQ} {s : St}
theorem xP.sub{sz:TypeId->Nat}{w0 w:World}{F:Fr}{V:Vw}{μ:List Nat}{ω:List Value}{a:Act}{M':aQ}(h:xP sz w0 F V μ ω s a w M)(hs:M'.Sublist M):xP sz w0 F V μ ω s a w M':=by
 have hm:∀ x ∈ M'++F.kc,x ∈ M++F.kc:=fun x hx=>by
  rcases bQ.1 hx with hx|hx
  . exact List.mem_append_left _ (hs.subset hx)
  . exact List.mem_append_right _ hx
 exact⟨⟨h.sim.tmps,⟨h.sim.defers.marks,h.sim.defers.kept⟩,h.sim.env,h.sim.mem.fr rfl hm⟩,h.nodup.sublist ((hs.append (List.Sublist.refl _)).map _)⟩
end
end Go.Vx
namespace Go.Vx
open Go.RowKit
def fP(sz:TypeId->Nat)(e:TypeId)(n c:Nat)(xs:List (List D))(o:Obj):Prop:=
 ∃ (cur:Array Value) (vals:List Value),o = .cells cur e (0,0)/\n=xs.length/\n<=c/\c<=maxLen/\cur.size=c*sz e/\cur.toList.take (n*sz e)=vals/\vals.length=n*sz e/\fU sz (fun _=>none) e vals xs
theorem fU.mono{sz:TypeId->Nat}{V V':Vw}{e:TypeId}{vals:List Value}{xs:List (List D)}(h:fU sz V e vals xs)(hV:VLe V V'):fU sz V' e vals xs:=
 ⟨h.one,h.len,fun i rw_ j d a b=>let ⟨u,x,y⟩:=h.rel i rw_ j d a b;⟨u,x,y.mono hV⟩⟩
theorem fU.ground{sz:TypeId->Nat}{V V':Vw}{e:TypeId}{vals:List Value}{xs:List (List D)}(h:fU sz V e vals xs)(hg:∀ x ∈ xs,grounds x=true):fU sz V' e vals xs:=
 ⟨h.one,h.len,fun i rw_ j d a b=>let ⟨u,x,y⟩:=h.rel i rw_ j d a b;⟨u,x,y.ground (o7 (hg rw_ (aU a)) j d b)⟩⟩
section
variable {P : Program} {T : Tab} {M : aQ} {K : St → aQ → Prop}
theorem GoH.perm{s:St}{M':aQ}(hp:M.Perm M')(h:K s M'):GoH T s M K:=by
 refine fun w0 F V μ ω a w hS=>⟨s,V,μ,ω,M',h,?_⟩
 have hm:∀ x ∈ M'++F.kc,x ∈ M++F.kc:=fun x hx=>((hp.append_right F.kc).mem_iff).2 hx
 exact⟨⟨hS.sim.tmps,⟨hS.sim.defers.marks,hS.sim.defers.kept⟩,hS.sim.env,hS.sim.mem.fr rfl hm⟩,((hp.append_right F.kc).map _).nodup_iff.1 hS.nodup⟩
theorem GoH.close(hT:TOk P T){env:List (Nat × D)}{box:List (List D)}{row:Rows}{nn:Nat}{t0 r g n cap:Nat}{e:TypeId}{ti:TI}{xs:List (List D)}(hti:T e=some ti)(ht:look env t0 = .tie r g n cap)
    (hr:row[r]? = some (some (e,xs)))(hg:∀ x ∈ xs,grounds x=true)(h:∀ o,fP (ah T) e n cap xs o->K ⟨env,box,row.set r none,nn⟩ ((g,o) :: M)):GoH T ⟨env,box,row,nn⟩ M K:=by
 intro w0 F V μ ω a w hS;have hv:=hS.sim.env t0;dsimp only at hv;rw[ht] at hv;have hω:=hv.zi;have hM:=hS.sim.mem;dsimp only at hM;obtain⟨A2,c2,vx,e1,hc,hmx,hA,hA2,hown,hR⟩:=hM.vJ (hT _ _ hti).small hω hr;injection e1 with e1 e2 e3
 subst e1 e3;have hrr:r<row.length:=(aK.1 hr).1;rcases hown.2 with⟨h1,_⟩|⟨g2,cap2,cur,h1,hb,hh,q1,q2,q3,q4⟩
 . cases h1
 cases h1;have uN:Own μ ω row (.inr r) g:=⟨_,_,hω,hr,rfl⟩;have own:∀ l b,Own μ ω (row.set r none) l b->Own μ ω row l b/\l ≠ .inr r:=by
  intro l b hl
  cases l with
  | inl i=>exact⟨hl,sI⟩
  | inr q=>
   obtain⟨u,y,k1,k2,k3⟩:=hl;by_cases hq:q=r
   . subst hq
     rw[List.getElem?_set_self hrr] at k2;cases k2
   . rw[List.getElem?_set_ne (Ne.symm hq)] at k2
     exact⟨⟨u,y,k1,k2,k3⟩,by simpa using hq⟩
 refine⟨_,V,μ,ω,_,h (.cells cur e (0,0)) ⟨cur,vx,rfl,e2,q1,q2,q3,q4,hown.1,hR.ground hg⟩,⟨⟨hS.sim.tmps,⟨hS.sim.defers.marks,hS.sim.defers.kept⟩,hS.sim.env,?_⟩,?_⟩⟩
 . refine⟨hM.below,hM.vok,hM.vle,hM.gu,hM.bl,hM.hbox,by simp[hM.rl],?_,fun l l' b h1 h2=>hM.uniq l l' b (own l b h1).1 (own l' b h2).1,fun l b h1=>hM.new l b (own l b h1).1,fun p u l hp h1=>hM.eF p u l hp (own l _ h1).1,fun x hx=>?_⟩
   . intro q u e' ys k1 k2
     by_cases hq:q=r
     . subst hq
       rw[List.getElem?_set_self hrr] at k2;cases k2
     . rw[List.getElem?_set_ne (Ne.symm hq)] at k2
       exact hM.hrow q u e' ys k1 k2
   . have hx:x ∈ (g,Obj.cells cur e (0,0)) :: (M++F.kc):=hx
     rcases List.mem_cons.1 hx with rfl|hx
     . refine⟨hh,hb,fun l hl=>?_,fun p u hp hpb=>hM.eF p u (.inr r) hp (hpb ▸ uN),fun hn=>hn _ _ _ rfl⟩
       obtain⟨k1,k2⟩:=own l _ hl;exact k2 (hM.uniq l (.inr r) g k1 uN)
     . obtain⟨a1,b1,c1,d1⟩:=hM.away x hx
       exact⟨a1,b1,fun l hl=>c1 l (own l _ hl).1,d1⟩
 . show (((g,Obj.cells cur e (0,0)) :: (M++F.kc)).map (·.1)).Nodup
   rw[List.map_cons,List.nodup_cons];refine⟨fun hmem=>?_,hS.nodup⟩;obtain⟨x,hx,hxg⟩:=List.mem_map.1 hmem;exact (hM.away x hx).2.2.1 (.inr r) (by rw[hxg];exact uN)
theorem GoH.open{env:List (Nat × D)}{box:List (List D)}{row:Rows}{nn:Nat}{g n cap:Nat}(t1:Nat){e:TypeId}{xs:List (List D)}{o:Obj}(hb:fP (ah T) e n cap xs o)
    (h:natLit row.length fun q=>gZ row (some (e,xs)) fun row'=>K ⟨(t1,.tie q g n cap) :: env,box,row',nn⟩ M):GoH T ⟨env,box,row,nn⟩ ((g,o) :: M) K:=by
 simp only[kW,kY] at h;intro w0 F V μ ω a w hS;have hM:=hS.sim.mem;dsimp only at hM;obtain⟨cur,vals,rfl,hn,q1,q2,q3,q4,q5,hR⟩:=hb;obtain⟨a1,b1,c1,d1,_⟩:=hM.away (g,.cells cur e (0,0)) (by show _ ∈ _ :: (M++F.kc);simp);dsimp only at a1 b1 c1 d1;have hnd:((g,Obj.cells cur e (0,0)) :: (M++F.kc)).map (·.1) |>.Nodup:=hS.nodup
 rw[List.map_cons,List.nodup_cons] at hnd;have hl:row.length=ω.length:=hM.rl.symm;have hpre:Pre ω (ω++[.slice (some ⟨g,0,none⟩) n cap]):=.append _ _;have hlt:g<w.heap.size:=(Array.getElem?_eq_some_iff.1 a1).1;refine⟨_,V,μ,ω++[.slice (some ⟨g,0,none⟩) n cap],_,h,⟨⟨hS.sim.tmps,⟨hS.sim.defers.marks,hS.sim.defers.kept⟩,fun t=>?_,?_⟩,hnd.2⟩⟩
 . show RS _ _ _ _ _ (look ((t1,_) :: env) t)
   unfold look;split
   . exact .tie _ _ _ _ _ (by rw[hl,List.getElem?_append_right (Nat.le_refl _),Nat.sub_self];rfl)
   . exact (hS.sim.env t).mono (.refl V) (.refl μ) hpre
 . refine⟨hM.below,hM.vok,hM.vle,hM.gu,hM.bl,fun i b cs k1 k2=>?_,by simp[hM.rl],fun r u e' ys k1 k2=>?_,fun l l' b h1 h2=>?_,fun l b h1=>?_,fun p u l hp h1=>?_,fun x hx=>?_⟩
   . obtain⟨us,t',x1,x2,x3,x4,x5⟩:=hM.hbox i b cs k1 k2
     exact⟨us,t',x1,x2,x3,fun j v d' e f=>(x4 j v d' e f).mono (.refl V) (.refl μ) hpre,x5⟩
   . rcases zC k2 with k2|⟨rfl,k5⟩
     . have hi:r<ω.length:=by rw[hM.rl];exact (aK.1 k2).1
       rw[List.getElem?_append_left hi] at k1;exact hM.hrow r u e' ys k1 k2
     . rw[hl,List.getElem?_append_right (Nat.le_refl _),Nat.sub_self] at k1
       simp at k1;subst k1;cases k5;have hR2:=hR.mono (V':=V) (fun _ _ h=>by cases h);exact⟨vals,⟨by rw[<- hn];exact q5,.inr ⟨g,cap,cur,e,(0,0),by rw[hn],b1,a1,by rw[<- hn];exact q1,q2,q3,by rw[<- hn];exact q4,.inl ⟨rfl,rfl⟩⟩⟩,hR2.one,hR2.len,hR2.rel⟩
   . rcases Own.pG rfl rfl hM.rl h1 with h3|⟨e1,e2⟩<;>rcases Own.pG rfl rfl hM.rl h2 with h4|⟨e3,e4⟩
     . exact hM.uniq l l' b h3 h4
     . simp only[Value.ownBlock,Option.some.injEq] at e4;subst e4;exact absurd h3 (c1 l)
     . simp only[Value.ownBlock,Option.some.injEq] at e2;subst e2;exact absurd h4 (c1 l')
     . rw[e1,e3]
   . rcases Own.pG rfl rfl hM.rl h1 with h1|⟨rfl,e2⟩
     . exact hM.new l b h1
     . simp only[Value.ownBlock,Option.some.injEq] at e2;subst e2;exact⟨b1,hlt⟩
   . rcases Own.pG rfl rfl hM.rl h1 with h1|⟨rfl,e2⟩
     . exact hM.eF p u l hp h1
     . simp only[Value.ownBlock,Option.some.injEq] at e2;exact d1 p u hp e2.symm
   . have hx':x ∈ M++F.kc:=hx
     obtain⟨a2,b2,c2,d2⟩:=hM.away x (List.mem_cons_of_mem _ hx');refine⟨a2,b2,fun l hl2=>?_,d2⟩;rcases Own.pG rfl rfl hM.rl hl2 with h1|⟨rfl,e2⟩
     . exact c2 l h1
     . simp only[Value.ownBlock,Option.some.injEq] at e2
       exact hnd.1 (List.mem_map.2 ⟨x,hx',e2.symm⟩)
end
end Go.Vx
namespace Go.Vx
open Go.RowKit
section
variable {P : Program} {T : Tab} {M : aQ} {K : St → aQ → Prop}
theorem GoH.raw(hT:TOk P T){env:List (Nat × D)}{box:List (List D)}{row:Rows}{nn:Nat}(t t1:Nat){r n0:Nat}{e:TypeId}{ti:TI}{xs:List (List D)}(hti:T e=some ti)(ht:look env t = .own r n0)
    (hr:row[r]? = some (some (e,xs)))(hn0:n0=xs.length)
    (hnil:xs=[]->K ⟨(t,.rnl) :: env,box,row,nn⟩ M)
    (hs:∀ g cap,xs.length<=cap->K ⟨(t1,.tie r g xs.length cap) :: (t,.rsl g xs.length cap) :: env,box,row,nn⟩ M):GoH T ⟨env,box,row,nn⟩ M K:=by
 intro w0 F V μ ω a w hS;have hv:=hS.sim.env t;dsimp only at hv;rw[ht] at hv;have hM:=hS.sim.mem;dsimp only at hM;obtain⟨A,N,cx,hω,hnN,hve⟩:=hv.jd;obtain⟨A2,c2,vx,e1,hc,hmx,hA,hA2,hown,hR⟩:=hM.vJ (hT _ _ hti).small hω hr;injection e1 with e1 e2 e3
 subst e1 e3;rcases hown.2 with⟨h1,h2⟩|⟨g2,cap2,cur,h1,hb,hh,q1,q2,q3,q4⟩
 . have hx:xs=[]:=List.eq_nil_of_length_eq_zero h2
   subst hx;cases h1;refine⟨_,V,μ,ω,M,hnil rfl,⟨⟨hS.sim.tmps,hS.sim.defers,fun t'=>?_,hM⟩,hS.nodup⟩⟩;show RS _ _ _ _ _ (look ((t,_) :: env) t');unfold look;split
   . rename_i hb
     have:=dO hb;subst this;rw[hve,hn0];exact .imm _ _ .rnl
   . exact hS.sim.env t'
 . cases h1
   refine⟨_,V,μ,ω,M,hs g2 cx q1,⟨⟨hS.sim.tmps,hS.sim.defers,fun t'=>?_,hM⟩,hS.nodup⟩⟩;show RS _ _ _ _ _ (look ((t1,_) :: (t,_) :: env) t');unfold look;split
   . exact .tie _ _ _ _ _ (by rw[hω,e2])
   . unfold look
     split
     . rename_i hb
       have:=dO hb;subst this;rw[hve,hn0];exact .imm _ _ (.rsl _ _ _)
     . exact hS.sim.env t'
theorem GoH.pad(e:TypeId){env:List (Nat × D)}{box:List (List D)}{row:Rows}{n:Nat}
    (h:gZ row (some (e,[])) fun row'=>K ⟨env,box,row',n⟩ M):GoH T ⟨env,box,row,n⟩ M K:=by
 intro w0 F V μ ω a w hS;simp only[kY] at h;have hM:=hS.sim.mem.newRow (w':=w) (Ext.refl w) (v:=.slice none 0 0) (e:=e) (xs:=[]) (vals:=[]) ⟨sI,.inl ⟨rfl,rfl⟩⟩ ⟨sI,sI,sI⟩ (by simp[Value.ownBlock]);exact⟨_,V,μ,ω++[.slice none 0 0],M,h,⟨⟨hS.sim.tmps,hS.sim.defers,fun x=>(hS.sim.env x).mono (.refl V) (.refl μ) (.append _ _),hM⟩,hS.nodup⟩⟩
end
end Go.Vx
namespace Go.Vx
open Go.RowKit
section
variable {w0 w : World} {V0 : Fr} {V : Vw} {μ : List Nat} {ω : List Value} {box : List (List D)} {row : Rows} {P : Program} {T : Tab} {Q : Exit → St → Prop}
theorem Ok.tab{s:St}{c:Code}(T':Tab)(hT:ah T'=ah T)(h:Ok P T' c Q s):Ok P T c Q s:=⟨by rw[<- hT];exact h.run⟩
end
end Go.Vx
namespace Go.Vx
open Go.RowKit
structure jf(sz:TypeId->Nat)(w0:World)(F:Fr)(V:Vw)(μ:List Nat)(ω:List Value)(s:St)(a:Act)(w:World)(H M:aH)(B:aQ):Prop where
 m:dD sz w0 (F.has B) V μ ω s a w H M
 nd:((B++F.kc).map (·.1)).Nodup
structure OkB(P:Program)(T:Tab)(H:aH)(c:Code)(Q:Exit->St->aH->aQ->Prop)(s:St)(M:aH)(B:aQ):Prop where
 run:∀ (w0:World) (F:Fr) (V:Vw) (μ:List Nat) (ω:List Value) (a:Act) (w:World),jf (ah T) w0 F V μ ω s a w H M B ->
  c.wp P (fun e a' w'=>∃ s' V' μ' ω' M' B',Q e s' M' B'/\jf (ah T) w0 F V' μ' ω' s' a' w' H M' B') a w
section
variable {P : Program} {T : Tab} {H M : aH} {B : aQ} {s : St} {Q : Exit → St → aH → aQ → Prop}
theorem OkB.aA{c:Code}(h:OkM P T H c (fun e s' M'=>Q e s' M' B) s M):OkB P T H c Q s M B:=by
 refine⟨fun w0 F V μ ω a w hS=>wp_mono (h.run w0 (F.has B) V μ ω a w hS.m) ?_⟩;rintro e a' w' ⟨s',V',μ',ω',M',hk,hS'⟩;exact⟨s',V',μ',ω',M',B,hk,hS',hS.nd⟩
theorem jf.of{sz:TypeId->Nat}{w0 w w':World}{F:Fr}{V V':Vw}{μ μ':List Nat}{ω ω':List Value}{s s':St}{a a':Act}(h:jf sz w0 F V μ ω s a w H M B)(h':Sim sz w0 ((F.has B).with M) V' μ' ω' s' a' w'):jf sz w0 F V' μ' ω' s' a' w' H M B:=
 ⟨h.m.of h',h.nd⟩
theorem jf.sub{sz:TypeId->Nat}{w0 w:World}{F:Fr}{V:Vw}{μ:List Nat}{ω:List Value}{a:Act}{M':aH}{B':aQ}(h:jf sz w0 F V μ ω s a w H M B)(hs:M'.Sublist M)(hb:B'.Sublist B):jf sz w0 F V μ ω s a w H M' B':=by
 have h1:=h.m.sub hs;have h2:xP sz w0 (F.with M') V μ ω s a w B':=xP.sub (M:=B) ⟨h1.sim,h.nd⟩ hb;exact⟨⟨h2.sim,h1.nodup,h1.old⟩,h2.nodup⟩
theorem OkB.go{c:Code}(h:GoH T s B fun s' B'=>OkB P T H c Q s' M B'):OkB P T H c Q s M B:=by
 refine⟨fun w0 F V μ ω a w hS=>?_⟩;obtain⟨s',V',μ',ω',B',hk,hS'⟩:=h w0 (F.with M) V μ ω a w ⟨hS.m.sim,hS.nd⟩;exact hk.run w0 F V' μ' ω' a w ⟨⟨hS'.sim,hS.m.nodup,hS.m.old⟩,hS'.nodup⟩
theorem OkB.step{c:Code}{X:(St->Prop)->Prop}(hX:∀ {w0:World} {F:Fr} {V:Vw} {μ:List Nat} {ω:List Value} {a:Act} {w:World} {K:St->Prop},Sim (ah T) w0 F V μ ω s a w->X K->∃ s' V' μ' ω',K s'/\Sim (ah T) w0 F V' μ' ω' s' a w)
    (h:X fun s=>OkB P T H c Q s M B):OkB P T H c Q s M B:=by
 refine⟨fun w0 F V μ ω a w hS=>?_⟩;obtain⟨s',V',μ',ω',hk,hS'⟩:=hX hS.m.sim h;exact hk.run w0 F V' μ' ω' a w (hS.of hS')
theorem OkB.moves{c:Code}(mv:List Nat)(h:AX mv s fun s=>OkB P T H c Q s M B):OkB P T H c Q s M B:=
 OkB.step (X:=AX mv s) (fun hS hk=>let ⟨s',ω',a,b⟩:=GX mv hS hk;⟨s',_,_,ω',a,b⟩) h
theorem OkB.keep{c:Code}(L:List Nat)(k kb:Nat)(h:dN L k kb s fun s=>OkB P T H c Q s M B):OkB P T H c Q s M B:=
 OkB.step (X:=dN L k kb s) (fun hS hk=>let ⟨s',μ',ω',a,b⟩:=og hS hk;⟨s',_,μ',ω',a,b⟩) h
theorem OkB.pub{c:Code}(r:Nat)(h:rU r s [] fun _ s'=>OkB P T H c Q s' M B):OkB P T H c Q s M B:=
 OkB.step (X:=fun K=>rU r s [] fun _ s'=>K s') (fun hS hk=>let ⟨V',_,s',a,_,b,_⟩:=Nr (vs:=[]) hS ⟨rfl,fun j v d h=>by simp at h⟩ hk;⟨s',V',_,_,a,b⟩) h
theorem OkB.perm{c:Code}{B':aQ}(hp:B.Perm B')(h:OkB P T H c Q s M B'):OkB P T H c Q s M B:=.go (.perm hp h)
def Ky(N:St->aH->aQ->Prop)(Q:Exit->St->aH->aQ->Prop):Exit->St->aH->aQ->Prop
 | .normal,s,M,B=>N s M B
 | e,s,M,B=>Q e s M B
theorem OkB.seq{x y:Code}(h:OkB P T H x (Ky (OkB P T H y Q) Q) s M B):OkB P T H (.seq x y) Q s M B:=by
 refine⟨fun w0 F V μ ω a w hS=>wp_seq (wp_mono (h.run w0 F V μ ω a w hS) ?_)⟩;rintro e a' w' ⟨s',V',μ',ω',M',B',hk,hS'⟩
 cases e with
 | normal=>exact OkB.run hk w0 F V' μ' ω' a' w' hS'
 | _=>exact⟨s',V',μ',ω',M',B',hk,hS'⟩
theorem OkB.skip(h:Q .normal s M B):OkB P T H .skip Q s M B:=⟨fun _ _ V μ ω _ _ hS=>wp_skip ⟨s,V,μ,ω,M,B,h,hS⟩⟩
theorem OkB.ret(h:Q .ret s M B):OkB P T H .ret Q s M B:=⟨fun _ _ V μ ω _ _ hS=>wp_ret ⟨s,V,μ,ω,M,B,h,hS⟩⟩
theorem OkB.exit{id:Nat}(h:Q (.exit id) s M B):OkB P T H (.exit id) Q s M B:=⟨fun _ _ V μ ω _ _ hS=>wp_exit ⟨s,V,μ,ω,M,B,h,hS⟩⟩
def TD(id:Nat)(Q:Exit->St->aH->aQ->Prop):Exit->St->aH->aQ->Prop
 | .exit id',s,M,B=>match Nat.beq id' id with|true=>Q .normal s M B|false=>Q (.exit id') s M B
 | e,s,M,B=>Q e s M B
theorem OkB.block{id:Nat}{c:Code}(h:OkB P T H c (TD id Q) s M B):OkB P T H (.block id c) Q s M B:=by
 refine⟨fun w0 F V μ ω a w hS=>?_⟩;refine wp_block (wp_mono (h.run w0 F V μ ω a w hS) ?_);rintro e a' w' ⟨s',V',μ',ω',M',B',hk,hS'⟩
 cases e with
 | exit id'=>
  simp only[TD] at hk;simp only[Exit.inBlock];split at hk
  . rename_i hb
    rw[if_pos (dO hb)];exact⟨s',V',μ',ω',M',B',hk,hS'⟩
  . rename_i hb
    rw[if_neg (by rintro rfl;rw[Nat.beq_refl] at hb;cases hb)];exact⟨s',V',μ',ω',M',B',hk,hS'⟩
 | _=>exact⟨s',V',μ',ω',M',B',hk,hS'⟩
theorem OkB.cond{c:Operand}{x y:Code}(h:yX s c (fun s=>OkB P T H x Q s M B) (fun s=>OkB P T H y Q s M B)):OkB P T H (.cond c x y) Q s M B:=by
 refine⟨fun w0 F V μ ω a w hS=>?_⟩;have hc:=hS.m.sim.get c;unfold yX at h;split at h
 . rename_i hd;rw[hd] at hc;exact wp_cond_true hc.tt_ (h.run w0 F V μ ω a w hS)
 . rename_i hd;rw[hd] at hc;exact wp_cond_false hc.ff_ (h.run w0 F V μ ω a w hS)
 . rename_i p hd
   rw[hd] at hc;obtain⟨b,hb,hbp⟩:=hc.bool
   cases b with
   | true=>exact wp_cond_true hb ((h.1 (hbp.1 rfl)).run w0 F V μ ω a w (hS.of (hS.m.sim.know c (by rw[hb];exact .imm _ _ .tt))))
   | false=>exact wp_cond_false hb ((h.2 (fun hp=>by simpa using hbp.2 hp)).run w0 F V μ ω a w (hS.of (hS.m.sim.know c (by rw[hb];exact .imm _ _ .ff))))
 . exact h.elim
theorem OkB.oJ{c:Code}{ι:Type}(L:List Nat)(k kb:Nat)(mk:ι->St)(mo:ι->aH)(bo:ι->aQ)(I:ι->Prop)(m:ι->Nat)(x0:ι)(h0:I x0)(hm:(mo x0).Sublist M)(hb:(bo x0).Sublist B)(hs:dN L k kb s (·=mk x0))
    (round:∀ x,I x->OkB P T H c (Ky (fun s' M' B'=>∃ x',m x' < m x/\I x'/\(mo x').Sublist M'/\(bo x').Sublist B'/\dN L k kb s' (·=mk x')) Q) (mk x) (mo x) (bo x)):OkB P T H (.loop c) Q s M B:=by
 refine⟨fun w0 F V μ ω a w hS=>?_⟩;replace hS:=hS.sub hm hb;obtain⟨s',μ',ω',rfl,hS'⟩:=og hS.m.sim hs;refine Ht (fun n a w=>∃ x V μ ω,m x=n/\I x/\jf (ah T) w0 F V μ ω (mk x) a w H (mo x) (bo x)) ?_ ⟨x0,V,μ',ω',rfl,h0,hS.of hS'⟩;rintro n a w ⟨x,V,μ,ω,rfl,hI,hS⟩;refine wp_mono ((round x hI).run w0 F V μ ω a w hS) ?_;rintro e a' w' ⟨s',V',μ',ω',M',B',hk,hS'⟩
 cases e with
 | normal=>
  obtain⟨x',hlt,hI',hsb,hsc,hk⟩:=hk;replace hS':=hS'.sub hsb hsc;obtain⟨s2,μ2,ω2,rfl,hS2⟩:=og hS'.m.sim hk;exact⟨m x',hlt,x',V',μ2,ω2,rfl,hI',hS'.of hS2⟩
 | _=>exact⟨s',V',μ',ω',M',B',hk,hS'⟩
theorem OkB.aT{c:Code}{ι:Type}(L Cs:List Nat)(k kb:Nat)(C:ι->List D)(B':ι->List (List D)->List (List D))(R:ι->Rows->Rows)(mo:ι->aH)(bo:ι->aQ)(I:ι->Prop)(m:ι->Nat)(x0:ι)(h0:I x0)(hm:(mo x0).Sublist M)(hb:(bo x0).Sublist B)
    (h:dN L k kb s fun s0=>match s0 with
     | ⟨env,box,row,n⟩=>(dN (je Cs L) k kb s fun s1=>s1=⟨ak Cs (C x0) env,B' x0 box,R x0 row,n⟩) /\
      ∀ x,I x->mg Cs (C x) env fun env'=>OkB P T H c (Ky (fun s' M' BB=>∃ x',m x' < m x/\I x'/\(mo x').Sublist M'/\(bo x').Sublist BB/\dN (je Cs L) k kb s' fun s1=>s1=⟨ak Cs (C x') env,B' x' box,R x' row,n⟩) Q) ⟨env',B' x box,R x row,n⟩ (mo x) (bo x)):OkB P T H (.loop c) Q s M B:=by
 obtain⟨⟨env,box,row,n⟩,h1,h2⟩:=sZ h;exact OkB.oJ (je Cs L) k kb (fun x=>⟨ak Cs (C x) env,B' x box,R x row,n⟩) mo bo I m x0 h0 hm hb h1 fun x hx=>by
  have:=h2 x hx;rwa [qJ] at this
end
end Go.Vx
