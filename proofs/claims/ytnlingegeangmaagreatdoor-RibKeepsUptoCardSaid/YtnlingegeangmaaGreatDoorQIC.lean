/- The walks and the plain laws that a law of networks needs, part 3 of 7. -/
import Derived.Test.YtnlingegeangmaaGreatDoorQIB
import Derived.Test.YtnlingegeangmaaGreatDoorRows
import Derived.ProofKit
import Derived.Deep.Slices
import Derived.Scope
import Derived.WalkSmall
import Derived.Defers
import Derived.Recover
import Derived.Shelf.SlSortFuncK.WholeK
import Derived.Shelf.GgSortFunc.Tiny
import Derived.Test.YtnlingegeangmaaGreatDoorProg
import Derived.Shelf.Strings.Builder1
import Derived.Shelf.Strings.Split
import Derived.Ground.GgsProg
import Derived.Shelf.Strings.Repeat
import Derived.Shelf.Strings.SlTrimAscii
set_option linter.unusedVariables false
set_option linter.unusedSimpArgs false
set_option linter.unusedSectionVars false
set_option maxRecDepth 100000
set_option maxHeartbeats 16000000
namespace Go.Proofs.YtnlingegeangmaaGreatDoor
open Go Go.Vx
theorem Wv(bits:Int)(l:List aj)(room:List (List D)):aF Tryz.prog T 38 [.i .i64 bits,.lst 57 (l.map aj.row) room] (fun d rows=>rows=[some (57,(dR bits l).map aj.row)]/\d = .tup [.own 0 (dR bits l).length,.i .i64 (dV bits l)]):=by
 refine aF.aB tok Tryz.func38 rfl Tryz.call38 sI ?_;(try (conv=>whnf));repeat' (first|refine Ok.seq ?_|((first|refine Ok.region tok ?_|refine Ok.cond ?_|refine Ok.skip ?_|refine Ok.ret ?_);conv=>whnf)|(refine Or.inl ?_;(conv=>whnf);(repeat (refine aI ?_;conv=>whnf));refine⟨_,NR bits l room,rfl,?_⟩;conv=>whnf)|(refine bI ?_ ?_<;>intro<;>first|omega|conv=>whnf)|fail)
 . rename_i h1
   refine Or.inr (Or.inr ?_);(conv=>whnf);simp[iE,dR,h1]
 rename_i h1;have h1:dV bits l=0:=Classical.not_not.1 h1;obtain⟨hl,hb1,hb2,hok⟩:=DC h1;right;left;(conv=>whnf);refine⟨_,NQ l room oA,?_⟩;rintro d rows ⟨rfl,ps,hp,hs,rfl⟩;have hE:dR bits l=(ps.foldl ddF []).map (·.r):=by unfold dR;rw[if_neg oA,Ez (SX hp hs)]
 have Ld:(ps.foldl ddF []).length<=256:=by have:=JM ps;have:=hp.length_eq;simp[eG] at this;omega
 generalize ps.foldl ddF []=o at hE Ld ⊢;have hol:(o.map Num.row).length=o.length:=sI;(try (conv=>whnf));repeat' (first|refine Ok.block ?_|fail)
 refine Ok.ghost 7 57 rfl ?_;(conv=>whnf);refine Ok.aT [17,18] [7,19] 1 0 (fun (x:Nat × List aj)=>[.own 0 x.2.length,.i .i64 (x.1:Nat)]) (fun _ b=>b) (fun (x:Nat × List aj) (_:Vx.Rows)=>[some (57,x.2.map aj.row)]) (fun (x:Nat × List aj)=>x.1<=o.length/\x.2=(o.take x.1).map (·.r)) (fun (x:Nat × List aj)=>o.length - x.1) ((0,[])) (⟨Nat.zero_le _,sI⟩) ?_;(conv=>whnf);refine⟨by ((conv=>whnf);first|rfl|(simp[ak, au, aj.row];done)|(simp[ak, au, aj.row];rw[IntKind.wrap_i64];omega)),?_⟩;rintro⟨k,acc⟩ ⟨hk,hacc⟩;dsimp only at hk hacc ⊢;have hal:acc.length=k:=by rw[hacc];simp;omega
 by_cases hkl:k<o.length
 . obtain⟨x,hx⟩:∃ x,o[k]? = some x:=⟨_,aC hkl⟩
   (try (conv=>whnf));repeat' (first|refine Ok.seq ?_|((first|refine Ok.region tok ?_|refine Ok.cond ?_);conv=>whnf)|refine Ok.block ?_|((first|refine Ok.skip ?_|refine nI ?_|refine ix _ aS ?_|refine bU.l (aI ?_)|refine⟨_,.inl ⟨rfl,rfl⟩,?_⟩|refine⟨_,_,rfl,rfl,?_⟩);conv=>whnf)|(refine bI ?_ ?_<;>intro<;>first|omega|conv=>whnf)|(refine aJ ?_;conv=>whnf)|fail)
   refine⟨(k+1,acc++[x.r]),by dsimp only;omega,⟨by dsimp only;omega,?_⟩,?_⟩
   . dsimp only
     rw[List.take_add_one,hx,hacc];simp
   . (conv=>whnf);simp[ak,aj.row]
 . have hkk:k=o.length:=oA
   subst hkk;(try (conv=>whnf));repeat' (first|refine Ok.seq ?_|((first|refine Ok.region tok ?_|refine Ok.cond ?_|refine Ok.exit ?_|refine Ok.ret ?_);conv=>whnf)|(refine bI ?_ ?_<;>intro<;>first|omega|conv=>whnf)|fail)
   refine Or.inr (Or.inl ?_);(conv=>whnf);have ha:acc=dR bits l:=by rw[hacc,hE,List.take_length]
   rw[<- ha,h1];refine⟨rfl,?_⟩;simp[iE]
theorem Ac(bits:Int)(l:List aj){rl sl:List (List D)}(h:rl=l.map aj.row):aF Tryz.prog T 38 [.i .i64 bits,.lst 57 rl sl] (fun d rows=>rows=[some (57,(dR bits l).map aj.row)]/\d = .tup [.own 0 (dR bits l).length,.i .i64 (dV bits l)]):=by
 subst h;exact Wv _ _ _
end Go.Proofs.YtnlingegeangmaaGreatDoor
namespace Go.Proofs.YtnlingegeangmaaGreatDoor
open Go Go.Vx
def q(k:Nat)(x:Int):Int:=x.fdiv (2 ^ k)
theorem p2(k:Nat):(0:Int)<2 ^ k:=Int.pow_pos oA
theorem qZ(k:Nat)(x:Int):q k x=x / 2 ^ k:=by unfold q;exact Int.fdiv_eq_ediv_of_nonneg _ (Int.le_of_lt (p2 k))
theorem Le{i j:Nat}{a b:Int}(h:q j a=q j b)(hij:j<=i):q i a=q i b:=by
 have e:∀ x:Int,q i x=q j x / 2 ^ (i - j):=fun x=>by
  rw[qZ,qZ,Int.ediv_ediv_of_nonneg (Int.le_of_lt (p2 j)),<- Int.pow_add];congr 2;omega
 rw[e,e,h]
theorem AV{bits v:Int}{r:aj}:gK bits r v ↔ q (bits - r.len).toNat v=q (bits - r.len).toNat r.value:=Iff.rfl
def cov(l:List aj)(bits len x:Int):Prop:=∃ r ∈ l,len<=r.len/\gK bits r x
def Fil(l:List aj)(bits v len:Int):Prop:=∀ x,0<=x->x<2 ^ bits.toNat->q (bits - len).toNat x=q (bits - len).toNat v->cov l bits len x
def Hal(l:List aj)(bits v len:Int):Prop:=∀ x,0<=x->x<2 ^ bits.toNat->q (bits - len).toNat x=q (bits - len).toNat v->cov l bits (len+1) x
theorem ZU{l:List aj}{bits v len:Int}{r:aj}(hr:r ∈ l)(h:r.len=len)(hq:q (bits - len).toNat r.value=q (bits - len).toNat v):Fil l bits v len:=
 fun x _ _ hx=>⟨r,hr,oA,by rw[AV,h,hx,hq]⟩
theorem YC{l:List aj}{bits v len:Int}(h0:0<=v)(h1:v<2 ^ bits.toNat)(h:∀ r ∈ l,¬ (len<=r.len/\q (bits - len).toNat r.value=q (bits - len).toNat v)):¬ Fil l bits v len:=by
 intro hf;obtain⟨r,hr,hl,hh⟩:=hf v h0 h1 rfl;exact h r hr ⟨hl,(Le (AV.1 hh) oA).symm⟩
theorem ZV{l:List aj}{bits v len:Int}(h:∀ r ∈ l,¬ (r.len=len/\q (bits - len).toNat r.value=q (bits - len).toNat v)):Fil l bits v len ↔ Hal l bits v len:=by
 constructor
 . intro hf x h0 h1 hx
   obtain⟨r,hr,hl,hh⟩:=hf x h0 h1 hx;refine⟨r,hr,?_,hh⟩;apply Classical.byContradiction;intro hn;have:r.len=len:=oA;refine h r hr ⟨this,?_⟩;rw[AV,this] at hh;rw[<- hh,hx]
 . intro hf x h0 h1 hx
   obtain⟨r,hr,hl,hh⟩:=hf x h0 h1 hx;exact⟨r,hr,oA,hh⟩
theorem ZW{l:List aj}{bits v:Int}(h0:0<=v)(h1:v<2 ^ bits.toNat)(hok:∀ r ∈ l,okR bits r):¬ Hal l bits v bits:=by
 intro hf;obtain⟨r,hr,hl,_⟩:=hf v h0 h1 rfl;have:=(hok r hr).2.2.2.1;omega
theorem Xl{k:Nat}{v:Int}(hv:v % 2 ^ (k+1)=0):q k v=2*q (k+1) v/\q k (v+2 ^ k)=2*q (k+1) v+1:=by
 have hp:=p2 k;rw[qZ,qZ,qZ];have e:(2:Int) ^ (k+1)=2*2 ^ k:=by rw[Int.pow_succ,Int.mul_comm]
 rw[e] at hv ⊢;have hd:=Int.mul_ediv_add_emod v (2*2 ^ k);rw[hv,Int.add_zero] at hd;generalize v / (2*2 ^ k)=c at hd ⊢;have hv2:v=(2*c)*2 ^ k:=by rw[<- hd,Int.mul_comm (2*2 ^ k) c,Int.mul_comm 2 c,Int.mul_assoc]
 refine⟨by rw[hv2,Int.mul_ediv_cancel _ oA],?_⟩;have:v+2 ^ k=(2*c+1)*2 ^ k:=by rw[hv2,Int.add_mul,Int.one_mul]
 rw[this,Int.mul_ediv_cancel _ oA]
theorem Rk{k:Nat}{x:Int}:q k x=2*q (k+1) x\/q k x=2*q (k+1) x+1:=by
 have e:q (k+1) x=q k x / 2:=by
  rw[qZ,qZ,Int.ediv_ediv_of_nonneg (Int.le_of_lt (p2 k)),<- Int.pow_succ]
 omega
theorem Xm{l:List aj}{bits v len:Int}(h1:len<bits)(hv:v % 2 ^ (bits - len).toNat=0) :
    Hal l bits v len ↔ Fil l bits v (len+1)/\Fil l bits (v+2 ^ (bits - len - 1).toNat) (len+1):=by
 obtain⟨k,hk⟩:∃ k:Nat,(bits - len).toNat=k+1:=⟨(bits - len).toNat - 1,oA⟩;have hk1:(bits - (len+1)).toNat=k:=oA;have hk2:(bits - len - 1).toNat=k:=oA;rw[hk] at hv;obtain⟨a1,a2⟩:=Xl hv;unfold Hal Fil;rw[hk,hk1,hk2];constructor
 . intro h
   refine⟨fun x h0 h1 hx=>h x h0 h1 (Le hx oA),fun x h0 h1 hx=>h x h0 h1 ?_⟩;have:=Rk (k:=k) (x:=x);omega
 . rintro⟨f1,f2⟩ x h0 h1 hx
   rcases Rk (k:=k) (x:=x) with hh|hh
   . exact f1 x h0 h1 oA
   . exact f2 x h0 h1 oA
theorem ZX{v:Int}{k:Nat}(hk:k<32)(h0:0<=v)(h1:v<4294967296)(hv:v % 2 ^ (k+1)=0) :
    IntKind.i64.wrap ((BitVec.ofInt IntKind.i64.bits v ||| BitVec.ofInt IntKind.i64.bits (2 ^ k)).toNat:Int)=v+2 ^ k:=by
 obtain⟨n,rfl⟩:=Int.eq_ofNat_of_zero_le h0;have hk2:(2:Nat) ^ k<=2 ^ 31:=Nat.pow_le_pow_right oA oA;have e1:((2:Int) ^ k)=((2 ^ k:Nat):Int):=sI;have hv2:n % 2 ^ (k+1)=0:=by
  have e2:((2:Int) ^ (k+1))=((2 ^ (k+1):Nat):Int):=sI;rw[e2] at hv
  exact_mod_cast hv
 have hd:=Nat.div_add_mod n (2 ^ (k+1));rw[hv2,Nat.add_zero] at hd;have hlt:(2:Nat) ^ k<2 ^ (k+1):=by rw[Nat.pow_succ];have:=Nat.two_pow_pos k;omega
 have hor:n ||| 2 ^ k=n+2 ^ k:=by
  rw[<- hd];exact (Nat.two_pow_add_eq_or_of_lt hlt _).symm
 show IntKind.i64.wrap ((BitVec.ofInt 64 (n:Int) ||| BitVec.ofInt 64 (2 ^ k)).toNat:Int)=_;rw[e1,BitVec.ofInt_natCast,BitVec.ofInt_natCast,BitVec.toNat_or,BitVec.toNat_ofNat,BitVec.toNat_ofNat,Nat.mod_eq_of_lt oA,Nat.mod_eq_of_lt oA,hor,IntKind.wrap_i64];omega
theorem ZY{k:Nat}(hk:k<32):IntKind.i64.wrap (1*2 ^ min k IntKind.i64.bits)=2 ^ k:=by
 have hm:min k IntKind.i64.bits=k:=by show min k 64=k;omega
 have:=AU k oA;rw[hm,Int.one_mul,IntKind.wrap_i64];omega
theorem YD{α:Type}{p s:α->Bool}{l:List α}(h:∀ x ∈ l,p x=true->s x=true):l.countP p<l.countP s ↔ ∃ x ∈ l,s x=true/\p x=false:=by
 induction l with
 | nil=>simp
 | cons x l ih=>
  have hle:l.countP p<=l.countP s:=List.countP_mono_left fun y hy=>h y (by simp[hy])
  have ih:=ih fun y hy=>h y (by simp[hy])
  rw[List.countP_cons,List.countP_cons];have hx:=h x sI;constructor
  . intro hlt
    by_cases hp:s x=true/\p x=false
    . exact⟨x,sI,hp⟩
    . have:l.countP p<l.countP s:=by
        cases h1:p x<;>cases h2:s x<;>simp_all
      obtain⟨y,hy,hh⟩:=ih.1 this;exact⟨y,by simp[hy],hh⟩
  . rintro⟨y,hy,h1,h2⟩
    rcases List.mem_cons.1 hy with rfl|hy
    . simp[h1,h2];omega
    . have:=ih.2 ⟨y,hy,h1,h2⟩
      cases h3:p x<;>cases h4:s x<;>simp_all<;>omega
def TU(l:List aj)(bits:Int)(n:Nat):Prop:=∀ (v len:Int) (rows room:List (List D)),rows=l.map aj.row->0<=len->len<=bits->(bits - len).toNat=n->0<=v->v<2 ^ bits.toNat->v % 2 ^ (bits - len).toNat=0 ->
 aF Tryz.prog T 129 [.i .i64 bits,.lst 57 rows room,.i .i64 v,.i .i64 len] (fun d _=>d = .b (Fil l bits v len))
def FN(l:List aj)(bits:Int)(n:Nat):Prop:=∀ (v len:Int) (rows room:List (List D)),rows=l.map aj.row->0<=len->len<=bits->(bits - len).toNat=n->0<=v->v<2 ^ bits.toNat->v % 2 ^ (bits - len).toNat=0 ->
 aF Tryz.prog T 87 [.i .i64 bits,.lst 57 rows room,.i .i64 v,.i .i64 len] (fun d _=>d = .b (Hal l bits v len))
theorem Vg{l:List aj}{bits:Int}(hb1:1<=bits)(hb2:bits<=32)(hl:l.length<=256)(hok:∀ r ∈ l,okR bits r){n:Nat}(hH:FN l bits n):TU l bits n:=by
 rintro v len _ room rfl h0 h1 hn hv0 hv1 hv2;have hll:(l.map aj.row).length=l.length:=sI;have hm:min (bits - len).toNat IntKind.i64.bits=(bits - len).toNat:=by show min (bits - len).toNat 64=_;omega
 refine aF.aB tok Tryz.func129 rfl Tryz.call129 sI ?_;(try (conv=>whnf));repeat' (first|refine Ok.seq ?_|(refine Ok.region tok ?_;conv=>whnf)|refine Ok.block ?_|fail)
 refine Ok.aT [0,1,2,3,12,13] [9,14] 0 0 (fun (x:Bool × Nat)=>[bD x.1,.i .i64 (x.2:Nat)]) (fun _ b=>b) (fun _ r=>r) (fun (x:Bool × Nat)=>x.2<=l.length/\(x.1=true ↔ ∃ r ∈ l.take x.2,len<=r.len/\q (bits - len).toNat r.value=q (bits - len).toNat v)/\∀ r ∈ l.take x.2,¬ (r.len=len/\q (bits - len).toNat r.value=q (bits - len).toNat v)) (fun (x:Bool × Nat)=>l.length - x.2) ((false,0)) (⟨Nat.zero_le _,sI,sI⟩) ?_;(conv=>whnf);refine⟨by ((conv=>whnf);first|rfl|(simp[ak, au, aj.row];done)|(simp[ak, au, aj.row];rw[IntKind.wrap_i64];omega)),?_⟩;rintro⟨p,k⟩ ⟨hk,hp,hno⟩;dsimp only at hk hp hno ⊢;by_cases hkl:k<l.length
 . obtain⟨r,hr⟩:∃ r,l[k]? = some r:=⟨_,aC hkl⟩
   have hrm:=aU hr;have htk:l.take (k+1)=l.take k++[r]:=by rw[List.take_add_one,hr];rfl
   (try (conv=>whnf));repeat' (first|refine Ok.seq ?_|((first|refine Ok.region tok ?_|refine Ok.bH tok follows kR ?_|refine Ok.cond ?_);conv=>whnf)|refine Ok.block ?_|((first|refine Ok.skip ?_|refine Ok.ret ?_|refine nI ?_|refine ix _ aS ?_);conv=>whnf)|(refine bI ?_ ?_<;>intro<;>first|omega|conv=>whnf)|((first|refine aJ ?_|refine jh ?_);conv=>whnf)|fail)
   . rename_i a1 a2 a3
     rw[hm] at a2;refine Or.inl ?_;(conv=>whnf);exact qw ⟨fun _=>ZU hrm a3 a2,fun _=>trivial⟩
   . rename_i a1 a2 a3
     rw[hm] at a2;refine⟨(true,k+1),by dsimp only;omega,⟨by dsimp only;omega,?_,?_⟩,?_⟩
     . dsimp only
       rw[htk];exact⟨fun _=>⟨r,sI,a1,a2⟩,fun _=>rfl⟩
     . dsimp only
       rw[htk];intro s hs;rcases bQ.1 hs with hs|hs
       . exact hno s hs
       . simp at hs;subst hs;exact fun h=>a3 h.1
     . (conv=>whnf);(first|rfl|simp[ak, au, aj.row])
   . rename_i a1 a2
     rw[hm] at a2;refine⟨(p,k+1),by dsimp only;omega,⟨by dsimp only;omega,?_,?_⟩,?_⟩
     . dsimp only
       rw[htk,hp];constructor
       . rintro⟨s,hs,h⟩;exact⟨s,by simp[hs],h⟩
       . rintro⟨s,hs,h⟩
         rcases bQ.1 hs with hs|hs
         . exact⟨s,hs,h⟩
         . simp at hs;subst hs;exact absurd h.2 a2
     . dsimp only
       rw[htk];intro s hs;rcases bQ.1 hs with hs|hs
       . exact hno s hs
       . simp at hs;subst hs;exact fun h=>a2 h.2
     . cases p
       . (conv=>whnf);(first|rfl|simp[ak, au, aj.row])
       . (conv=>whnf);(first|rfl|simp[ak, au, aj.row])
   . rename_i a1
     refine⟨(p,k+1),by dsimp only;omega,⟨by dsimp only;omega,?_,?_⟩,?_⟩
     . dsimp only
       rw[htk,hp];constructor
       . rintro⟨s,hs,h⟩;exact⟨s,by simp[hs],h⟩
       . rintro⟨s,hs,h⟩
         rcases bQ.1 hs with hs|hs
         . exact⟨s,hs,h⟩
         . simp at hs;subst hs;exact absurd h.1 a1
     . dsimp only
       rw[htk];intro s hs;rcases bQ.1 hs with hs|hs
       . exact hno s hs
       . simp at hs;subst hs;exact fun h=>a1 oA
     . cases p
       . (conv=>whnf);(first|rfl|simp[ak, au, aj.row])
       . (conv=>whnf);(first|rfl|simp[ak, au, aj.row])
 . have hkk:k=l.length:=oA
   subst hkk;rw[List.take_length] at hp hno
   cases p with
   | false=>
    have hF:¬ Fil l bits v len:=YC hv0 hv1 fun r hr h=>by have:=hp.2 ⟨r,hr,h⟩;cases this
    (try (conv=>whnf));repeat' (first|refine Ok.seq ?_|((first|refine Ok.region tok ?_|refine Ok.cond ?_|refine Ok.exit ?_|refine Ok.ret ?_);conv=>whnf)|(refine bI ?_ ?_<;>intro<;>first|omega|conv=>whnf)|fail)
    refine Or.inl ?_;(conv=>whnf);exact qw ⟨fun h=>h.elim,fun h=>hF h⟩
   | true=>
    (try (conv=>whnf));repeat' (first|refine Ok.seq ?_|((first|refine Ok.region tok ?_|refine Ok.cond ?_|refine Ok.skip ?_|refine Ok.exit ?_|refine Ok.ret ?_);conv=>whnf)|(refine Or.inl ?_;(conv=>whnf);(repeat (refine aI ?_;conv=>whnf));refine⟨_,hH v len _ room rfl h0 h1 hn hv0 hv1 hv2,rfl,?_⟩;conv=>whnf)|(refine bI ?_ ?_<;>intro<;>first|omega|conv=>whnf)|fail)
    refine Or.inl ?_;(conv=>whnf);exact qw (ZV hno).symm
theorem YE{l:List aj}{bits:Int}(hb1:1<=bits)(hb2:bits<=32)(hok:∀ r ∈ l,okR bits r):FN l bits 0:=by
 rintro v len _ room rfl h0 h1 hn hv0 hv1 hv2;have he:len=bits:=oA;subst he;refine aF.aB tok Tryz.func87 rfl Tryz.call87 sI ?_;(try (conv=>whnf));repeat' (first|refine Ok.seq ?_|((first|refine Ok.region tok ?_|refine Ok.cond ?_|refine Ok.ret ?_);conv=>whnf)|(refine bI ?_ ?_<;>intro<;>first|omega|conv=>whnf)|fail)
 refine Or.inl ?_;(conv=>whnf);exact qw ⟨fun h=>h.elim,fun h=>ZW hv0 hv1 hok h⟩
theorem Vh{l:List aj}{bits:Int}(hb1:1<=bits)(hb2:bits<=32){n:Nat}(hF:TU l bits n):FN l bits (n+1):=by
 rintro v len _ room rfl h0 h1 hn hv0 hv1 hv2;have hlt:len<bits:=oA;have e1:(bits - (len+1)).toNat=n:=oA;have e2:(bits - len - 1).toNat=n:=oA;have e3:(bits - len).toNat=n+1:=oA;have hbd:=AU bits.toNat oA;have Gm:=Xm (l:=l) hlt hv2;rw[e3] at hv2;have hor:=ZX (k:=n) oA hv0 oA hv2;have hsh:=ZY (k:=n) oA;rw[<- e2] at hsh;have hpp:=p2 n;have hpn:(2:Int) ^ (n+1)=2*2 ^ n:=by rw[Int.pow_succ,Int.mul_comm]
 have hv3:v % 2 ^ n=0:=by
  have hd:=Int.mul_ediv_add_emod v (2 ^ (n+1));rw[hv2,Int.add_zero,hpn] at hd;rw[<- hd,Int.mul_assoc,Int.mul_left_comm];exact Int.mul_emod_right _ _
 have hv4:(v+2 ^ n) % 2 ^ n=0:=by rw[Int.add_emod_right];exact hv3
 have hv5:v+2 ^ n<2 ^ bits.toNat:=by
  have hb:(2:Int) ^ bits.toNat=2 ^ (bits.toNat - (n+1))*2 ^ (n+1):=by rw[<- Int.pow_add];congr 1;omega
  have hd:=Int.mul_ediv_add_emod v (2 ^ (n+1));rw[hv2,Int.add_zero] at hd;generalize hc:v / 2 ^ (n+1)=c at hd;generalize (2:Int) ^ (bits.toNat - (n+1))=M at hb;have hcM:c<M:=by
   apply Classical.byContradiction;intro hn;have:M*2 ^ (n+1)<=c*2 ^ (n+1):=Int.mul_le_mul_of_nonneg_right oA oA;rw[Int.mul_comm] at hd;omega
  have h1:(c+1)*2 ^ (n+1)<=M*2 ^ (n+1):=Int.mul_le_mul_of_nonneg_right oA oA;rw[Int.add_mul,Int.one_mul] at h1;rw[Int.mul_comm] at hd;omega
 refine aF.aB tok Tryz.func87 rfl Tryz.call87 sI ?_;have s1:=hF v (len+1) _ room rfl oA oA e1 hv0 hv1 (by rw[e1];exact hv3);have s2:=hF (v+2 ^ n) (len+1) _ room rfl oA oA e1 oA hv5 (by rw[e1];exact hv4);rw[e2] at Gm;rw[e2] at hsh;have hsh2:IntKind.i64.wrap (1*2 ^ min (bits - len - 1).toNat IntKind.i64.bits)=2 ^ n:=by rw[e2];exact hsh
 (try (conv=>whnf));repeat' (first|refine Ok.seq ?_|((first|refine Ok.region tok ?_|refine⟨_,(hsh2).symm,?_⟩|refine⟨_,(hor).symm,?_⟩|refine Ok.cond ?_|refine Ok.skip ?_|refine Ok.ret ?_|refine nI ?_);conv=>whnf)|(refine Or.inl ?_;(conv=>whnf);(repeat (refine aI ?_;conv=>whnf));refine⟨_,s1,rfl,?_⟩;conv=>whnf)|(refine Or.inl ?_;(conv=>whnf);(repeat (refine aI ?_;conv=>whnf));refine⟨_,s2,rfl,?_⟩;conv=>whnf)|(refine bI ?_ ?_<;>intro<;>first|omega|conv=>whnf)|(refine aJ ?_;conv=>whnf)|fail)
 . rename_i a1
   refine Or.inl ?_;(conv=>whnf);exact qw ⟨fun h=>Gm.2 ⟨a1,h⟩,fun h=>(Gm.1 h).2⟩
 . rename_i a1
   refine Or.inl ?_;(conv=>whnf);exact qw ⟨fun h=>h.elim,fun h=>a1 (Gm.1 h).1⟩
theorem P7{l:List aj}{bits:Int}(hb1:1<=bits)(hb2:bits<=32)(hl:l.length<=256)(hok:∀ r ∈ l,okR bits r):∀ n,FN l bits n
 | 0=>YE hb1 hb2 hok
 | n+1=>Vh hb1 hb2 (Vg hb1 hb2 hl hok (P7 hb1 hb2 hl hok n))
theorem Wx{l:List aj}{bits:Int}(hb1:1<=bits)(hb2:bits<=32)(hl:l.length<=256)(hok:∀ r ∈ l,okR bits r){r:aj}(hr:okR bits r){rows room:List (List D)}(he:rows=l.map aj.row) :
    aF Tryz.prog T 87 [.i .i64 bits,.lst 57 rows room,.i .i64 r.value,.i .i64 r.len] (fun d _=>d = .b (Hal l bits r.value r.len)):=
 P7 hb1 hb2 hl hok _ _ _ _ _ he hr.2.2.1 hr.2.2.2.1 rfl hr.2.2.2.2.2.2.1 hr.2.2.2.2.2.2.2.1 hr.2.2.2.2.2.2.2.2
end Go.Proofs.YtnlingegeangmaaGreatDoor
namespace Go.Proofs.YtnlingegeangmaaGreatDoor
open Go Go.Vx
def cvR(bits:Int)(r s:aj):Prop:=r.len<=s.len/\gK bits r s.value
instance (bits:Int) (r s:aj):Decidable (cvR bits r s):=by unfold cvR gK;infer_instance
instance (bits:Int) (r:aj) (v:Int):Decidable (gK bits r v):=by unfold gK;infer_instance
def iV(a b:aj):Prop:=b.len<a.len\/(a.len=b.len/\a.value<b.value)
theorem Z4{bits:Int}{r s:aj}{x:Int}(h1:gK bits r x)(h2:gK bits s x)(hl:r.len<=s.len):gK bits r s.value:=by
 rw[AV] at *;rw[<- h1];exact (Le h2 oA).symm
theorem Rl{bits:Int}{r s:aj}(hr:okR bits r)(hs:okR bits s)(hl:r.len=s.len)(h:gK bits r s.value):r.value=s.value:=by
 rw[AV,qZ,qZ] at h;have h1:=hr.2.2.2.2.2.2.2.2;have h2:=hs.2.2.2.2.2.2.2.2;rw[hl] at h1 h;have e1:=Int.mul_ediv_add_emod r.value (2 ^ (bits - s.len).toNat);have e2:=Int.mul_ediv_add_emod s.value (2 ^ (bits - s.len).toNat);rw[h1] at e1;rw[h2] at e2;rw[<- e1,<- e2,h]
def qc(bits:Int)(l:List aj)(k:Nat)(rk:aj)(n:Nat)(p:Int):Prop:=
 (p=-1/\∀ (i:Nat) r,i<n->i ≠ k->l[i]? = some r->¬ cvR bits r rk) \/
 ∃ (pp:Nat) (rp:aj),p=(pp:Int)/\pp<n/\pp ≠ k/\l[pp]? = some rp/\cvR bits rp rk/\∀ (i:Nat) r,i<n->i ≠ k->l[i]? = some r->cvR bits r rk->r.len<=rp.len
theorem pre_at{l:List aj}(hs:l.Pairwise iV){i j:Nat}{a b:aj}(ha:l[i]? = some a)(hb:l[j]? = some b)(hij:i<j):iV a b:=by
 obtain⟨h1,rfl⟩:=aK.1 ha;obtain⟨h2,rfl⟩:=aK.1 hb;exact List.pairwise_iff_getElem.1 hs i j h1 h2 hij
theorem at_len{l:List aj}(hs:l.Pairwise iV){i j:Nat}{a b:aj}(ha:l[i]? = some a)(hb:l[j]? = some b)(h1:a.len=b.len)(h2:a.value=b.value):i=j:=by
 rcases Nat.lt_trichotomy i j with h|h|h
 . have:=pre_at hs ha hb h;unfold iV at this;omega
 . exact h
 . have:=pre_at hs hb ha h;unfold iV at this;omega
theorem qc.uniq{bits:Int}{l:List aj}{k:Nat}{rk:aj}{p p':Int}(hok:∀ r ∈ l,okR bits r)(hs:l.Pairwise iV)(h:qc bits l k rk l.length p)(h':qc bits l k rk l.length p'):p=p':=by
 rcases h with⟨rfl,h⟩|⟨i,a,rfl,hi,hik,ha,hca,hma⟩<;>rcases h' with⟨rfl,h'⟩|⟨j,b,rfl,hj,hjk,hb,hcb,hmb⟩
 . rfl
 . exact absurd hcb (h j b hj hjk hb)
 . exact absurd hca (h' i a hi hik ha)
 . have hl:a.len=b.len:=by
     have:=hma j b hj hjk hb hcb;have:=hmb i a hi hik ha hca;omega
   have hv:=Rl (hok a (aU ha)) (hok b (aU hb)) hl (Z4 hca.2 hcb.2 oA);rw[at_len hs ha hb hl hv]
open Classical in
noncomputable def rY(bits:Int)(l:List aj)(k:Nat)(rk:aj):Int:=if h:∃ p,qc bits l k rk l.length p then h.choose else 0
theorem Aq{bits:Int}{l:List aj}{k:Nat}{rk:aj}{p:Int}(hok:∀ r ∈ l,okR bits r)(hs:l.Pairwise iV)(h:qc bits l k rk l.length p):rY bits l k rk=p:=by
 unfold rY;rw[dif_pos ⟨p,h⟩];exact qc.uniq hok hs (Exists.choose_spec (⟨p,h⟩:∃ p,qc bits l k rk l.length p)) h
theorem behind{bits:Int}{l:List aj}{i k:Nat}{r rk:aj}(hok:∀ r ∈ l,okR bits r)(hs:l.Pairwise iV)(hr:l[i]? = some r)(hk:l[k]? = some rk)(hik:i ≠ k)(hc:cvR bits r rk):k<i/\r.len<rk.len:=by
 have hne:¬ (r.len=rk.len):=fun hl=>hik (at_len hs hr hk hl (Rl (hok r (aU hr)) (hok rk (aU hk)) hl hc.2))
 have hlt:r.len<rk.len:=by have:=hc.1;omega
 refine⟨?_,hlt⟩;rcases Nat.lt_or_gt_of_ne hik with h|h
 . have:=pre_at hs hr hk h;unfold iV at this;omega
 . exact h
theorem Xn{bits:Int}{l:List aj}{k:Nat}{rk:aj}(hb2:bits<=32)(hl:l.length<=256)(hok:∀ r ∈ l,okR bits r)(hs:l.Pairwise iV)(hk:l[k]? = some rk){rows room:List (List D)}(he:rows=l.map aj.row) :
    aF Tryz.prog T 88 [.i .i64 bits,.lst 57 rows room,.i .i64 (k:Nat)] (fun d _=>d = .i .i64 (rY bits l k rk)):=by
 subst he;have hll:(l.map aj.row).length=l.length:=sI;have hkl:k<l.length:=(aK.1 hk).1;refine aF.aB tok Tryz.func88 rfl Tryz.call88 sI ?_;(try (conv=>whnf));repeat' (first|refine Ok.seq ?_|(refine Ok.region tok ?_;conv=>whnf)|refine Ok.block ?_|(refine nI ?_;conv=>whnf)|fail)
 refine Ok.aT [0,1,2] [7] 0 0 (fun (u:Nat)=>[.i .i64 (u:Nat)]) (fun _ b=>b) (fun _ r=>r) (fun (u:Nat)=>k<u/\u<=l.length/\∀ (i:Nat) r,k<i->i<u->l[i]? = some r->¬ gK bits r rk.value) (fun (u:Nat)=>l.length - u) (k+1) (⟨oA,oA,fun i r h1 h2=>by omega⟩) ?_;(conv=>whnf);refine⟨by ((conv=>whnf);first|rfl|(simp[ak, au, aj.row];done)|(simp[ak, au, aj.row];rw[IntKind.wrap_i64];omega)),?_⟩;rintro u ⟨hku,hul,hno⟩;by_cases hlt:u<l.length
 . obtain⟨ru,hru⟩:∃ r,l[u]? = some r:=⟨_,aC hlt⟩
   have Uu:=hok ru (aU hru);have hu1:=Uu.2.2.1;have hu2:=Uu.2.2.2.1;(try (conv=>whnf));repeat' (first|refine Ok.seq ?_|((first|refine Ok.region tok ?_|refine Ok.bH tok follows kR ?_|refine Ok.cond ?_);conv=>whnf)|refine Ok.block ?_|((first|refine Ok.skip ?_|refine Ok.ret ?_|refine nI ?_|refine ix _ aS ?_|refine⟨_,P6 bits ru rk.value hb2 hu1 hu2,rfl,?_⟩);conv=>whnf)|(refine bI ?_ ?_<;>intro<;>first|omega|conv=>whnf)|fail)
   . rename_i hh
     have hpre:=pre_at hs hk hru hku;have hp:qc bits l k rk l.length (u:Int):=.inr ⟨u,ru,rfl,hlt,oA,hru,⟨by unfold iV at hpre;omega,hh⟩,fun i r hi hik hr hc=>by
      have hb:=(behind hok hs hr hk hik hc).1;rcases Nat.lt_trichotomy i u with h|h|h
      . exact absurd hc.2 (hno i r hb h hr)
      . subst h;rw[hru] at hr;cases hr;omega
      . have:=pre_at hs hru hr h;unfold iV at this;omega⟩
     refine Or.inl ?_;(conv=>whnf);rw[Aq hok hs hp];rfl
   . rename_i hh
     refine⟨u+1,oA,⟨oA,oA,fun i r h1 h2 hr=>?_⟩,?_⟩
     . by_cases hiu:i=u
       . subst hiu;rw[hru] at hr;cases hr;exact hh
       . exact hno i r h1 oA hr
     . (conv=>whnf);(first|rfl|simp[ak, au, aj.row])
 . have huu:u=l.length:=oA
   subst huu;have hp:qc bits l k rk l.length (-1):=.inl ⟨rfl,fun i r hi hik hr hc=>hno i r (behind hok hs hr hk hik hc).1 hi hr hc.2⟩;(try (conv=>whnf));repeat' (first|refine Ok.seq ?_|((first|refine Ok.region tok ?_|refine Ok.cond ?_|refine Ok.exit ?_|refine Ok.ret ?_);conv=>whnf)|(refine bI ?_ ?_<;>intro<;>first|omega|conv=>whnf)|fail)
   refine Or.inl ?_;(conv=>whnf);rw[Aq hok hs hp];rfl
theorem Z5{l:List aj}{os:List Num}(h:kH l os):(os.map (·.r)).Pairwise iV:=by
 rw[List.pairwise_map];exact h.sorted
theorem abe{bits:Int}{l:List aj}{os:List Num}(h:kH l os)(hok:∀ r ∈ l,okR bits r):∀ r ∈ os.map (·.r),okR bits r:=by
 intro r hr;obtain⟨x,hx,rfl⟩:=List.mem_map.1 hr;obtain⟨j,hj,rfl⟩:=D5 (h.best x hx).1;exact hok _ (List.getElem_mem hj)
open Classical in
theorem OJ{α:Type}:∀ (l m:List α),l.Nodup->(∀ x ∈ l,x ∈ m)->l.length<=m.length
 | [],_,_,_=>by simp
 | a :: l,m,h1,h2=>by
  rw[List.nodup_cons] at h1;have ha:=h2 a sI;have ih:=OJ l (m.erase a) h1.2 fun x hx=>by
   have hne:x ≠ a:=fun e=>h1.1 (e ▸ hx)
   exact (List.mem_erase_of_ne hne).2 (h2 x (by simp[hx]))
  rw[List.length_erase_of_mem ha] at ih;have:=List.length_pos_of_mem ha;simp only[List.length_cons];omega
theorem Rn{l:List aj}{os:List Num}(h:kH l os):os.length<=l.length:=by
 have h1:os.Nodup:=by
  refine h.sorted.imp ?_;rintro a b hab rfl;exact Vf hab ⟨rfl,rfl⟩
 have h2:=OJ os (eG l) h1 fun x hx=>(h.best x hx).1
 simpa[eG] using h2
def keepR(bits:Int)(m:List aj)(k:Nat)(rk:aj):Prop:=rY bits m k rk<0\/∀ rp,m[(rY bits m k rk).toNat]? = some rp->rp.out ≠ rk.out
open Classical in
noncomputable def nX(bits:Int)(l m:List aj):List aj:=m.filter fun r=>decide (¬ Hal l bits r.value r.len)
noncomputable def mW(bits:Int)(l:List aj):List aj:=nX bits l l
open Classical in
noncomputable def nK(bits:Int)(m:List aj)(n:Nat):List aj:=((m.zipIdx.take n).filter fun x=>decide (keepR bits m x.2 x.1)).map (·.1)
noncomputable def yZ(bits:Int)(l:List aj):List aj:=nK bits (mW bits l) (mW bits l).length
theorem GK{bits:Int}{m:List aj}{k:Nat}{rk:aj}(hk:m[k]? = some rk)(h:keepR bits m k rk):nK bits m (k+1)=nK bits m k++[rk]:=by
 have hz:m.zipIdx[k]? = some (rk,k):=by simp[hk]
 unfold nK;rw[List.take_add_one,hz];simp[h]
theorem Mc{bits:Int}{m:List aj}{k:Nat}{rk:aj}(hk:m[k]? = some rk)(h:¬ keepR bits m k rk):nK bits m (k+1)=nK bits m k:=by
 have hz:m.zipIdx[k]? = some (rk,k):=by simp[hk]
 unfold nK;rw[List.take_add_one,hz];simp[h]
theorem Wy(bits:Int)(m:List aj):nK bits m 0=[]:=rfl
theorem OL(bits:Int)(m:List aj)(n:Nat):(nK bits m n).length<=n:=by
 unfold nK;rw[bV];refine Nat.le_trans (List.length_filter_le _ _) ?_;simp;omega
theorem Z7{bits:Int}{m:List aj}{k:Nat}{rk:aj}(hok:∀ r ∈ m,okR bits r)(hs:m.Pairwise iV)(hk:m[k]? = some rk):rY bits m k rk=-1\/∃ (pp:Nat) (rp:aj),rY bits m k rk=(pp:Int)/\m[pp]? = some rp:=by
 have hex:∃ p,qc bits m k rk m.length p:=by
  by_cases hc:∃ (i:Nat) (r:aj),k<i/\m[i]? = some r/\cvR bits r rk
  . -- the first behind it
    have key:∀ n,(∃ (i:Nat) (r:aj),k<i/\i<n/\m[i]? = some r/\cvR bits r rk)->∃ (i:Nat) (r:aj),k<i/\m[i]? = some r/\cvR bits r rk/\∀ (j:Nat) s,k<j->j<i->m[j]? = some s->¬ cvR bits s rk:=by
     intro n
     induction n with
     | zero=>rintro⟨i,r,_,h,_⟩;omega
     | succ n ih=>
      rintro⟨i,r,h1,h2,h3,h4⟩;by_cases hex:∃ (i:Nat) (r:aj),k<i/\i<n/\m[i]? = some r/\cvR bits r rk
      . exact ih hex
      . exact⟨i,r,h1,h3,h4,fun j s a b c d=>hex ⟨j,s,a,oA,c,d⟩⟩
    obtain⟨i0,r0,a0,b0,c0⟩:=hc;obtain⟨i,r,h1,h2,h3,h4⟩:=key (i0+1) ⟨i0,r0,a0,oA,b0,c0⟩;refine⟨(i:Int),.inr ⟨i,r,rfl,(aK.1 h2).1,oA,h2,h3,fun j s a b c d=>?_⟩⟩;have hb:=(behind hok hs c hk b d).1;rcases Nat.lt_trichotomy j i with h|h|h
    . exact absurd d (h4 j s hb h c)
    . subst h;rw[h2] at c;cases c;omega
    . have:=pre_at hs h2 c h;unfold iV at this;omega
  . exact⟨-1,.inl ⟨rfl,fun i r a b c d=>hc ⟨i,r,(behind hok hs c hk b d).1,c,d⟩⟩⟩
 obtain⟨p,hp⟩:=hex;rw[Aq hok hs hp];rcases hp with⟨rfl,_⟩|⟨pp,rp,rfl,_,_,h,_⟩
 . exact .inl rfl
 . exact .inr ⟨pp,rp,rfl,h⟩
theorem YF{bits:Int}{l m:List aj}{k:Nat}{r:aj}(hr:m[k]? = some r)(h:¬ Hal l bits r.value r.len):nX bits l (m.take (k+1))=nX bits l (m.take k)++[r]:=by
 unfold nX;rw[List.take_add_one,hr];simp[h]
theorem YG{bits:Int}{l m:List aj}{k:Nat}{r:aj}(hr:m[k]? = some r)(h:Hal l bits r.value r.len):nX bits l (m.take (k+1))=nX bits l (m.take k):=by
 unfold nX;rw[List.take_add_one,hr];simp[h]
theorem Xo{bits:Int}{l m:List aj}{k:Nat}(hk:k<=m.length):(nX bits l (m.take k)).length<=k:=by
 unfold nX;refine Nat.le_trans (List.length_filter_le _ _) ?_;simp;omega
theorem Z8{bits:Int}{l:List aj}(hok:∀ r ∈ l,okR bits r)(hs:l.Pairwise iV):(∀ r ∈ mW bits l,okR bits r)/\(mW bits l).Pairwise iV/\(mW bits l).length<=l.length:=
 ⟨fun r hr=>hok r (List.mem_filter.1 hr).1,hs.filter _,List.length_filter_le _ _⟩
noncomputable def dK(bits:Int)(l:List aj):List aj:=if dV bits l ≠ 0 then [] else yZ bits (jo l)
theorem Z9{bits:Int}{l:List aj}(h:dV bits l=0)(hex:∃ os,kH l os):(∀ r ∈ jo l,okR bits r)/\(jo l).Pairwise iV/\(jo l).length<=256:=by
 obtain⟨hl,hb1,hb2,hok⟩:=DC h;obtain⟨os,hos⟩:=hex;rw[Ez hos];have:=Rn hos;exact⟨abe hos hok,Z5 hos,by simp;omega⟩
theorem insert_sorted(x:Num):∀ (ps:List Num),ps.Pairwise (fun a b=>¬ dn b a)->∃ qs:List Num,qs.Perm (x :: ps)/\qs.Pairwise (fun a b=>¬ dn b a)
 | [],_=>⟨[x],.refl _,sI⟩
 | p :: ps,h=>by
  rw[List.pairwise_cons] at h;by_cases hx:dn x p
  . refine⟨x :: p :: ps,.refl _,?_⟩
    rw[List.pairwise_cons];refine⟨fun y hy=>?_,List.pairwise_cons.2 h⟩;rcases List.mem_cons.1 hy with rfl|hy
    . exact lY.asymm _ _ hx
    . exact lY.trans _ _ _ (lY.asymm _ _ hx) (h.1 y hy)
  . obtain⟨qs,h1,h2⟩:=insert_sorted x ps h.2
    refine⟨p :: qs,(h1.cons p).trans (List.Perm.swap ..),?_⟩;rw[List.pairwise_cons];refine⟨fun y hy=>?_,h2⟩;rcases List.mem_cons.1 (h1.subset hy) with rfl|hy
    . exact hx
    . exact h.1 y hy
theorem OM:∀ (l:List Num),∃ ps:List Num,ps.Perm l/\ps.Pairwise (fun a b=>¬ dn b a)
 | []=>⟨[],.refl _,sI⟩
 | x :: l=>by
  obtain⟨ps,h1,h2⟩:=OM l;obtain⟨qs,h3,h4⟩:=insert_sorted x ps h2;exact⟨qs,h3.trans (h1.cons x),h4⟩
theorem abf(l:List aj):∃ os,kH l os:=by
 obtain⟨ps,h1,h2⟩:=OM (eG l);exact⟨_,SX h1 h2⟩
theorem EC(bits:Int)(l:List aj){rows room:List (List D)}(he:rows=l.map aj.row):aF Tryz.prog T 39 [.i .i64 bits,.lst 57 rows room] (fun d rows=>rows=[some (57,(dK bits l).map aj.row)]/\d = .tup [.own 0 (dK bits l).length,.i .i64 (dV bits l)]):=by
 subst he;refine aF.aB tok Tryz.func39 rfl Tryz.call39 sI ?_;(try (conv=>whnf));repeat' (first|refine Ok.seq ?_|((first|refine Ok.region tok ?_|refine Ok.cond ?_);conv=>whnf)|refine Ok.block ?_|((first|refine Ok.skip ?_|refine Ok.ret ?_);conv=>whnf)|(refine Or.inr (Or.inl ?_);(conv=>whnf);(repeat (refine aI ?_;conv=>whnf));refine⟨_,Ac bits l rfl,?_⟩;rintro _ _ ⟨rfl,rfl⟩;conv=>whnf)|(refine bI ?_ ?_<;>intro<;>first|omega|conv=>whnf)|fail)
 . rename_i h1
   refine Or.inr (Or.inr ?_);(conv=>whnf);simp[iE,dK,h1]
 rename_i h1;have h1:dV bits l=0:=Classical.not_not.1 h1;obtain⟨hl,hb1,hb2,hok⟩:=DC h1;obtain⟨o1,o2,o3⟩:=Z9 h1 (abf l);have hE:dK bits l=yZ bits (jo l):=by unfold dK;rw[if_neg oA]
 have hO:dR bits l=jo l:=by unfold dR;rw[if_neg oA]
 rw[hO,hE,h1];generalize jo l=a at o1 o2 o3 ⊢;have hal:(a.map aj.row).length=a.length:=sI;obtain⟨Lh,hMs,hMl⟩:=Z8 o1 o2;refine Ok.ghost 8 57 rfl ?_;(conv=>whnf);refine Ok.wS [0,9] [8] 2 0 (fun (x:Unit)=>[.own 1 (mW bits a).length]) (fun _ b=>b) (fun (x:Unit) (_:Vx.Rows)=>[some (57,a.map aj.row),some (57,(mW bits a).map aj.row)]) (fun e (x:Unit)=>e = .exit 0) ?_;(conv=>whnf);refine And.intro ?_ ?_
 . refine Ok.aT [0,6,9,24,25] [8,26] 2 0 (fun (x:List aj × Nat)=>[.own 1 x.1.length,.i .i64 (x.2:Nat)]) (fun _ b=>b) (fun (x:List aj × Nat) (_:Vx.Rows)=>[some (57,a.map aj.row),some (57,x.1.map aj.row)]) (fun (x:List aj × Nat)=>x.2<=a.length/\x.1=nX bits a (a.take x.2)) (fun (x:List aj × Nat)=>a.length - x.2) (([],0)) (⟨Nat.zero_le _,by simp[nX]⟩) ?_;(conv=>whnf);refine⟨by ((conv=>whnf);first|rfl|(simp[ak, au, aj.row];done)|(simp[ak, au, aj.row];rw[IntKind.wrap_i64];omega)),?_⟩
   rintro⟨m,k⟩ ⟨hk,hm⟩;dsimp only at hk hm ⊢;have hml:m.length<=k:=by rw[hm];exact Xo hk
   by_cases hkl:k<a.length
   . obtain⟨r,hr⟩:∃ r,a[k]? = some r:=⟨_,aC hkl⟩
     (try (conv=>whnf));repeat' (first|refine Ok.seq ?_|((first|refine Ok.region tok ?_|refine Ok.cond ?_);conv=>whnf)|refine Ok.block ?_|((first|refine Ok.skip ?_|refine nI ?_);conv=>whnf)|(refine Or.inl ?_;(conv=>whnf);(repeat (refine aI ?_;conv=>whnf));refine⟨_,Wx hb1 hb2 o3 o1 (o1 r (aU hr)) (tu _ _),rfl,?_⟩;conv=>whnf)|((first|refine bU.l (aI ?_)|refine rd rfl aS ?_|refine⟨_,.inl ⟨rfl,rfl⟩,?_⟩|refine⟨_,_,rfl,rfl,?_⟩);conv=>whnf)|(refine bI ?_ ?_<;>intro<;>first|omega|conv=>whnf)|(refine aJ ?_;conv=>whnf)|fail)
     . rename_i b
       refine⟨(m++[r],k+1),by dsimp only;omega,⟨by dsimp only;omega,by dsimp only;rw[hm,YF hr b]⟩,?_⟩;(conv=>whnf);(first|rfl|simp[ak, au, aj.row])
     . rename_i b
       refine⟨(m,k+1),by dsimp only;omega,⟨by dsimp only;omega,by dsimp only;rw[hm,YG hr (Classical.not_not.1 b)]⟩,?_⟩;(conv=>whnf);(first|rfl|simp[ak, au, aj.row])
   . have hkk:k=a.length:=oA
     subst hkk;rw[List.take_length] at hm;(try (conv=>whnf));repeat' (first|refine Ok.seq ?_|((first|refine Ok.region tok ?_|refine Ok.cond ?_|refine Ok.exit ?_);conv=>whnf)|(refine bI ?_ ?_<;>intro<;>first|omega|conv=>whnf)|fail)
     refine⟨(),rfl,?_⟩;rw[hm];(conv=>whnf);(first|rfl|simp[ak, au, aj.row])
 . rintro e _ rfl
   generalize hmm:mW bits a=m at Lh hMs hMl;have ac3:(m.map aj.row).length=m.length:=sI;(try (conv=>whnf));repeat' (first|refine Ok.seq ?_|(refine Ok.region tok ?_;conv=>whnf)|refine Ok.block ?_|fail)
   refine Ok.ghost 9 57 rfl ?_;(conv=>whnf);refine Ok.aT [0,8,43,44] [9,45] 3 0 (fun (x:List aj × Nat)=>[.own 2 x.1.length,.i .i64 (x.2:Nat)]) (fun _ b=>b) (fun (x:List aj × Nat) (_:Vx.Rows)=>[some (57,a.map aj.row),some (57,m.map aj.row),some (57,x.1.map aj.row)]) (fun (x:List aj × Nat)=>x.2<=m.length/\x.1=nK bits m x.2) (fun (x:List aj × Nat)=>m.length - x.2) (([],0)) (⟨Nat.zero_le _,rfl⟩) ?_;(conv=>whnf);refine⟨by ((conv=>whnf);first|rfl|(simp[ak, au, aj.row];done)|(simp[ak, au, aj.row];rw[IntKind.wrap_i64];omega)),?_⟩;rintro⟨o,k⟩ ⟨hk,ho⟩;dsimp only at hk ho ⊢;have hol:=OL bits m k;rw[<- ho] at hol;by_cases hkl:k<m.length
   . obtain⟨r,hr⟩:∃ r,m[k]? = some r:=⟨_,aC hkl⟩
     have hspec:=Xn hb2 (Nat.le_trans hMl o3) Lh hMs hr (tu aj.row m) (room:=(m.map aj.row).drop m.length);rcases Z7 Lh hMs hr with hp|⟨pp,rp,hp,hrp⟩
     . have hkeep:keepR bits m k r:=.inl oA
       rw[hp] at hspec;(try (conv=>whnf));repeat' (first|refine Ok.seq ?_|((first|refine Ok.region tok ?_|refine Ok.bH tok follows kR ?_|refine Ok.cond ?_);conv=>whnf)|refine Ok.block ?_|((first|refine Ok.skip ?_|refine nI ?_);conv=>whnf)|(refine Or.inl ?_;(conv=>whnf);(repeat (refine aI ?_;conv=>whnf));refine⟨_,hspec,rfl,?_⟩;conv=>whnf)|((first|refine bU.l (aI ?_)|refine rd rfl aS ?_|refine⟨_,.inl ⟨rfl,rfl⟩,?_⟩|refine⟨_,_,rfl,rfl,?_⟩);conv=>whnf)|(refine bI ?_ ?_<;>intro<;>first|omega|conv=>whnf)|(refine aJ ?_;conv=>whnf)|fail)
       refine⟨(o++[r],k+1),by dsimp only;omega,⟨by dsimp only;omega,by dsimp only;rw[ho,GK hr hkeep]⟩,?_⟩;(conv=>whnf);(first|rfl|simp[ak, au, aj.row])
     . rw[hp] at hspec
       have hpl:=(aK.1 hrp).1;have hkeep:keepR bits m k r ↔ rp.out ≠ r.out:=by
        unfold keepR;rw[hp];constructor
        . rintro (h|h)
          . omega
          . exact h rp hrp
        . intro h
          refine .inr fun rq hq=>?_
          rw[Int.toNat_natCast,hrp] at hq;cases hq;exact h
       (try (conv=>whnf));repeat' (first|refine Ok.seq ?_|((first|refine Ok.region tok ?_|refine Ok.bH tok follows kR ?_|refine Ok.cond ?_);conv=>whnf)|refine Ok.block ?_|((first|refine Ok.skip ?_|refine nI ?_);conv=>whnf)|(refine Or.inl ?_;(conv=>whnf);(repeat (refine aI ?_;conv=>whnf));refine⟨_,hspec,rfl,?_⟩;conv=>whnf)|((first|refine bU.l (aI ?_)|refine rd rfl aS ?_|refine⟨_,.inl ⟨rfl,rfl⟩,?_⟩|refine⟨_,_,rfl,rfl,?_⟩);conv=>whnf)|(refine bI ?_ ?_<;>intro<;>first|omega|conv=>whnf)|(refine aJ ?_;conv=>whnf)|fail)
       . rename_i b
         refine⟨(o++[r],k+1),by dsimp only;omega,⟨by dsimp only;omega,by dsimp only;rw[ho,GK hr (hkeep.2 b)]⟩,?_⟩;(conv=>whnf);(first|rfl|simp[ak, au, aj.row])
       . rename_i b
         refine⟨(o,k+1),by dsimp only;omega,⟨by dsimp only;omega,by dsimp only;rw[ho,Mc hr (fun h=>b (hkeep.1 h))]⟩,?_⟩;(conv=>whnf);(first|rfl|simp[ak, au, aj.row])
   . have hkk:k=m.length:=oA
     subst hkk;(try (conv=>whnf));repeat' (first|refine Ok.seq ?_|((first|refine Ok.region tok ?_|refine Ok.cond ?_|refine Ok.exit ?_|refine Ok.ret ?_);conv=>whnf)|(refine bI ?_ ?_<;>intro<;>first|omega|conv=>whnf)|fail)
     refine Or.inr (Or.inl ?_);(conv=>whnf);have:yZ bits a=o:=by unfold yZ;rw[hmm,ho]
     rw[this];exact⟨rfl,rfl⟩
end Go.Proofs.YtnlingegeangmaaGreatDoor
namespace Go.Vx
open Go.RowKit
inductive Pl where|nil|q (i:Nat) (r:Pl)|l (i:Nat) (r:Pl)|alt (i:Nat) (a r:Pl)
def Pl.heads:Pl->List Nat|.alt i _ r=>i :: r.heads|_=>[]
def Pl.depth:Pl->Nat|.nil=>0|.q _ r=>r.depth+1|.l _ r=>r.depth+1|.alt _ a _=>a.depth+1
def kJ(ops:Array Oper):Pl->Bool->Nat->Array Bool->Bool
 | .nil,f,_,listed=>f || (Region.ready .any ops listed).isEmpty
 | .q i r,f,_,listed=>!f && (Region.ready .any ops listed).contains i && Region.free .any ops listed i && ((ops[i]?).map isQ).getD false && kJ ops r false 0 (listed.setIfInBounds i true)
 | .l i r,f,_,listed=>!f && (Region.ready .any ops listed) == [i] && kJ ops r false 0 (listed.setIfInBounds i true)
 | .alt i a r,f,n,listed=>(match f with|true=>Nat.beq a.depth n|false=>(Region.ready .any ops listed) == i :: r.heads) && (Region.ready .any ops listed).contains i && kJ ops a false 0 (listed.setIfInBounds i true) && kJ ops r true a.depth listed
def ED(ops:Array Oper)(A:Waits)(p:Pl):Bool:=
 Region.noSelect ops && wC ops A && (p.depth == ops.size) && kJ ops p false 0 (Array.replicate ops.size false)
def nM(P:Program)(T:Tab)(ops:List Oper)(A:Waits):Pl->Bool->List (Nat × Src)->St->(St->Prop)->Prop
 | .nil,f,_,s,K=>match f with|true=>True|false=>K s
 | .q i r,_,ps,s,K=>match ops[i]? with
  | none=>False
  | some o=>lC ops s o.guard
   (fun s=>qop P T s o fun d s'=>gy s' o.dst d fun s'=>nM P T ops A r false ((i,BL s o) :: ps) s' K)
   (fun s=>gy s o.dst (.tup []) fun s=>nM P T ops A r false ((i,.reg) :: ps) s K)
 | .l i r,_,ps,s,K=>match ops[i]? with
  | none=>False
  | some o=>lC ops s o.guard
   (fun s=>wF (dW A) i s (nH s o) ps <| dop P T s o fun d s=>gy s o.dst d fun s=>nM P T ops A r false (iG (dW A) i ps) s K)
   (fun s=>gy s o.dst (.tup []) fun s=>nM P T ops A r false (iG (dW A) i ps) s K)
 | .alt i a r,_,ps,s,K=>(match ops[i]? with
  | none=>False
  | some o=>lC ops s o.guard
   (fun s=>wF (dW A) i s (nH s o) ps <| dop P T s o fun d s=>gy s o.dst d fun s=>nM P T ops A a false (iG (dW A) i ps) s K)
   (fun s=>gy s o.dst (.tup []) fun s=>nM P T ops A a false (iG (dW A) i ps) s K))/\nM P T ops A r true ps s K
section
variable {w0 w w' : World} {V0 : Fr} {V : Vw} {μ : List Nat} {ω : List Value} {s : St} {a : Act} {P : Program} {T : Tab}
theorem sQ(hT:TOk P T){ops:List Oper}{A:Waits}(hns:Region.noSelect ops.toArray=true)(hA:wC ops.toArray A=true){Q:Exit->Act->World->Prop}(hQ:∀ c a w,¬ Q (.panic c) a w) :
    ∀ (p:Pl) (f:Bool) (n:Nat) (listed:Array Bool) (ps:oK) (sps:List (Nat × Src)) (s:St) (V:Vw) (μ:List Nat) (ω:List Value) (a:Act) (w:World) (K:St->Prop),
     kJ ops.toArray p f n listed=true->Closed ops.toArray listed->Sim (ah T) w0 V0 V μ ω s a w->jG (kF V μ ω w) ps sps->nM P T ops A p f sps s K ->
     (∀ s V μ ω a w,K s->Sim (ah T) w0 V0 V μ ω s a w->Q .normal a w) ->
     match f with
     | false=>mD P ops.toArray (dW A) Q p.depth ps listed a w
     | true=>∀ j ∈ p.heads,wpOp P ops.toArray Q j (fun a' w'=>(∀ x ∈ ps,dW A x.1 j=false->x.2 w')/\mD P ops.toArray (dW A) Q n (ps.filter fun x=>!dW A x.1 j) (listed.setIfInBounds j true) a' w') a w
 | .nil,f,n,listed,ps,sps,s,V,μ,ω,a,w,K,hB,hcl,hS,hps,h,hq=>by
  cases f with
  | true=>intro j hj;cases hj
  | false=>exact⟨by simpa[kJ] using hB,hq _ _ _ _ _ _ h hS⟩
 | .q i r,f,n,listed,ps,sps,s,V,μ,ω,a,w,K,hB,hcl,hS,hps,h,hq=>by
  cases f with
  | true=>intro j hj;cases hj
  | false=>
  simp only[kJ,Bool.not_false,Bool.true_and,Bool.and_eq_true] at hB;obtain⟨⟨⟨hr,hf⟩,hq1⟩,hB⟩:=hB;simp only[nM] at h
  cases ho:ops[i]? with
  | none=>rw[ho] at h;exact h.elim
  | some o=>
   rw[ho] at h;dsimp only at h;have ho':ops.toArray[i]? = some o:=by simpa using ho
   rw[ho'] at hq1;have hri:i ∈ Region.ready .any ops.toArray listed:=by simpa using hr
   have hall:∀ x ∈ ps,x.2 w:=fun x hx=>let ⟨y,hy⟩:=hps.left x hx;hy.pY
   rcases mY (o:=o) hS h with⟨hw,s1,h,hS⟩|⟨hw,s1,h,hS⟩
   . obtain⟨d,v,s2,h,hr2,hS2,p,n,hsrc,hq2⟩:=yx hT hS h
     obtain⟨s3,h,hS3⟩:=gV hS2 hr2 h;refine xX (C:=mF p n w) (v:=v) (fun i j=>vH hA i j) ho' (Region.noSelect_spec hns) (fun c a w hc=>absurd hc (hQ _ _ _)) r.depth ps listed a w hcl (Region.free_spec ho' hf) hri
      (.inl ⟨hw,fun w' hk=>G9 (by simpa using hq1) (hq2 w' ?_)⟩) (fun _ _ _ h=>h) hall ?_
     . unfold QR
       split
       . exact hk
       . rename_i heq;simp[isQ,heq] at hq1
       . rename_i heq;simp[isQ,heq] at hq1
       . trivial
     . exact sQ hT hns hA hQ r false 0 _ _ _ s3 V μ ω _ w K hB (hcl.set hri) hS3 (.cons ⟨rfl,p,n,w,rfl,hsrc,fun _ _ _ h=>h⟩ hps) h hq
   . obtain⟨s3,h,hS3⟩:=gV hS (v:=undef) (d:=.tup []) (RS.tup [] #[] rfl (fun j v d h=>by simp at h)) h
     refine xX (C:=mF ⟨0,0,none⟩ 0 w) (v:=undef) (fun i j=>vH hA i j) ho' (Region.noSelect_spec hns) (fun c a w hc=>absurd hc (hQ _ _ _)) r.depth ps listed a w hcl (Region.free_spec ho' hf) hri
      (.inr ⟨hw,rfl⟩) (fun _ _ _ h=>h) hall ?_
     exact sQ hT hns hA hQ r false 0 _ _ _ s3 V μ ω _ w K hB (hcl.set hri) hS3 (.cons ⟨rfl,⟨0,0,none⟩,0,w,rfl,iL.zero _,fun _ _ _ h=>h⟩ hps) h hq
 | .l i r,f,n,listed,ps,sps,s,V,μ,ω,a,w,K,hB,hcl,hS,hps,h,hq=>by
  cases f with
  | true=>intro j hj;cases hj
  | false=>
  simp only[kJ,Bool.not_false,Bool.true_and,Bool.and_eq_true,beq_iff_eq] at hB;obtain⟨hr,hB⟩:=hB;simp only[nM] at h
  cases ho:ops[i]? with
  | none=>rw[ho] at h;exact h.elim
  | some o=>
   rw[ho] at h;dsimp only at h;have ho':ops.toArray[i]? = some o:=by simpa using ho
   have hri:i ∈ Region.ready .any ops.toArray listed:=by rw[hr];simp
   refine⟨fun h0=>(by rw[hr] at h0;cases h0),fun j hj=>?_⟩;rw[hr] at hj;have hji:j=i:=by simpa using hj
   subst hji;unfold wpOp;rw[ho'];dsimp only;rcases mY (o:=o) hS h with⟨hw,s1,h,hS⟩|⟨hw,s1,h,hS⟩
   . rw[if_pos hw]
     obtain⟨h,hst⟩:=zI hS.mem hps h;refine .inl (Dz hT hS h _ _ fun d v s2 V2 μ2 ω2 w2 hk hr2 hS2 hstep=>?_);obtain⟨h1,h2⟩:=hst _ _ _ _ hstep;obtain⟨s3,h,hS3⟩:=gV hS2 hr2 hk;exact⟨h1,sQ hT hns hA hQ r false 0 _ _ _ s3 _ _ _ _ w2 K hB (hcl.set hri) hS3 h2 h hq⟩
   . rw[if_neg (by rw[hw];simp)]
     obtain⟨s3,h,hS3⟩:=gV hS (v:=undef) (d:=.tup []) (RS.tup [] #[] rfl (fun j v d h=>by simp at h)) h;exact⟨fun x hx _=>let ⟨y,hy⟩:=hps.left x hx;hy.pY,sQ hT hns hA hQ r false 0 _ _ _ s3 _ _ _ _ w K hB (hcl.set hri) hS3 (hps.filter fun _ _ h=>h.1) h hq⟩
 | .alt i b r,f,n,listed,ps,sps,s,V,μ,ω,a,w,K,hB,hcl,hS,hps,h,hq=>by
  simp only[kJ,Bool.and_eq_true] at hB;obtain⟨⟨⟨hf,hri⟩,hBa⟩,hBr⟩:=hB;have hri:i ∈ Region.ready .any ops.toArray listed:=by simpa using hri
  simp only[nM] at h;obtain⟨h,hrest⟩:=h;have hone:wpOp P ops.toArray Q i (fun a' w'=>(∀ x ∈ ps,dW A x.1 i=false->x.2 w')/\mD P ops.toArray (dW A) Q b.depth (ps.filter fun x=>!dW A x.1 i) (listed.setIfInBounds i true) a' w') a w:=by
   cases ho:ops[i]? with
   | none=>rw[ho] at h;exact h.elim
   | some o=>
    rw[ho] at h;dsimp only at h;have ho':ops.toArray[i]? = some o:=by simpa using ho
    unfold wpOp;rw[ho'];dsimp only;rcases mY (o:=o) hS h with⟨hw,s1,h,hS⟩|⟨hw,s1,h,hS⟩
    . rw[if_pos hw]
      obtain⟨h,hst⟩:=zI hS.mem hps h;refine .inl (Dz hT hS h _ _ fun d v s2 V2 μ2 ω2 w2 hk hr2 hS2 hstep=>?_);obtain⟨h1,h2⟩:=hst _ _ _ _ hstep;obtain⟨s3,h,hS3⟩:=gV hS2 hr2 hk;exact⟨h1,sQ hT hns hA hQ b false 0 _ _ _ s3 _ _ _ _ w2 K hBa (hcl.set hri) hS3 h2 h hq⟩
    . rw[if_neg (by rw[hw];simp)]
      obtain⟨s3,h,hS3⟩:=gV hS (v:=undef) (d:=.tup []) (RS.tup [] #[] rfl (fun j v d h=>by simp at h)) h;exact⟨fun x hx _=>let ⟨y,hy⟩:=hps.left x hx;hy.pY,sQ hT hns hA hQ b false 0 _ _ _ s3 _ _ _ _ w K hBa (hcl.set hri) hS3 (hps.filter fun _ _ h=>h.1) h hq⟩
  have hmore:=sQ hT hns hA hQ r true b.depth listed ps sps s V μ ω a w K hBr hcl hS hps hrest hq;dsimp only at hmore
  cases f with
  | true=>
   intro j hj;have hn:b.depth=n:=Nat.eq_of_beq_eq_true hf;subst hn;rcases List.mem_cons.1 hj with rfl|hj
   . exact hone
   . exact hmore j hj
  | false=>
   have hr:Region.ready .any ops.toArray listed=i :: r.heads:=by simpa using hf
   refine⟨fun h0=>(by rw[hr] at h0;cases h0),fun j hj=>?_⟩;rw[hr] at hj;rcases List.mem_cons.1 hj with rfl|hj
   . exact hone
   . exact hmore j hj
theorem Ok.dP(hT:TOk P T)(hm:P.follows .mixedOrders=true){s:St}{Q:Exit->St->Prop}{id:Nat}{l:List Oper}(A:Waits)(p:Pl)(hB:ED l.toArray A p=true)(h:nM P T l A p false [] s (Q .normal)) :
    Ok P T (.region id l.toArray true) Q s:=by
 refine⟨fun w0 V0 V μ ω a w hS=>?_⟩;simp only[ED,Bool.and_eq_true,beq_iff_eq] at hB;obtain⟨⟨⟨hns,hA⟩,hlen⟩,hB⟩:=hB;have hd:Ext w { w with drawn:=w.drawn+1 }:=(Below.refl w.heap.size w).drew;refine wp_mono (Q:=fun e a' w'=>e = .normal/\∃ s' V' μ' ω',Q .normal s'/\Sim (ah T) w0 V0 V' μ' ω' s' a' w') (wp_region_any hm ?_) ?_
 . refine Dq (bef:=dW A) _ [] _ _ _ ?_
   have hz:∀ m j:Nat,(Array.replicate m false).getD j false=false:=fun m j=>by
    rcases Nat.lt_or_ge j m with h|h<;>simp[h]
   have hw:=sQ hT hns hA (Q:=fun e a' w'=>e = .normal/\∃ s' V' μ' ω',Q .normal s'/\Sim (ah T) w0 V0 V' μ' ω' s' a' w') (fun c a w h=>by cases h.1) p false 0 _ [] [] s V μ ω a _ _ hB
    (fun j o _ hl=>by rw[hz] at hl;cases hl) (hS.ext hd) .nil h fun s' V' μ' ω' a' w' hk hS'=>⟨rfl,s',V',μ',ω',hk,hS'⟩
   rw[hlen] at hw;exact hw
 . rintro e a' w' ⟨rfl,s',V',μ',ω',hk,hS'⟩
   exact⟨s',V',μ',ω',hk,hS'⟩
end
end Go.Vx
namespace Go.Vx
open Go.RowKit
def J4(r:Nat)(s:St)(K:St->Prop):Prop:=
 match s with
 | ⟨env,box,row,n⟩=>match row[r]? with
  | some (some x)=>natLit row.length fun q=>nS r (fun m=>.own q m) env fun env=>nT r (fun m=>.own q m) box fun box=>fH row r none fun row=>gZ row (some x) fun row=>K ⟨env,box,row,n⟩
  | _=>False
def AX:List Nat->St->(St->Prop)->Prop
 | [],s,K=>K s
 | r :: rs,s,K=>J4 r s fun s=>AX rs s K
section
variable {w0 w w' : World} {V0 : Fr} {V : Vw} {μ : List Nat} {ω : List Value} {box : List (List D)} {row : Rows} {s : St} {a : Act} {P : Program} {T : Tab} {sz : TypeId → Nat}
theorem VF(hS:Sim sz w0 V0 V μ ω s a w){r:Nat}{K:St->Prop}(h:J4 r s K):∃ s' ω',K s'/\Sim sz w0 V0 V μ ω' s' a w:=by
 obtain⟨env,box,row,n⟩:=s;simp only[J4] at h;split at h
 case h_2=>exact h.elim
 rename_i x hr;simp only[kW,tX,tY] at h;obtain⟨hrr,h⟩:=gW _ _ _ _ h;simp only[kY] at h;have hM:=hS.mem;have hl:ω.length=row.length:=hM.rl;have hrω:r<ω.length:=by rw[hl];exact hrr
 obtain⟨v,hv⟩:∃ v,ω[r]? = some v:=⟨_,aC hrω⟩;have hω:∀ q u,q ≠ r->ω[q]? = some u->(ω++[v])[q]? = some u:=fun q u _ hq=>by
  rw[List.getElem?_append_left (aK.1 hq).1];exact hq
 have hlast:(ω++[v])[row.length]? = some v:=by rw[<- hl,List.getElem?_append_right (Nat.le_refl _)];simp
 have hconv:∀ m u,RS sz V μ ω u (.own r m)->RS sz V μ (ω++[v]) u (.own row.length m):=by
  intro m u hu;obtain⟨A,N,c,h1,h2,rfl⟩:=hu.jd;rw[hv] at h1;cases h1;exact .own _ m A N c hlast h2
 have own:∀ l g,Own μ (ω++[v]) (row.set r none++[some x]) l g->∃ l',Own μ ω row l' g/\((l = .inr row.length/\l' = .inr r)\/(l=l'/\l ≠ .inr r/\l ≠ .inr row.length)):=by
  intro l g hl2
  cases l with
  | inl i=>exact⟨.inl i,hl2,.inr ⟨rfl,sI,sI⟩⟩
  | inr q=>
   obtain⟨u,y,h1,h2,h3⟩:=hl2;rcases Nat.lt_or_ge q row.length with hq|hq
   . rw[List.getElem?_append_left (by simpa using hq)] at h2
     rw[List.getElem?_append_left (by rw[hl];exact hq)] at h1;by_cases hqr:q=r
     . subst hqr
       rw[List.getElem?_set_self hrr] at h2;cases h2
     . rw[List.getElem?_set_ne (Ne.symm hqr)] at h2
       exact⟨.inr q,⟨u,y,h1,h2,h3⟩,.inr ⟨rfl,by simpa using hqr,by simp;omega⟩⟩
   . rw[List.getElem?_append_right (by simpa using hq)] at h2
     have hq2:q=row.length:=by
      have:=(aK.1 h2).1;simp at this;omega
     subst hq2;rw[hlast] at h1;cases h1;refine⟨.inr r,⟨v,x,hv,hr,h3⟩,.inl ⟨rfl,rfl⟩⟩
 refine⟨_,ω++[v],h,⟨hS.tmps,hS.defers,fun t=>?_,?_⟩⟩
 . show RS _ _ _ _ _ (look (env.map fun x=>(x.1,jM r (fun m=>.own row.length m) x.2)) t)
   rw[tq];exact (hS.env t).sub (fun _ _ h=>h) hω hconv
 . refine⟨hM.below,hM.vok,hM.vle,hM.gu,by simp[hM.bl],?_,by simp[hl],?_,?_,?_,?_,fun x hx=>let ⟨a,b,c,d⟩:=hM.away x hx;⟨a,b,fun l hl=>let ⟨m,o1,_⟩:=own l _ hl;c m o1,d⟩⟩
   . intro i g c' h1 h2
     simp only[aN,Option.map_eq_some_iff] at h2;obtain⟨cs,hcs,rfl⟩:=h2;obtain⟨us,t',a1,b,c'',d,ty⟩:=hM.hbox i g cs h1 hcs;refine⟨us,t',a1,by simpa using b,c'',fun j v d' e1 e2=>?_,tV (fun _=>rfl) ty⟩;simp only[aN,Option.map_eq_some_iff] at e2;obtain⟨d0,hd0,rfl⟩:=e2;exact (d j v d0 e1 hd0).lN (fun _ _ h=>h) hω hconv
   . intro q u e' ys h1 h2
     rcases Nat.lt_or_ge q row.length with hq|hq
     . rw[List.getElem?_append_left (by simpa using hq)] at h2
       rw[List.getElem?_append_left (by rw[hl];exact hq)] at h1;by_cases hqr:q=r
       . subst hqr
         rw[List.getElem?_set_self hrr] at h2;cases h2
       . rw[List.getElem?_set_ne (Ne.symm hqr)] at h2
         exact hM.hrow q u e' ys h1 h2
     . rw[List.getElem?_append_right (by simpa using hq)] at h2
       have hq2:q=row.length:=by
        have:=(aK.1 h2).1;simp at this;omega
       subst hq2;rw[hlast] at h1;cases h1;simp at h2;subst h2;exact hM.hrow r v e' ys hv hr
   . intro l l' g h1 h2
     obtain⟨m,o1,c1⟩:=own l g h1;obtain⟨m',o2,c2⟩:=own l' g h2;have:=hM.uniq m m' g o1 o2;rcases c1 with⟨e1,e2⟩|⟨e1,e2,e3⟩<;>rcases c2 with⟨f1,f2⟩|⟨f1,f2,f3⟩
     . rw[e1,f1]
     . exact absurd (by rw[f1,<- this,e2]) f2
     . exact absurd (by rw[e1,this,f2]) e2
     . rw[e1,f1,this]
   . intro l g h1
     obtain⟨m,o1,_⟩:=own l g h1;exact hM.new m g o1
   . intro p u l hp h1
     obtain⟨m,o1,_⟩:=own l _ h1;exact hM.eF p u m hp o1
theorem GX:∀ (mv:List Nat) {s:St} {ω:List Value} {K:St->Prop},Sim sz w0 V0 V μ ω s a w->AX mv s K->∃ s' ω',K s'/\Sim sz w0 V0 V μ ω' s' a w
 | [],_,_,_,hS,h=>⟨_,_,h,hS⟩
 | r :: rs,_,_,_,hS,h=>by
  obtain⟨s1,ω1,h1,hS1⟩:=VF hS h;exact GX rs hS1 h1
theorem Ok.abS{c:Code}{Q:Exit->St->Prop}{ι:Type}(L Cs:List Nat)(k kb:Nat)(C:ι->List D)(B:ι->List (List D))(R:ι->Rows)(I:Exit->ι->Prop)
    (h:dN L 0 0 s fun s0=>match s0 with
     | ⟨env,_,_,n⟩=>(Ok P T c (fun e s'=>∃ x,I e x/\∃ mv,AX mv s' fun s'=>dN (je Cs L) k kb s' fun s1=>s1=⟨ak Cs (C x) env,B x,R x,n⟩) s) /\
      ∀ e x,I e x->mg Cs (C x) env fun env'=>Q e ⟨env',B x,R x,n⟩):Ok P T c Q s:=by
 obtain⟨⟨env,box,row,n⟩,h1,h2⟩:=sZ h;refine⟨fun w0 V0 V μ ω a w hS=>wp_mono (h1.run w0 V0 V μ ω a w hS) ?_⟩;rintro e a' w' ⟨s',V',μ',ω',⟨x,hI,mv,hk⟩,hS'⟩;obtain⟨s1,ω1,hk,hS1⟩:=GX mv hS' hk;obtain⟨s2,μ2,ω2,rfl,hS2⟩:=og hS1 hk;have:=h2 e x hI;rw[qJ] at this;exact⟨_,V',μ2,ω2,this,hS2⟩
theorem Ok.abT{c:Code}{Q:Exit->St->Prop}{ι:Type}(L Cs:List Nat)(k0 kb0 k kb:Nat)(C:ι->List D)(B:ι->List (List D))(R:ι->Rows)(I:Exit->ι->Prop)
    (h:dN L k0 kb0 s fun s0=>match s0 with
     | ⟨env,_,_,n⟩=>(Ok P T c (fun e s'=>∃ x,I e x/\dN (je Cs L) k kb s' fun s1=>s1=⟨ak Cs (C x) env,B x,R x,n⟩) s) /\
      ∀ e x,I e x->mg Cs (C x) env fun env'=>Q e ⟨env',B x,R x,n⟩):Ok P T c Q s:=by
 obtain⟨⟨env,box,row,n⟩,h1,h2⟩:=sZ h;exact Ok.fC (je Cs L) k kb (fun x=>⟨ak Cs (C x) env,B x,R x,n⟩) I h1 fun e x hx=>by
  have:=h2 e x hx;rwa [qJ] at this
end
end Go.Vx
namespace Go.Vx
open Go.RowKit Go.ChangeShapes Go.WideShapes
open Go.Proofs.YtnlingegeangmaaGreatDoor (Rows.uptoBulk Rows.uptoBulkAll)
inductive Shp where
 | bool|int (k:IntKind)|str|slice (e:TypeId) (cells:List Shp)
def y7(F:TypeId->Option (List Shp)):Nat->List (Nat × TypeId)->Option (List Shp)
 | _,[]=>some []
 | k,(o,t) :: r=>match Nat.beq o k,F t with
  | true,some l=>(match y7 F (k+l.length) r with|some m=>some (l++m)|none=>none)
  | _,_=>none
def wU(s:Nat)(o:Option (List Shp)):Option (List Shp):=match o with|some l=>(match Nat.beq s l.length with|true=>some l|false=>none)|none=>none
def fF(T:Tab):Nat->TypeId->Option (List Shp)
 | 0,_=>none
 | f+1,t=>match T t with
  | some ⟨s,_,.bool,_⟩=>wU s (some [.bool])
  | some ⟨s,_,.int k,_⟩=>wU s (some [.int k])
  | some ⟨s,_,.str,_⟩=>wU s (some [.str])
  | some ⟨s,_,.slice e,_⟩=>wU s (match fF T f e with|some l=>some [.slice e l]|none=>none)
  | some ⟨s,_,.struct fs,_⟩=>wU s (y7 (fF T f) 0 fs)
  | _=>none
mutual
/-- A cell of such a type; lists and texts of at most B. -/
def TyS (B : Nat) : Shp → D → Prop
  | .bool, d => ∃ p, d = .b p
  | .int k, d => ∃ n, d = .i k n ∧ (Lit.int k n).wf = true
  | .str, d => ∃ l, d = .s l ∧ l.length ≤ B
  | .slice e l, d => ∃ rows room, d = .lst e rows room ∧ rows.length + room.length ≤ B ∧ ∀ r, r ∈ rows ++ room → bZ B l r
/-- .. a row of cells. -/
def bZ (B : Nat) : List Shp → List D → Prop
  | [], [] => True
  | s :: ss, d :: ds => TyS B s d ∧ bZ B ss ds
  | [], _ :: _ => False
  | _ :: _, [] => False
end
def TyA(T:Tab)(B:Nat)(t:TypeId)(l:List Shp)(x:D):Prop:=
 match T t with
 | some ⟨_,_,.struct _,_⟩=>∃ row,x = .agg row/\bZ B l row
 | _=>bZ B l [x]
theorem bZ.append{B:Nat}:∀ {ts us:List Shp} {ds es:List D},bZ B ts ds->bZ B us es->bZ B (ts++us) (ds++es)
 | [],_,[],_,_,h=>h
 | _ :: _,_,_ :: _,_,h,h'=>by
  simp only[bZ,List.cons_append] at h ⊢;exact⟨h.1,bZ.append h.2 h'⟩
 | [],_,_ :: _,_,h,_=>by simp[bZ] at h
 | _ :: _,_,[],_,h,_=>by simp[bZ] at h
theorem yh{s:Nat}{o:Option (List Shp)}{l:List Shp}(h:wU s o=some l):o=some l/\s=l.length:=by
 unfold wU at h;split at h
 . split at h
   . rename_i hb
     cases h;exact⟨rfl,Nat.eq_of_beq_eq_true hb⟩
   . cases h
 . cases h
theorem IQ{T:Tab}{f:Nat}{t:TypeId}{l:List Shp}(h:fF T f t=some l):ah T t=l.length/\∃ ti,T t=some ti:=by
 cases f with
 | zero=>simp[fF] at h
 | succ f=>
  simp only[fF] at h;split at h
  all_goals first
   | (cases h)
   | (rename_i ht;have:=yh h;rw[jI ht];exact⟨this.2,_,ht⟩)
section
variable {H : Type} {enc : TypeId × Value → H} {P : Program} {T : Tab} {w : World} {held : Bool}
theorem IU{d:DataW H}:∀ {l:List (DataW H)},d ∈ l->Rows.uptoBulk d<=Rows.uptoBulkAll l
 | [],h=>by cases h
 | x :: r,h=>by
  simp only[Rows.uptoBulkAll];rcases List.mem_cons.1 h with rfl|h
  . omega
  . have:=IU h;omega
theorem YH(d:DataW H):1<=Rows.uptoBulk d:=by
 cases d with
 | lit l=>cases l<;>simp[Rows.uptoBulk]
 | _=>simp[Rows.uptoBulk]
theorem Hf:∀ (l:List (DataW H)),l.length<=Rows.uptoBulkAll l
 | []=>by simp[Rows.uptoBulkAll]
 | x :: r=>by have:=YH x;have:=Hf r;simp only[Rows.uptoBulkAll,List.length_cons];omega
def pO(T:Tab)(w:World)(cs:List Value)(row:List D):Prop:=
 cs.length=row.length/\∀ (j:Nat) v d,cs[j]? = some v->row[j]? = some d->RI (ah T) (fD w) v d/\v.oneCell'=true
theorem pO.append{cs cs':List Value}{row row':List D}(h:pO T w cs row)(h':pO T w cs' row'):pO T w (cs++cs') (row++row'):=by
 refine⟨by simp[h.1,h'.1],fun j v d h1 h2=>?_⟩;by_cases hj:j<cs.length
 . rw[List.getElem?_append_left hj] at h1
   rw[List.getElem?_append_left (by rw[<- h.1];exact hj)] at h2;exact h.2 j v d h1 h2
 . rw[List.getElem?_append_right oA] at h1
   rw[List.getElem?_append_right (by rw[<- h.1];omega),<- h.1] at h2;exact h'.2 _ v d h1 h2
theorem pO.one{v:Value}{d:D}(h:RI (ah T) (fD w) v d)(h1:v.oneCell'=true):pO T w [v] [d]:=by
 refine⟨rfl,fun j v' d' h2 h3=>?_⟩
 cases j with
 | zero=>simp at h2 h3;subst h2 h3;exact⟨h,h1⟩
 | succ j=>simp at h2
theorem P8(hT:TOk P T){t:TypeId}(h:∃ ti,T t=some ti):ah T t=P.cellsOf t:=by
 obtain⟨ti,ht⟩:=h;obtain⟨i,z,h1,h2,_⟩:=(hT t ti ht).info;rw[jI ht];simp[Program.cellsOf,h1,h2]
theorem OO{f B:Nat}{k:Nat}(ih:∀ t cs x l,fF T f t=some l->(B=maxLen\/Rows.uptoBulk x.1<=B)->DataW.trod enc P w 0 (fun _=>true) held k t cs=some x->∃ row,bZ B l row/\pO T w cs row)
    (hT:TOk P T)(cs:List Value) :
    ∀ (fs:List (Nat × TypeId)) (o:Nat) (xs:List (DataW H × List MemPlace)) (l:List Shp),y7 (fF T f) o fs=some l ->
     (B=maxLen\/Rows.uptoBulkAll (xs.map (·.1))<=B)->xs.length=fs.length ->
     (∀ (i:Nat) p,fs[i]? = some p->DataW.trod enc P w 0 (fun _=>true) held k p.2 ((cs.drop p.1).take (P.cellsOf p.2))=xs[i]?) ->
     cs.length=o+l.length->∃ row,bZ B l row/\pO T w (cs.drop o) row
 | [],o,xs,l,h1,_,_,_,hl=>⟨[],by simp[y7] at h1;subst h1;simp[bZ],by
     simp[y7] at h1;subst h1;have:cs.drop o=[]:=List.drop_of_length_le (by rw[hl];simp);rw[this];exact⟨rfl,fun j v d h=>by simp at h⟩⟩
 | (o',t) :: r,o,xs,l,h1,hB,hxl,hx,hl=>by
  simp only[y7] at h1;split at h1
  case h_2=>cases h1
  rename_i l0 hb ht;split at h1
  case h_2=>cases h1
  rename_i m hm;cases h1;have ho:o'=o:=Nat.eq_of_beq_eq_true hb;obtain⟨hs,hti⟩:=IQ ht;subst ho
  cases xs with
  | nil=>simp at hxl
  | cons x0 xs=>
   have h0:=hx 0 _ rfl;simp only[List.getElem?_cons_zero] at h0;have hb0:B=maxLen\/Rows.uptoBulk x0.1<=B:=by
    rcases hB with hB|hB
    . exact .inl hB
    . right;simp only[List.map_cons,Rows.uptoBulkAll] at hB;omega
   have hb1:B=maxLen\/Rows.uptoBulkAll (xs.map (·.1))<=B:=by
    rcases hB with hB|hB
    . exact .inl hB
    . right;simp only[List.map_cons,Rows.uptoBulkAll] at hB;omega
   simp only[List.length_append] at hl;obtain⟨row0,a0,r0⟩:=ih _ _ _ _ ht hb0 h0;obtain⟨oO,a1,r1⟩:=OO ih hT cs r (o' + l0.length) xs m hm hb1 (by simpa using hxl) (fun i p hp=>by
    have:=hx (i+1) p (by simpa using hp);simpa using this) oA
   refine⟨row0++oO,a0.append a1,?_⟩;have hc:cs.drop o'=(cs.drop o').take (P.cellsOf t)++cs.drop (o' + l0.length):=by
    rw[<- P8 hT hti,hs,<- List.drop_drop,List.take_append_drop]
   rw[hc];exact r0.append r1
theorem Jp(hT:TOk P T)(B:Nat)(hBm:B<=maxLen):∀ (f k:Nat) (t:TypeId) (cs:List Value) (x:DataW H × List MemPlace) (l:List Shp),fF T f t=some l->(B=maxLen\/Rows.uptoBulk x.1<=B) ->
    DataW.trod enc P w 0 (fun _=>true) held k t cs=some x->∃ row,bZ B l row/\pO T w cs row
 | 0,_,_,_,_,_,h,_,_=>by simp[fF] at h
 | f+1,k,t,cs,x,l,hok,hB,h=>by
  cases ht:T t with
  | none=>simp[fF,ht] at hok
  | some ti=>
   obtain⟨s,b,kd,z⟩:=ti;have hG:=(hT t _ ht).kind
   cases kd with
   | bool=>
    obtain⟨v,rfl,rfl⟩:=DataW.trod_bool hG h;simp only[fF,ht] at hok;obtain⟨hok,_⟩:=yh hok;cases hok;refine⟨[.b (v=true)],?_,.one (.b _ _ Iff.rfl) rfl⟩;simp only[bZ,TyS,and_true];exact⟨_,rfl⟩
   | int kk=>
    obtain⟨n,rfl,rfl,hw⟩:=DataW.trod_int hG h;simp only[fF,ht] at hok;obtain⟨hok,_⟩:=yh hok;cases hok;refine⟨[.i kk n],?_,.one (.i _ _) rfl⟩;simp[bZ,TyS,hw]
   | str=>
    obtain⟨v,rfl,rfl,hl⟩:=DataW.trod_string hG h;simp only[fF,ht] at hok;obtain⟨hok,_⟩:=yh hok;cases hok;refine⟨[.s v.data.toList],?_,.one (by have:=RI.s (sz:=ah T) (V:=fD w) v.data.toList;rwa [OB] at this) rfl⟩;simp only[bZ,TyS,and_true];refine⟨_,rfl,?_⟩;have hl':v.data.toList.length<=maxLen:=by rw[Array.length_toList];exact hl
    rcases hB with rfl|hB
    . exact hl'
    . simp only[Rows.uptoBulk] at hB;omega
   | slice e=>
    simp only[fF,ht] at hok;obtain⟨hok,_⟩:=yh hok;split at hok
    case h_2=>cases hok
    rename_i le hle;cases hok;obtain⟨hse,hti⟩:=IQ hle;have hce:=P8 hT hti;rcases Go.Deep.open_slice hG h with⟨rfl,rfl⟩|⟨a,len,cap,m,n,Df,Pl,rfl,_,hlc,hcm,hm,rfl,hx⟩
    . refine⟨[.lst e [] []],?_,.one (RI.lst e [] [] none ⟨0,0,none⟩ 0 (fun _ _=>undef) sI (by unfold maxLen;omega) sI sI sI sI sI) rfl⟩
      simp only[bZ,TyS,and_true];exact⟨[],[],rfl,Nat.zero_le _,fun r hr=>by cases hr⟩
    . simp only[if_true] at hm
      subst hm;have hbi:∀ i,i<m->(B=maxLen\/Rows.uptoBulk (Df i)<=B):=by
       intro i hi;rcases hB with hB|hB
       . exact .inl hB
       . right
         simp only[Rows.uptoBulk] at hB;by_cases hil:i<len
         . have:=IU (d:=Df i) (l:=(List.range len).map Df) (List.mem_map.2 ⟨i,by simpa using hil,rfl⟩)
           omega
         . have:=IU (d:=Df i) (l:=(List.range (m - len)).map fun j=>Df (len+j)) (List.mem_map.2 ⟨i - len,by simp;omega,by rw[show len+(i - len)=i by omega]⟩)
           omega
      have hmB:m<=B:=by
       rcases hB with rfl|hB
       . exact hcm
       . simp only[Rows.uptoBulk] at hB
         have h1:=Hf ((List.range len).map Df);have h2:=Hf ((List.range (m - len)).map fun j=>Df (len+j));simp at h1 h2;omega
      have key:∀ i,i<m->∃ p:List Value × List D,w.cells? 0 (a.add (i*ah T e)) (ah T e)=some p.1/\bZ B le p.2/\pO T w p.1 p.2:=by
       intro i hi;obtain⟨cs',h1,h2⟩:=hx i hi;obtain⟨row,h3,h4⟩:=Jp hT B hBm f n e cs' _ le hle (hbi i hi) h2;exact⟨(cs',row),by rw[hce];exact h1,h3,h4⟩
      obtain⟨g,hg⟩:=Go.Deep.choose_lt key;have hat:∀ (i:Nat) row,(((List.range len).map fun i=>(g i).2)++((List.range (m - len)).map fun j=>(g (len+j)).2))[i]? = some row->i<m/\row=(g i).2:=by
       intro i row hr;by_cases hil:i<len
       . rw[List.getElem?_append_left (by simpa using hil)] at hr
         simp[hil] at hr;exact⟨oA,hr.symm⟩
       . rw[List.getElem?_append_right sO] at hr
         simp only[bV,List.length_range,aN,Option.map_eq_some_iff] at hr;obtain⟨j,hj,rfl⟩:=hr;have hj2:=aK.1 hj;obtain⟨hj3,hj4⟩:=hj2;simp at hj3 hj4;refine⟨oA,by rw[<- hj4,show len+(i - len)=i by omega]⟩
      have hcell:∀ i,i<m->(g i).1.length=ah T e/\∀ j,j<ah T e->w.cell? ((a.add (i*ah T e)).add j)=(g i).1[j]?:=by
       intro i hi;obtain⟨_,h2,h3⟩:=World.cells?_some (hg i hi).1;exact⟨h2,h3⟩
      refine⟨[.lst e ((List.range len).map fun i=>(g i).2) ((List.range (m - len)).map fun j=>(g (len+j)).2)],?_,.one ?_ rfl⟩
      . simp only[bZ,TyS,and_true]
        refine⟨_,_,rfl,by simp;omega,fun r hr=>?_⟩;obtain⟨i,hi⟩:=List.getElem?_of_mem hr;obtain⟨h1,rfl⟩:=hat i r hi;exact (hg i h1).2.1
      . have hres:=RI.lst (sz:=ah T) (V:=fD w) e ((List.range len).map fun i=>(g i).2) ((List.range (m - len)).map fun j=>(g (len+j)).2) (some a) a m (fun i j=>(g i).1.getD j undef)
          sO hcm (fun _=>rfl) (fun hno=>by cases hno)
          (fun i row hr=>by
           obtain⟨h1,rfl⟩:=hat i row hr;rw[<- (hg i h1).2.2.1,(hcell i h1).1])
          (fun i row j d hr hd=>by
           obtain⟨h1,rfl⟩:=hat i row hr;have hj:j<(g i).1.length:=by rw[(hg i h1).2.2.1];exact (aK.1 hd).1
           have h2:=(hcell i h1).2 j (by rw[<- (hcell i h1).1];exact hj);have hv:(g i).1[j]? = some ((g i).1.getD j undef):=by simp[List.getD,aC hj]
           refine⟨?_,((hg i h1).2.2.2 j _ d hv hd).2⟩;show w.cell? _=_;rw[<- add_add,h2,hv])
          (fun i row j d hr hd=>by
           obtain⟨h1,rfl⟩:=hat i row hr;have hj:j<(g i).1.length:=by rw[(hg i h1).2.2.1];exact (aK.1 hd).1
           have hv:(g i).1[j]? = some ((g i).1.getD j undef):=by simp[List.getD,aC hj]
           exact ((hg i h1).2.2.2 j _ d hv hd).1)
        simpa using hres
   | struct fs=>
    simp only[fF,ht] at hok;obtain⟨hok,hs⟩:=yh hok;obtain⟨fa,hu,hfa⟩:=hG;obtain⟨xs,n,_,rfl,hl,hxl,hx⟩:=DataW.trod_struct hu h;have hc:P.cellsOf t=s:=by
     obtain⟨i,z',h1,h2,_⟩:=(hT t _ ht).info;simp[Program.cellsOf,h1,h2]
    have hfl:fs.length=fa.size:=by rw[<- hfa];simp
    obtain⟨row,h1,h2⟩:=OO (fun t cs x l a b c=>Jp hT B hBm f n t cs x l a b c) hT cs fs 0 xs l hok (by
        rcases hB with hB|hB
        . exact .inl hB
        . right;simp only[Rows.uptoBulk] at hB;omega) (by rw[hxl,hfl]) (fun i p hp=>by
        rw[<- hfa] at hp;simp only[aN,Option.map_eq_some_iff] at hp;obtain⟨fd,h3,rfl⟩:=hp;exact hx i fd (by simpa using h3)) (by rw[hl,hc,hs,Nat.zero_add])
    exact⟨row,h1,by simpa using h2⟩
   | array n e=>simp[fF,ht] at hok
   | ptr e=>simp[fF,ht] at hok
   | wo e=>simp[fF,ht] at hok
   | other=>simp[fF,ht] at hok
end
end Go.Vx
namespace Go.Vx
open Go.RowKit Go.ChangeShapes Go.WideShapes
open Go.Proofs.YtnlingegeangmaaGreatDoor (Rows.uptoBulk Rows.uptoBulkAll)
def shapes(T:Tab)(f:Nat):List TypeId->Option (List (List Shp))
 | []=>some []
 | t :: ts=>match fF T f t,shapes T f ts with|some l,some r=>some (l :: r)|_,_=>none
def uQ(T:Tab)(B:Nat):List TypeId->List (List Shp)->List D->Prop
 | [],[],[]=>True
 | t :: ts,l :: ls,x :: xs=>TyA T B t l x/\uQ T B ts ls xs
 | _,_,_=>False
section
variable {H : Type} {enc : TypeId × Value → H} {P : Program} {T : Tab} {w : World}
theorem abg(hT:TOk P T){B:Nat}(hBm:B<=maxLen){f base:Nat}{r:Reach}{t:TypeId}{v:Value}{d:DataW H}{ps:List MemPlace}{l:List Shp}(hs:fF T f t=some l)(hB:B=maxLen\/Rows.uptoBulk d<=B)
    (hv:Value.okWide P w r base t v)(h:DataW.Trod enc P w 0 (fun _=>true) true t v d ps):∃ x,TyA T B t l x/\RI (ah T) (fD w) v x:=by
 obtain⟨k,hk⟩:=h;obtain⟨row,h1,h2⟩:=Jp hT B hBm f k t _ _ l hs hB hk;obtain⟨hz,ti,ht⟩:=IQ hs;obtain⟨s,b,kd,z⟩:=ti;have hG:=(hT t _ ht).kind;have one:∀ u,v=u->u.cells=#[u]->TyA T B t l=(fun x=>bZ B l [x])->∃ x,TyA T B t l x/\RI (ah T) (fD w) v x:=by
  rintro u rfl hu he;rw[hu] at h2;obtain⟨h3,h4⟩:=h2
  match row,h3 with
  | [x],_=>exact⟨x,by rw[he];exact h1,(h4 0 v x rfl rfl).1⟩
 cases kd with
 | bool=>obtain⟨u,rfl⟩:=okWide_bool hG hv;exact one _ rfl rfl (by funext x;simp[TyA,ht])
 | int kk=>obtain⟨u,rfl⟩:=okWide_int hG hv;exact one _ rfl rfl (by funext x;simp[TyA,ht])
 | str=>obtain⟨u,rfl⟩:=okWide_string hG hv;exact one _ rfl rfl (by funext x;simp[TyA,ht])
 | slice e=>obtain⟨a,m,n,rfl⟩:=okWide_slice hG hv;exact one _ rfl rfl (by funext x;simp[TyA,ht])
 | struct fs=>
  obtain⟨fa,hu,_⟩:=hG;obtain⟨cs,rfl,_⟩:=okWide_struct hu hv;refine⟨.agg row,by simp only[TyA,ht];exact⟨row,rfl,h1⟩,?_⟩;simp only[Value.cells] at h2;refine RI.agg row cs (by simpa using h2.1) (fun u hu=>?_) (fun j u d a b=>(h2.2 j u d (by simpa using a) b).1);obtain⟨j,hj⟩:=List.getElem?_of_mem hu;have hl:j<row.length:=by rw[<- h2.1];exact (aK.1 hj).1
  exact (h2.2 j u _ hj (aC hl)).2
 | array n e=>cases f with|zero=>simp[fF] at hs|succ f=>simp[fF,ht] at hs
 | ptr e=>cases f with|zero=>simp[fF] at hs|succ f=>simp[fF,ht] at hs
 | wo e=>cases f with|zero=>simp[fF] at hs|succ f=>simp[fF,ht] at hs
 | other=>cases f with|zero=>simp[fF] at hs|succ f=>simp[fF,ht] at hs
theorem Ro(hT:TOk P T){B:Nat}(hBm:B<=maxLen){f base:Nat}{r:Reach}:∀ (ts:List TypeId) (ls:List (List Shp)) (vs:List Value) (ds:List (DataW H)) (ps:List MemPlace),shapes T f ts=some ls ->
    (B=maxLen\/Rows.uptoBulkAll ds<=B)->(∀ (j:Nat) t v,ts[j]? = some t->vs[j]? = some v->Value.okWide P w r base t v)->DataW.TrodAll enc P w 0 (fun _=>true) true ts vs ds ps ->
    ∃ xs,uQ T B ts ls xs/\vs.length=xs.length/\∀ (j:Nat) v x,vs[j]? = some v->xs[j]? = some x->RI (ah T) (fD w) v x
 | [],ls,vs,ds,ps,hs,_,_,h=>by
  obtain⟨rfl,rfl,rfl⟩:=trodAll_nil h;cases hs;exact⟨[],trivial,rfl,fun j v x h=>by simp at h⟩
 | t :: ts,ls,vs,ds,ps,hs,hB,hv,h=>by
  obtain⟨v,vs',d,ds',p,q,rfl,rfl,rfl,h1,h2⟩:=trodAll_cons h;simp only[shapes] at hs;split at hs
  case h_2=>cases hs
  rename_i l r h3 h4;cases hs;obtain⟨x,hx1,hx2⟩:=abg hT hBm h3 (by
   rcases hB with hB|hB
   . exact .inl hB
   . right;simp only[Rows.uptoBulkAll] at hB;omega) (hv 0 t v rfl rfl) h1
  obtain⟨xs,hy1,hy2,hy3⟩:=Ro hT hBm ts r vs' ds' q h4 (by
   rcases hB with hB|hB
   . exact .inl hB
   . right;simp only[Rows.uptoBulkAll] at hB;omega) (fun j t' v' a b=>hv (j+1) t' v' (by simpa using a) (by simpa using b)) h2
  refine⟨x :: xs,⟨hx1,hy1⟩,by simp[hy2],fun j v' x' a b=>?_⟩
  cases j with
  | zero=>simp at a b;subst a b;exact hx2
  | succ j=>exact hy3 j v' x' (by simpa using a) (by simpa using b)
theorem stays(hl:laidOutB P=true){W W':World}(hb:Below W.heap.size W W'){sp:Nat->Bool}:∀ (ts:List TypeId) (vs:List Value) (ds:List (DataW H)) (ps:List MemPlace),(∀ t ∈ ts,P.readableRec t=true/\t<P.types.size) ->
    (∀ p ∈ ps,p.block<W.heap.size)->(∀ p ∈ ps,sp p.block=true)->DataW.TrodAll enc P W 0 (fun _=>true) true ts vs ds ps->DataW.TrodAll enc P W' 0 sp true ts vs ds ps
 | [],vs,ds,ps,_,_,_,h=>by
  obtain⟨rfl,rfl,rfl⟩:=trodAll_nil h;exact trodAll_mk0
 | t :: ts,vs,ds,ps,ht,h1,h2,h=>by
  obtain⟨v,vs',d,ds',p,q,rfl,rfl,rfl,h3,h4⟩:=trodAll_cons h;refine⟨p,q,WideElems.Trod_stays hl (ht t sI).1 (ht t sI).2 h3 (fun x hx=>hb.same (h1 x (by simp[hx]))) (fun x hx=>h2 x (by simp[hx])),
   stays hl hb ts vs' ds' q (fun t' hm=>ht t' (by simp[hm])) (fun x hx=>h1 x (by simp[hx])) (fun x hx=>h2 x (by simp[hx])) h4,rfl⟩
theorem P9:∀ {ts:List TypeId} {vs:List Value} {ds:List (DataW H)} {ps:List MemPlace},DataW.TrodAll enc P w 0 (fun _=>true) true ts vs ds ps->ds.length=ts.length
 | [],_,_,_,h=>by obtain⟨rfl,rfl,rfl⟩:=trodAll_nil h;rfl
 | _ :: _,_,_,_,h=>by
  obtain⟨v,vs',d,ds',p,q,rfl,rfl,rfl,_,h4⟩:=trodAll_cons h;simp[P9 h4]
theorem Xp(hT:TOk P T){B:Nat}(hBm:B<=maxLen){f:FuncId}{fn:Func}{s:ChangeSpec}{ls:List (List Shp)}{n:Nat}{tb:TypeId}{ts:List TypeId}(hp:fn.params.toList=ts)(hr:fn.resultTypes=#[tb])(htb:P.underlying tb=some .bool)
    (hsv:s.vars=[])(hs:∀ (ds:List (DataW H)),ds.length=ts.length->s.fn H ds={ results:=[.lit (.bool true)],args:=ds })
    (hl:laidOutB P=true)(hts:∀ t ∈ ts,P.readableRec t=true/\t<P.types.size)(hsh:shapes T n ts=some ls)
    (Lj:∀ xs,uQ T B ts ls xs->aF P T f xs (fun d _=>d = .b True))
    (W:World)(base:Nat)(args:Array Value)(ds gs:List (DataW H))(before:List MemPlace)
    (hval:∀ (j:Nat) t v,fn.params[j]? = some t->args[j]? = some v->Value.okWide P W .any base t v)
    (hW:DataW.Whole enc P fn.params.toList s.vars false W args.toList ds gs before)(hB:B=maxLen\/Rows.uptoBulkAll (ds++gs)<=B)
    (hgl:zk W:=by exact⟨by intro p v hp;unfold glV glD at hp;split at hp<;>(cases hp),by intro g cs hg;unfold glD at hg;split at hg<;>(cases hg)⟩) :
    Calls P f args W fun e W'=>∃ v,e = .returned v/\s.post enc P fn false true false false W args v W':=by
 have hlt:=hW.lt;obtain⟨p,q,hA,hV,rfl,hfz,hnd⟩:=id hW;rw[hsv] at hV;obtain⟨rfl,rfl⟩:=trodVars_none hV;simp only[List.append_nil] at hlt hB hfz;rw[hp] at hA;obtain⟨xs,h1,h2,h3⟩:=Ro hT hBm ts ls args.toList ds p hsh hB (fun j t v a b=>hval j t v (by rw[<- hp] at a;simpa using a) (by simpa using b)) hA;have hdl:ds.length=ts.length:=P9 hA;refine ((Lj xs h1).run (fD W) W args ⟨hgl,fun _ _ h=>h⟩ (by simpa using h2) (fun j v d a b=>h3 j v d (by simpa using a) b)).mono fun e W' hx=>?_
 obtain⟨V',ω,row,v,d,rfl,hd,hRS,hres⟩:=hx;subst hd;obtain⟨b,rfl,hbt⟩:=hRS.bool;have hbt:b=true:=hbt.2 trivial;subst hbt;refine⟨_,rfl,?_⟩;have hb:=hres.below;have hargs:∀ sp:Nat->Bool,(∀ x ∈ p,sp x.block=true)->DataW.TrodAll enc P W' 0 sp true fn.params.toList args.toList ds p:=fun sp hsp=>by
  rw[hp];exact stays hl hb ts args.toList ds p hts hlt hsp hA
 have hrs:∀ (b:Nat) (sp:Nat->Bool) (hd:Bool),DataW.TrodAll enc P W' b sp hd fn.resultTypes.toList ((Value.bool true).resultList fn.resultTypes.size) [.lit (.bool true)] []:=fun b sp hd=>by
  rw[hr];exact trodAll_mk1 (shut_bool htb _)
 have hsf:=hs ds hdl;refine⟨ds,[],p,[],p,[],by simpa using hW,?_,?_,?_,?_,?_⟩
 . rw[List.append_nil,hsf];exact hrs _ _ _
 . rw[List.append_nil,hsf];exact hargs _ fun x hx=>by simpa using hlt x hx
 . rw[hsv,List.append_nil,hsf];exact rfl
 . exact World.keptBut_mono (fun x hx=>⟨hx,by simpa using hx⟩) (hb.frame (· ∈ p))
 . intro _
   refine⟨?_,?_⟩
   . exact ok_one hr rfl (okWide_bool_mk htb _)
   . refine⟨_,[],([]++p)++[],⟨[]++p,[],trodAll_append (hargs _ (fun _ _=>rfl)) (hrs 0 _ _),?_,rfl,?_,fun h=>by cases h⟩,fun x hx _=>by simpa using hx⟩
     . rw[hsv];rfl
     . intro b off hx
       have hin:MemPlace.cell b off ∈ p:=by simpa using hx
       rw[hb.frozen (hlt _ hin)];exact hfz b off hin
end
end Go.Vx
namespace Go.Vx
open Go.RowKit
theorem dA{B:Nat}{s:Shp}{ss:List Shp}{r:List D}(h:bZ B (s :: ss) r):∃ d ds,r=d :: ds/\bZ B [s] [d]/\bZ B ss ds:=by
 cases r with
 | nil=>simp[bZ] at h
 | cons d ds=>simp only[bZ] at h;exact⟨d,ds,rfl,by simpa only[bZ,and_true] using h.1,h.2⟩
theorem oH{B:Nat}{r:List D}(h:bZ B [] r):r=[]:=by
 cases r with
 | nil=>rfl
 | cons d ds=>simp[bZ] at h
theorem EF{T:Tab}{B:Nat}{t:TypeId}{ts:List TypeId}{l:List Shp}{ls:List (List Shp)}{xs:List D}(h:uQ T B (t :: ts) (l :: ls) xs):∃ x r,xs=x :: r/\TyA T B t l x/\uQ T B ts ls r:=by
 cases xs with
 | nil=>exact h.elim
 | cons x r=>exact⟨x,r,rfl,h.1,h.2⟩
theorem as_nil{T:Tab}{B:Nat}{xs:List D}(h:uQ T B [] [] xs):xs=[]:=by
 cases xs with
 | nil=>rfl
 | cons x r=>exact h.elim
def Ll:Option TI->Bool|some ⟨_,_,.struct _,_⟩=>true|_=>false
theorem leaf{T:Tab}{B:Nat}{t:TypeId}{l:List Shp}{x:D}(h:TyA T B t l x)(ht:Ll (T t)=false):bZ B l [x]:=by
 unfold TyA at h;split at h
 . rename_i h1;rw[h1] at ht;cases ht
 . exact h
theorem abh{T:Tab}{B:Nat}{t:TypeId}{l:List Shp}{x:D}(h:TyA T B t l x)(ht:Ll (T t)=true):∃ row,x = .agg row/\bZ B l row:=by
 unfold TyA at h;split at h
 . exact h
 . rename_i h1
   exfalso;unfold Ll at ht;split at ht
   . rename_i h2;exact h1 _ _ _ _ h2
   . cases ht
theorem Rq{B:Nat}{x:D}(h:bZ B [.bool] [x]):∃ p,x = .b p:=by
 simpa only[bZ,TyS,and_true] using h
theorem Jq{α:Type}{f:α->List D}{p:α->Prop}:∀ {rows:List (List D)},(∀ r ∈ rows,∃ a,r=f a/\p a)->∃ l:List α,rows=l.map f/\∀ a ∈ l,p a
 | [],_=>⟨[],rfl,sI⟩
 | r :: rows,h=>by
  obtain⟨a,rfl,ha⟩:=h r sI;obtain⟨l,rfl,hl⟩:=Jq (rows:=rows) fun r hr=>h r (by simp[hr])
  exact⟨a :: l,rfl,by simpa using ⟨ha,hl⟩⟩
theorem SY{B:Nat}{α:Type}{f:α->List D}{p:α->Prop}{e:TypeId}{l:List Shp}{x:D}(h:bZ B [.slice e l] [x])(hf:∀ r,bZ B l r->∃ a,r=f a/\p a) :
    ∃ (us:List α) (room:List α),x = .lst e (us.map f) (room.map f)/\us.length+room.length<=B/\(∀ a ∈ us,p a)/\∀ a ∈ room,p a:=by
 simp only[bZ,TyS,and_true] at h;obtain⟨rows,room,rfl,hl,hr⟩:=h;obtain⟨us,rfl,h1⟩:=Jq (f:=f) (p:=p) (rows:=rows) fun r h=>hf r (hr r (by simp[h]))
 obtain⟨bs,rfl,h2⟩:=Jq (f:=f) (p:=p) (rows:=room) fun r h=>hf r (hr r (by simp[h]))
 exact⟨us,bs,rfl,by simpa using hl,h1,h2⟩
theorem jB{B:Nat}{k:IntKind}{x:D}(h:bZ B [.int k] [x]):∃ n,x = .i k n/\(Lit.int k n).wf=true:=by
 simpa only[bZ,TyS,and_true] using h
theorem ni{B:Nat}{x:D}(h:bZ B [.str] [x]):∃ l,x = .s l/\l.length<=B:=by
 simpa only[bZ,TyS,and_true] using h
theorem wf64{n:Int}(h:(Lit.int .i64 n).wf=true):-9223372036854775808<=n/\n<=9223372036854775807:=by
 simpa[Lit.wf,IntKind.min,IntKind.max,IntKind.signed,IntKind.bits] using h
end Go.Vx
namespace Go.Proofs.YtnlingegeangmaaGreatDoor
open Go
abbrev Str:=List UInt8
def nN(a b:UInt8):Option UInt8:=if a=120 then some b else if b=120\/b=a then some a else none
def jO:Str->Str->Option Str
 | [],[]=>some []
 | a :: c,b :: d=>match nN a b,jO c d with
  | some x,some r=>some (x :: r)
  | _,_=>none
 | _,_=>none
def jP(c d:Str):Option Str:=if c=[] then none else jO c d
theorem yB:∀ {c d m:Str},jO c d=some m->c.length=m.length/\d.length=m.length
 | [],[],m,h=>by cases h;exact⟨rfl,rfl⟩
 | [],_ :: _,_,h=>by cases h
 | _ :: _,[],_,h=>by cases h
 | a :: c,b :: d,m,h=>by
  unfold jO at h
  cases h1:nN a b with
  | none=>rw[h1] at h;cases h
  | some x=>cases h2:jO c d with
   | none=>rw[h1,h2] at h;cases h
   | some r=>
    rw[h1,h2] at h;cases h;have:=yB h2;simp[this.1,this.2]
end Go.Proofs.YtnlingegeangmaaGreatDoor
namespace Go.Proofs.YtnlingegeangmaaGreatDoor
open Go Go.Vx
def wof(f:Nat->Bool)(k:Nat):BitVec 64:=(BitVec.ofBoolListLE ((List.range 64).map fun i=>f (64*k+i))).setWidth 64
theorem iH(f:Nat->Bool)(k i:Nat)(h:i<64):(wof f k).getLsbD i=f (64*k+i):=by
 unfold wof;rw[BitVec.getLsbD_setWidth,BitVec.getLsbD_ofBoolListLE];simp[h,List.getD]
theorem EG{f g:Nat->Bool}{k:Nat}(h:∀ i,i<64->f (64*k+i)=g (64*k+i)):wof f k=wof g k:=
 BitVec.eq_of_getLsbD_eq fun i hi=>by rw[iH _ _ _ hi,iH _ _ _ hi];exact h i hi
theorem y8(x:BitVec 64):BitVec.ofInt IntKind.u64.bits (x.toNat:Int)=x:=by
 show BitVec.ofInt 64 (x.toNat:Int)=x;simp
theorem EH(x:BitVec 64):IntKind.u64.wrap (x.toNat:Int)=(x.toNat:Int):=by
 have:=x.isLt;simp[IntKind.wrap,IntKind.bits,IntKind.signed];omega
section
variable {p : Int → Prop} {x y : BitVec 64}
theorem CB(h:p ((x &&& y).toNat:Int)):∃ n,n=IntKind.u64.wrap ((BitVec.ofInt IntKind.u64.bits (x.toNat:Int) &&& BitVec.ofInt IntKind.u64.bits (y.toNat:Int)).toNat:Int)/\p n:=⟨_,rfl,by
 have key:∀ (a b:BitVec 64),a=x->b=y->IntKind.u64.wrap ((a &&& b).toNat:Int)=(((x &&& y):BitVec 64).toNat:Int):=by
  rintro _ _ rfl rfl;exact EH _
 exact (congrArg p (key _ _ (y8 x) (y8 y))).mpr h⟩
theorem nOr(h:p ((x ||| y).toNat:Int)):∃ n,n=IntKind.u64.wrap ((BitVec.ofInt IntKind.u64.bits (x.toNat:Int) ||| BitVec.ofInt IntKind.u64.bits (y.toNat:Int)).toNat:Int)/\p n:=⟨_,rfl,by
 have key:∀ (a b:BitVec 64),a=x->b=y->IntKind.u64.wrap ((a ||| b).toNat:Int)=(((x ||| y):BitVec 64).toNat:Int):=by
  rintro _ _ rfl rfl;exact EH _
 exact (congrArg p (key _ _ (y8 x) (y8 y))).mpr h⟩
theorem Gn(h:p ((x ^^^ y).toNat:Int)):∃ n,n=IntKind.u64.wrap ((BitVec.ofInt IntKind.u64.bits (x.toNat:Int) ^^^ BitVec.ofInt IntKind.u64.bits (y.toNat:Int)).toNat:Int)/\p n:=⟨_,rfl,by
 have key:∀ (a b:BitVec 64),a=x->b=y->IntKind.u64.wrap ((a ^^^ b).toNat:Int)=(((x ^^^ y):BitVec 64).toNat:Int):=by
  rintro _ _ rfl rfl;exact EH _
 exact (congrArg p (key _ _ (y8 x) (y8 y))).mpr h⟩
theorem abU(h:p ((x &&& 1#64).toNat:Int)):∃ n,n=IntKind.u64.wrap ((BitVec.ofInt IntKind.u64.bits (x.toNat:Int) &&& BitVec.ofInt IntKind.u64.bits 1).toNat:Int)/\p n:=by
 have:((1#64:BitVec 64).toNat:Int)=1:=rfl;have h2:=CB (p:=p) (x:=x) (y:=1#64) h;rwa [this] at h2
theorem xC{r:Int}{k:Nat}(hr:r=(k:Int)/\k<64)(h:p ((x >>> k).toNat:Int)):∃ n,n=(x.toNat:Int).fdiv (2 ^ (min r.toNat IntKind.u64.bits))/\p n:=by
 refine⟨_,rfl,?_⟩;obtain⟨rfl,hk⟩:=hr;have e1:min ((k:Int).toNat) IntKind.u64.bits=k:=by
  show min k 64=k;omega
 rw[e1];have e2:((x.toNat:Int).fdiv (2 ^ k))=((x >>> k).toNat:Int):=by
  rw[BitVec.toNat_ushiftRight,Nat.shiftRight_eq_div_pow,Int.fdiv_eq_ediv_of_nonneg _ (Int.pow_nonneg oA)];push_cast;rfl
 rw[e2];exact h
theorem abV{r:Int}{k:Nat}(hr:r=(k:Int)/\k<64)(h:p ((1#64 <<< k).toNat:Int)):∃ n,n=IntKind.u64.wrap (1*2 ^ (min r.toNat IntKind.u64.bits))/\p n:=by
 refine⟨_,rfl,?_⟩;obtain⟨rfl,hk⟩:=hr;have e1:min ((k:Int).toNat) IntKind.u64.bits=k:=by
  show min k 64=k;omega
 rw[e1];have hlt:2 ^ k<2 ^ 64:=Nat.pow_lt_pow_right oA hk;have e2:(1*2 ^ k:Int)=((1#64 <<< k).toNat:Int):=by
  rw[BitVec.toNat_shiftLeft,Nat.shiftLeft_eq];simp only[BitVec.toNat_ofNat];rw[show (1 % 2 ^ 64*2 ^ k) % 2 ^ 64=2 ^ k by rw[Nat.mod_eq_of_lt (a:=1) dC,Nat.one_mul,Nat.mod_eq_of_lt hlt]];push_cast;omega
 rw[e2,EH];exact h
end
theorem wG{p:Int->Prop}{x:BitVec 64}{c:Int}(hc:c=1)(h:p ((x &&& 1#64).toNat:Int)):∃ n,n=IntKind.u64.wrap ((BitVec.ofInt IntKind.u64.bits (x.toNat:Int) &&& BitVec.ofInt IntKind.u64.bits c).toNat:Int)/\p n:=by
 subst hc;exact abU h
theorem wH{p:Int->Prop}{r c:Int}{k:Nat}(hc:c=1)(hr:r=(k:Int)/\k<64)(h:p ((1#64 <<< k).toNat:Int)):∃ n,n=IntKind.u64.wrap (c*2 ^ (min r.toNat IntKind.u64.bits))/\p n:=by
 subst hc;exact abV hr h
theorem abj(x:BitVec 64)(k:Nat):(((x >>> k) &&& 1#64).toNat:Int)=1 ↔ x.getLsbD k=true:=by
 have h1:((x >>> k) &&& 1#64).toNat=(x.getLsbD k).toNat:=by
  rw[BitVec.toNat_and,BitVec.toNat_ushiftRight];simp only[BitVec.toNat_ofNat];rw[show 1 % 2 ^ 64=1 from rfl,Nat.and_one_is_mod,BitVec.getLsbD,Nat.testBit];simp;have:=Nat.mod_two_eq_zero_or_one (x.toNat >>> k);rcases this with h|h<;>simp[h]
 rw[h1];cases x.getLsbD k<;>simp
theorem Bz{i q r:Nat}(h:i=64*q+r)(hr:r<64)(hi:i<1000):(q:Int)=IntKind.i64.wrap ((i:Int).tdiv 64):=by
 subst h;have e:((64*q+r:Nat):Int).tdiv 64=(q:Int):=by
  rw[Int.tdiv_eq_ediv_of_nonneg oA];omega
 rw[e,IntKind.wrap_i64];omega
theorem BA{i q r:Nat}(h:i=64*q+r)(hr:r<64):(r:Int)=((i:Int).tmod 64):=by
 subst h;rw[Int.tmod_eq_emod_of_nonneg oA];omega
theorem Rt{x:BitVec 64}:((x.toNat:Int) ≠ 0) ↔ ∃ i,i<64/\x.getLsbD i=true:=by
 constructor
 . intro h
   apply Classical.byContradiction;intro hn;apply h;have:x=0#64:=BitVec.eq_of_getLsbD_eq fun i hi=>by
    cases hx:x.getLsbD i
    . simp
    . exact absurd ⟨i,hi,hx⟩ hn
   rw[this];rfl
 . rintro⟨i,hi,h⟩ h0
   have:x=0#64:=BitVec.eq_of_toNat_eq (by simpa using h0);rw[this] at h;simp at h
def dig(b:UInt8):Bool:=b == 48 || b == 49
def car(t:Str)(i:Nat):Bool:=match t[i]? with|some b=>dig b|none=>false
def one(t:Str)(i:Nat):Bool:=match t[i]? with|some b=>b == 49|none=>false
@[reducible] def cells9(n:Nat)(c o:Nat->Bool):List D:=[.i .i64 (n:Int),.i .u64 ((wof c 0).toNat:Int),.i .u64 ((wof c 1).toNat:Int),.i .u64 ((wof c 2).toNat:Int),.i .u64 ((wof c 3).toNat:Int),.i .u64 ((wof o 0).toNat:Int),.i .u64 ((wof o 1).toNat:Int),.i .u64 ((wof o 2).toNat:Int),.i .u64 ((wof o 3).toNat:Int)]
@[reducible] def cZ(t:Str):List D:=cells9 t.length (car t) (one t)
structure CT(t:Str):Prop where
 len:t.length<=256
 cub:∀ b ∈ t,b=48\/b=49\/b=120
theorem D6:cZ []=[.i .i64 0,.i .u64 0,.i .u64 0,.i .u64 0,.i .u64 0,.i .u64 0,.i .u64 0,.i .u64 0,.i .u64 0]:=by
 have h:∀ k,wof (car []) k=0#64:=fun k=>BitVec.eq_of_getLsbD_eq fun i hi=>by rw[iH _ _ _ hi];simp[car]
 have h2:∀ k,wof (one []) k=0#64:=fun k=>BitVec.eq_of_getLsbD_eq fun i hi=>by rw[iH _ _ _ hi];simp[one]
 simp[h,h2]
theorem S9{t:Str}{i:Nat}(h:car t i=true):i<t.length:=by
 unfold car at h;split at h
 . rename_i b hb;exact (aK.1 hb).1
 . cases h
theorem jg{f g:Nat->Bool}{i q r:Nat}(hi:i=64*q+r)(hr:r<64)(hg:∀ j,g j=(f j || decide (j=i)))(k:Nat):wof g k=if k=q then wof f k ||| 1#64 <<< r else wof f k:=by
 refine BitVec.eq_of_getLsbD_eq fun j hj=>?_
 rw[iH _ _ _ hj,hg];split
 . rename_i hk
   subst hk;rw[BitVec.getLsbD_or,iH _ _ _ hj,BitVec.getLsbD_shiftLeft,BitVec.getLsbD_one];congr 1;by_cases hjr:j=r
   . subst hjr;simp[hi,hj]
   . have h1:¬ 64*k+j=i:=oA
     have h2:¬ (j - r=0/\¬ j<r):=oA;simp[h1,hj];omega
 . rename_i hk
   rw[iH _ _ _ hj];have h1:¬ 64*k+j=i:=oA;simp[h1]
theorem jy{t:Str}{i:Nat}{b:UInt8}(h:t[i]? = some b)(j:Nat):(t.take (i+1))[j]? = if j=i then some b else (t.take i)[j]?:=by
 rw[List.getElem?_take,List.getElem?_take];by_cases hj:j=i
 . subst hj;simp[h]
 . by_cases h2:j<i
   . simp[hj,h2,show j<i+1 by omega]
   . simp[hj,h2,show ¬ j<i+1 by omega]
theorem NT(t:Str)(i:Nat):car (t.take i) i=false:=by
 unfold car;rw[List.getElem?_take];simp
theorem NU(t:Str)(i:Nat):one (t.take i) i=false:=by
 unfold one;rw[List.getElem?_take];simp
theorem uf{t:Str}{i:Nat}{b:UInt8}(h:t[i]? = some b)(hd:dig b=true)(j:Nat):car (t.take (i+1)) j=(car (t.take i) j || decide (j=i)):=by
 by_cases hj:j=i
 . subst hj
   rw[NT];unfold car;rw[jy h];simp[hd]
 . unfold car
   rw[jy h];simp[hj]
theorem EI{t:Str}{i:Nat}(h:t[i]? = some 49)(j:Nat):one (t.take (i+1)) j=(one (t.take i) j || decide (j=i)):=by
 by_cases hj:j=i
 . subst hj
   rw[NU];unfold one;rw[jy h];simp
 . unfold one
   rw[jy h];simp[hj]
theorem D7{t:Str}{i:Nat}{b:UInt8}(h:t[i]? = some b)(hd:dig b=false)(k:Nat):wof (car (t.take (i+1))) k=wof (car (t.take i)) k:=by
 refine EG fun j _=>?_
 generalize 64*k+j=m;by_cases hj:m=i
 . subst hj
   rw[NT];unfold car;rw[jy h];simp[hd]
 . unfold car
   rw[jy h];simp[hj]
theorem tC{t:Str}{i:Nat}{b:UInt8}(h:t[i]? = some b)(hd:b ≠ 49)(k:Nat):wof (one (t.take (i+1))) k=wof (one (t.take i)) k:=by
 refine EG fun j _=>?_
 generalize 64*k+j=m;by_cases hj:m=i
 . subst hj
   rw[NU];unfold one;rw[jy h];simp[hd]
 . unfold one
   rw[jy h];simp[hj]
theorem EJ{f:Nat->Bool}{i q r:Nat}(hi:i=64*q+r)(hr:r<64):((((wof f q) >>> r) &&& 1#64).toNat:Int)=1 ↔ f i=true:=by
 rw[abj,iH _ _ _ hr,hi]
theorem yH(i:Nat)(h:i<256):∃ q r,i=64*q+r/\r<64/\(q=0\/q=1\/q=2\/q=3):=⟨i / 64,i % 64,oA,oA,oA⟩
end Go.Proofs.YtnlingegeangmaaGreatDoor
namespace Go.Vx
open Go.RowKit
section
variable {P : Program} {T : Tab} {s : St} {Q : Exit → St → Prop}
theorem Ik{fn:Func}{ds:List D}{V:Vw}{w:World}{args:Array Value}{df:List Deferred}(hn:ds.length<=fn.ntmps)(hV:VOk V w)(hl:args.size=ds.length)
    (hR:∀ (j:Nat) v d,args[j]? = some v->ds[j]? = some d->RI (ah T) V v d) :
    Sim (ah T) w ⟨V,fun _=>undef,df,[],[]⟩ V [] [] ⟨fO 0 ds,[],[],fn.ntmps⟩ { tmps:=args++Array.replicate (fn.ntmps - args.size) undef,defers:=df } w:=by
 refine⟨by simp;omega,.start,fun t=>?_,(Mem.start hV).fr rfl⟩;show RS _ _ _ _ (fB _ fn.ntmps _ t) (look (fO 0 ds) t);rw[yg,if_pos (Nat.zero_le _),Nat.sub_zero];unfold fB;split
 case isFalse hge=>
  rw[List.getD,List.getElem?_eq_none oA];exact .imm _ _ (.u _)
 show RS _ _ _ _ ((args++Array.replicate (fn.ntmps - args.size) undef).getD t undef) _;by_cases ht:t<ds.length
 . have hta:t<args.size:=oA
   have hd:=aC ht;have ha:=Array.getElem?_eq_getElem hta;have:=hR t _ _ ha hd;have e1:(args++Array.replicate (fn.ntmps - args.size) undef).getD t undef=args[t]:=by
    simp[Array.getD,hta];omega
   rw[e1];simp only[List.getD,hd,Option.getD_some];exact .imm _ _ this
 . rw[List.getD,List.getElem?_eq_none oA]
   exact .imm _ _ (.u _)
end
end Go.Vx
namespace Go.Vx
open Go.RowKit
section
variable {P : Program} {T : Tab} {s : St} {Q : Exit → St → Prop}
theorem Na(hT:TOk P T){fn:Func}{R:D->Rows->Prop}{s':St}{w:World}{V0:Fr}{V V':Vw}{μ':List Nat}{ω':List Value}{a':Act}{w':World}(hV0:V0.V=V)(hS':Sim (ah T) w V0 V' μ' ω' s' a' w')(hr:qo T fn R s') :
    ∃ v,(results fn a'.tmps).run P w' = .ok v w'/\∃ V' ω row v' d,Ending.returned v = .returned v'/\R d row/\RS (ah T) V' [] ω v' d/\Res (ah T) V V' ω row w w':=by
 subst hV0;obtain⟨vs,ds',hk,hv,hrun⟩:=sW hT hS' _ _ hr;refine⟨if h:vs.toArray.size=1 then vs.toArray[0] else .tuple vs.toArray,?_,?_⟩
 . rw[yc,Array.mapM_eq_mapM_toList]
   simp only[Sem.run_bind,Sem.run_map,hrun,Result.andThen_ok,Sem.run_pure]
 . rcases hk with hk|hk|hk
   . obtain⟨V1,ds1,s1,hk,hv1,hS1,_⟩:=lW 8 hS' hv hk
     obtain⟨es,hk,hes,hri⟩:=oW _ _ _ _ hv1 hk;refine⟨V1,[],[],_,_,rfl,hk,pz ⟨by rw[hv1.1,hes],fun j v d h1 h2=>.imm _ _ (hri j v d h1 h2)⟩,?_⟩;exact Res.wB hS1.mem (Pick.start _ _)
   . obtain⟨oO,acc,es,ω0,f0,hk,hp,_,hes⟩:=zH _ _ _ _ _ _ _ _ (Pick.start _ _) hv hk
     exact⟨V',ω0,acc,_,_,rfl,hk,pz hes,Res.wB hS'.mem hp⟩
   . obtain⟨ω1,row0,ds1,hk,_,hM1,hv1⟩:=CY _ _ _ _ _ _ hS'.mem hv hk
     obtain⟨oO,acc,es,ω0,f0,hk,hp,_,hes⟩:=zH _ _ _ _ _ _ _ _ (Pick.start _ _) hv1 hk;exact⟨V',ω0,acc,_,_,rfl,hk,pz hes,Res.wB hM1 hp⟩
end
end Go.Vx
namespace Go.Vx
open Go.RowKit Go.Proofs Go.Sort
theorem WA{w:World}{base g m N cap k q:Nat}{e:TypeId}{vals:List Value}{α:Type}[Inhabited α]{enc:α->List Value}{d:Array α}{os:Array Obj}(hown:w.ownsRow base e k (.slice (some ⟨g,0,none⟩) N cap) N vals)(hm:m<=N)(hd:d.size=m) :
    w.grownBy (grow (putRowK enc k (Sort.ahead w q) g 0 d) os) (some g)/\(grow (putRowK enc k (Sort.ahead w q) g 0 d) os).ownsRow base e k (.slice (some ⟨g,0,none⟩) N cap) N ((flatK enc k d).toList++vals.drop (m*k)):=by
 obtain⟨hl,hown⟩:=hown;rcases hown with⟨h,_⟩|⟨g',cap',cur,h,hb,hg,hn,hc,hs,ht⟩
 . cases h
 cases h;have hgl:g<w.heap.size:=(Array.getElem?_eq_some_iff.1 hg).1;have hfl:(flatK enc k d).size=m*k:=by rw[size_flatK,hd]
 have hmk:m*k<=N*k:=Nat.mul_le_mul_right _ hm;have hNk:N*k<=cap*k:=Nat.mul_le_mul_right _ hn;have hheap:(grow (putRowK enc k (Sort.ahead w q) g 0 d) os).heap[g]? = some (.cells (putCells id 0 (flatK enc k d) cur) e (0,0)):=by
  show ((w.heap.modify g (onCells _))++os)[g]? = _;rw[Array.getElem?_append_left (by simpa using hgl),Array.getElem?_modify,if_pos rfl,hg];rfl
 refine⟨⟨rfl,rfl,rfl,?_,fun j hj hne=>?_⟩,?_,.inr ⟨g,cap,_,rfl,hb,hheap,hn,hc,?_,?_⟩⟩
 . show w.heap.size<=((w.heap.modify g (onCells _))++os).size
   simp
 . show ((w.heap.modify g (onCells _))++os)[j]? = _
   rw[Array.getElem?_append_left (by simpa using hj),Array.getElem?_modify,if_neg (fun e=>hne (by rw[e]))]
 . rw[List.length_append,Array.length_toList,hfl,List.length_drop,hl];omega
 . simp[putCells,hs]
 . apply List.ext_getElem?
   intro j;rw[List.getElem?_take];by_cases hj:j<N*k
   . rw[if_pos hj]
     have hjc:j<cur.size:=by rw[hs];omega
     simp only[putCells,Array.getElem?_toList,Array.getElem?_mapIdx,Array.getElem?_eq_getElem hjc,Option.map_some,Nat.zero_le,true_and,Nat.zero_add,Nat.sub_zero,hfl];by_cases hjm:j<m*k
     . rw[if_pos hjm,List.getElem?_append_left (by rw[Array.length_toList,hfl];exact hjm),Array.getElem?_toList]
       have hjf:j<(flatK enc k d).size:=by rw[hfl];exact hjm
       rw[Array.getElem?_eq_getElem hjf];exact congrArg some (getElem!_pos (flatK enc k d) j hjf)
     . rw[if_neg hjm,List.getElem?_append_right (by rw[Array.length_toList,hfl];omega),Array.length_toList,hfl,List.getElem?_drop,show m*k+(j - m*k)=j by omega,<- ht,List.getElem?_take_of_lt hj,Array.getElem?_toList,Array.getElem?_eq_getElem hjc]
   . rw[if_neg hj,List.getElem?_eq_none]
     rw[List.length_append,Array.length_toList,hfl,List.length_drop,hl];omega
theorem IV{a:Act}{t:Nat}{v:Value}(h:t<a.tmps.size):(a.put (some t) v).eval (.tmp t)=v:=by
 simp[Act.put,Act.eval,Array.getD,h]
theorem Il{a:Act}{t t':Nat}{v:Value}(h:t ≠ t'):(a.put (some t) v).eval (.tmp t')=a.eval (.tmp t'):=by
 show (a.tmps.setIfInBounds t v).getD t' undef=a.tmps.getD t' undef;rw[Array.getD_eq_getD_getElem?,Array.getD_eq_getD_getElem?,Array.getElem?_setIfInBounds_ne h]
theorem yD{a:Act}{t:Nat}{v:Value}:(a.put (some t) v).tmps.size=a.tmps.size:=by simp[Act.put]
end Go.Vx
namespace Go.Proofs.YtnlingegeangmaaGreatDoor
open Go Go.Vx
def okC(t:Str):Prop:=CT t/\t ≠ []
open Classical in
noncomputable def zer(t:Str):Str:=if okC t then t else []
open Classical in
noncomputable def xE(t:Str):Int:=if 256<t.length then 2 else if okC t then 0 else 10
theorem Tc{t:Str}(h:okC t):zer t=t:=by unfold zer;rw[if_pos h]
theorem Jr{t:Str}(h:¬ okC t):zer t=[]:=by unfold zer;rw[if_neg h]
@[simp] theorem ac0(k:Nat):wof (car []) k=0#64:=BitVec.eq_of_getLsbD_eq fun i hi=>by rw[iH _ _ _ hi];simp[car]
@[simp] theorem ac1(k:Nat):wof (one []) k=0#64:=BitVec.eq_of_getLsbD_eq fun i hi=>by rw[iH _ _ _ hi];simp[one]
def mM(t:Str):Prop:=∀ b ∈ t,b=48\/b=49\/b=120
theorem H6{t:Str}{i:Nat}{b:UInt8}(h:mM (t.take i))(hb:t[i]? = some b)(hd:b=48\/b=49\/b=120):mM (t.take (i+1)):=by
 intro x hx;rw[List.take_add_one,hb] at hx;rcases bQ.1 hx with hx|hx
 . exact h x hx
 . simp at hx;rw[hx];exact hd
theorem J5{b c:UInt8}(h:b ≠ c):¬ ((b.toNat:Nat):Int)=((c.toNat:Nat):Int):=fun e=>h (UInt8.toNat_inj.1 oA)
theorem YI(t:Str):aF Tryz.prog T 266 [.s t] (fun d rows=>d = .tup [.agg (cZ (zer t)),.i .i64 (xE t)]/\rows=[]):=by
 refine aF.aB tok Tryz.func266 rfl Tryz.call266 sI ?_;(try (conv=>whnf));repeat' (first|refine Ok.seq ?_|((first|refine Ok.region tok ?_|refine Ok.cond ?_);conv=>whnf)|refine Ok.block ?_|((first|refine Ok.skip ?_|refine Ok.ret ?_);conv=>whnf)|(refine bI ?_ ?_<;>intro<;>first|omega|conv=>whnf)|fail)
 . rename_i h
   refine Or.inl ?_;(conv=>whnf);refine⟨?_,rfl⟩;rw[Jr (fun h2=>by have:=h2.1.len;omega),D6];unfold xE;rw[if_pos oA];rfl
 . rename_i h0 h
   refine Or.inl ?_;(conv=>whnf);refine⟨?_,rfl⟩;rw[Jr (fun h2=>h2.2 h),D6];unfold xE;rw[if_neg oA,if_neg (fun h2=>h2.2 h)];rfl
 . rename_i h0 h1
   have hlen:t.length<=256:=oA;have hne:t ≠ []:=h1;refine Ok.aT [0,2,4,17] [18] 0 2 (fun (i:Nat)=>[.i .i64 (i:Nat)]) (fun (i:Nat) (_:List (List D))=>[[.i .i64 0,.i .u64 0,.i .u64 0,.i .u64 0,.i .u64 0,.i .u64 0,.i .u64 0,.i .u64 0,.i .u64 0],cells9 t.length (car (t.take i)) (one (t.take i))]) (fun _ r=>r) (fun (i:Nat)=>i<=t.length/\mM (t.take i)) (fun (i:Nat)=>t.length - i) (0) (⟨Nat.zero_le _,by simp[mM]⟩) ?_;(conv=>whnf);refine⟨by ((conv=>whnf);first|rfl|(simp[ak,au,cells9];done)|(simp[ak,au,cells9];rw[IntKind.wrap_i64];omega)),?_⟩;rintro i ⟨hi,hok⟩;(conv=>whnf);by_cases hit:i<t.length
   . obtain⟨b,hb⟩:∃ b,t[i]? = some b:=⟨_,aC hit⟩
     have hbI:t[((i:Nat):Int).toNat]? = some b:=hb;obtain⟨q,r,hqr,hr,hq⟩:=yH i oA;have jq:=BA hqr hr;have jr:=Bz hqr hr oA;have hrr:((r:Nat):Int)=((r:Nat):Int)/\r<64:=⟨rfl,hr⟩;by_cases h49:b=49
     . subst h49
       have hn:(((49:UInt8).toNat:Nat):Int)=49:=rfl;rcases hq with rfl|rfl|rfl|rfl
       all_goals
        (try (conv=>whnf));repeat' (first|refine Ok.seq ?_|((first|refine Ok.region tok ?_|refine Ok.cond ?_);conv=>whnf)|refine Ok.block ?_|((first|refine Ok.skip ?_|refine⟨_,aS,?_⟩);conv=>whnf)|(refine bI ?_ ?_<;>intro<;>first|omega|conv=>whnf)|(refine aJ ?_;conv=>whnf)|fail)
        refine Or.inr (Or.inr (Or.inl ?_));(conv=>whnf);refine⟨_,_,Tryz.func280,rfl,Tryz.call280,?_⟩;(conv=>whnf);(try (conv=>whnf));repeat' (first|((first|(with_reducible_and_instances (first|refine wH rfl aS ?_|refine nOr ?_))|refine Ok.region tok ?_|refine Ok.aW (id:=0) tok follows [(5,12,[])] [.q 0,.q 1,.q 2,.q 3,.q 4,.q 5,.q 6,.q 7,.q 8,.q 9,.q 10,.q 11,.l 12] kR ?_|refine⟨_,(jr.symm).symm,?_⟩|refine⟨_,(jq.symm).symm,?_⟩|refine aJ ?_|refine⟨_,rfl,?_⟩);conv=>whnf)|fail)
        refine Or.inr (Or.inr (Or.inl ?_));(conv=>whnf);refine⟨_,_,Tryz.func280,rfl,Tryz.call280,?_⟩;(conv=>whnf);(try (conv=>whnf));repeat' (first|((first|(with_reducible_and_instances (first|refine wH rfl aS ?_|refine nOr ?_))|refine Ok.region tok ?_|refine Ok.aW (id:=0) tok follows [(5,12,[])] [.q 0,.q 1,.q 2,.q 3,.q 4,.q 5,.q 6,.q 7,.q 8,.q 9,.q 10,.q 11,.l 12] kR ?_|refine⟨_,(jr.symm).symm,?_⟩|refine⟨_,(jq.symm).symm,?_⟩|refine nI ?_|refine aJ ?_|refine⟨_,rfl,?_⟩);conv=>whnf)|fail)
        refine⟨i+1,oA,⟨oA,H6 hok hb sI⟩,?_⟩;have c0:=(jg (f:=car (t.take i)) (g:=car (t.take (i+1))) hqr hr (uf hb rfl) 0).trans iP;have c1:=(jg (f:=car (t.take i)) (g:=car (t.take (i+1))) hqr hr (uf hb rfl) 1).trans iP;have c2:=(jg (f:=car (t.take i)) (g:=car (t.take (i+1))) hqr hr (uf hb rfl) 2).trans iP;have c3:=(jg (f:=car (t.take i)) (g:=car (t.take (i+1))) hqr hr (uf hb rfl) 3).trans iP;have o0:=(jg (f:=one (t.take i)) (g:=one (t.take (i+1))) hqr hr (EI hb) 0).trans iP;have o1:=(jg (f:=one (t.take i)) (g:=one (t.take (i+1))) hqr hr (EI hb) 1).trans iP;have o2:=(jg (f:=one (t.take i)) (g:=one (t.take (i+1))) hqr hr (EI hb) 2).trans iP;have o3:=(jg (f:=one (t.take i)) (g:=one (t.take (i+1))) hqr hr (EI hb) 3).trans iP;(conv=>whnf);simp only[ak,cells9,c0,c1,c2,c3,o0,o1,o2,o3];rfl
     by_cases h48:b=48
     . subst h48
       have hn:(((48:UInt8).toNat:Nat):Int)=48:=rfl;rcases hq with rfl|rfl|rfl|rfl
       all_goals
        (try (conv=>whnf));repeat' (first|refine Ok.seq ?_|((first|refine Ok.region tok ?_|refine Ok.cond ?_);conv=>whnf)|refine Ok.block ?_|((first|refine Ok.skip ?_|refine⟨_,aS,?_⟩);conv=>whnf)|(refine bI ?_ ?_<;>intro<;>first|omega|conv=>whnf)|(refine aJ ?_;conv=>whnf)|fail)
        refine Or.inr (Or.inr (Or.inl ?_));(conv=>whnf);refine⟨_,_,Tryz.func280,rfl,Tryz.call280,?_⟩;(conv=>whnf);(try (conv=>whnf));repeat' (first|((first|(with_reducible_and_instances (first|refine wH rfl aS ?_|refine nOr ?_))|refine Ok.region tok ?_|refine Ok.aW (id:=0) tok follows [(5,12,[])] [.q 0,.q 1,.q 2,.q 3,.q 4,.q 5,.q 6,.q 7,.q 8,.q 9,.q 10,.q 11,.l 12] kR ?_|refine⟨_,(jr.symm).symm,?_⟩|refine⟨_,(jq.symm).symm,?_⟩|refine nI ?_|refine aJ ?_|refine⟨_,rfl,?_⟩);conv=>whnf)|fail)
        refine⟨i+1,oA,⟨oA,H6 hok hb sI⟩,?_⟩;have c0:=(jg (f:=car (t.take i)) (g:=car (t.take (i+1))) hqr hr (uf hb rfl) 0).trans iP;have c1:=(jg (f:=car (t.take i)) (g:=car (t.take (i+1))) hqr hr (uf hb rfl) 1).trans iP;have c2:=(jg (f:=car (t.take i)) (g:=car (t.take (i+1))) hqr hr (uf hb rfl) 2).trans iP;have c3:=(jg (f:=car (t.take i)) (g:=car (t.take (i+1))) hqr hr (uf hb rfl) 3).trans iP;have o0:=tC hb dC 0;have o1:=tC hb dC 1;have o2:=tC hb dC 2;have o3:=tC hb dC 3;(conv=>whnf);simp only[ak,cells9,c0,c1,c2,c3,o0,o1,o2,o3];rfl
     have acu:=J5 h49;have acv:=J5 h48;have e49:(((49:UInt8).toNat:Nat):Int)=49:=rfl;have e48:(((48:UInt8).toNat:Nat):Int)=48:=rfl;rw[e49] at acu;rw[e48] at acv;by_cases Lm:b=120
     . subst Lm
       have hn:(((120:UInt8).toNat:Nat):Int)=120:=rfl;(try (conv=>whnf));repeat' (first|refine Ok.seq ?_|((first|refine Ok.region tok ?_|refine Ok.cond ?_);conv=>whnf)|refine Ok.block ?_|((first|refine Ok.skip ?_|refine nI ?_|refine⟨_,aS,?_⟩);conv=>whnf)|(refine bI ?_ ?_<;>intro<;>first|omega|conv=>whnf)|(refine aJ ?_;conv=>whnf)|fail)
       refine⟨i+1,oA,⟨oA,H6 hok hb sI⟩,?_⟩;have c0:=D7 hb rfl 0;have c1:=D7 hb rfl 1;have c2:=D7 hb rfl 2;have c3:=D7 hb rfl 3;have o0:=tC hb dC 0;have o1:=tC hb dC 1;have o2:=tC hb dC 2;have o3:=tC hb dC 3;(conv=>whnf);simp only[ak,cells9,c0,c1,c2,c3,o0,o1,o2,o3];rfl
     . have abW:=J5 Lm
       have e120:(((120:UInt8).toNat:Nat):Int)=120:=rfl;rw[e120] at abW;(try (conv=>whnf));repeat' (first|refine Ok.seq ?_|((first|refine Ok.region tok ?_|refine Ok.cond ?_);conv=>whnf)|refine Ok.block ?_|((first|refine Ok.skip ?_|refine Ok.ret ?_|refine⟨_,aS,?_⟩);conv=>whnf)|(refine bI ?_ ?_<;>intro<;>first|omega|conv=>whnf)|((first|refine aJ ?_|refine jh ?_);conv=>whnf)|fail)
       refine Or.inl ?_;(conv=>whnf);refine⟨?_,rfl⟩;have hno:¬ okC t:=fun h2=>by
        rcases h2.1.cub b (aU hb) with e|e|e
        . exact h48 e
        . exact h49 e
        . exact Lm e
       rw[Jr hno,D6];unfold xE;rw[if_neg oA,if_neg hno];rfl
   . have he:i=t.length:=oA
     subst he;rw[List.take_length] at *;(try (conv=>whnf));repeat' (first|refine Ok.seq ?_|((first|refine Ok.region tok ?_|refine Ok.cond ?_|refine Ok.exit ?_|refine Ok.ret ?_);conv=>whnf)|(refine bI ?_ ?_<;>intro<;>first|omega|conv=>whnf)|fail)
     refine Or.inl ?_;(conv=>whnf);refine⟨?_,rfl⟩;have hyes:okC t:=⟨⟨hlen,hok⟩,hne⟩;rw[Tc hyes];unfold xE;rw[if_neg oA,if_pos hyes];rfl
end Go.Proofs.YtnlingegeangmaaGreatDoor
namespace Go.Proofs.YtnlingegeangmaaGreatDoor
open Go Go.Vx
theorem Io:∀ {c d m:Str},jO c d=some m->∀ (i:Nat) a b,c[i]? = some a->d[i]? = some b->∃ x,m[i]? = some x/\nN a b=some x
 | [],[],_,_,i,a,b,ha,_=>by simp at ha
 | [],_ :: _,_,h,_,_,_,_,_=>by cases h
 | _ :: _,[],_,h,_,_,_,_,_=>by cases h
 | a0 :: c,b0 :: d,m,h,i,a,b,ha,hb=>by
  unfold jO at h
  cases h1:nN a0 b0 with
  | none=>rw[h1] at h;cases h
  | some x=>cases h2:jO c d with
   | none=>rw[h1,h2] at h;cases h
   | some r=>
    rw[h1,h2] at h;cases h
    cases i with
    | zero=>simp at ha hb;subst ha hb;exact⟨x,rfl,h1⟩
    | succ i=>exact Io h2 i a b (by simpa using ha) (by simpa using hb)
theorem Qa:∀ {c d:Str},c.length=d.length->(∀ (i:Nat) a b,c[i]? = some a->d[i]? = some b->nN a b ≠ none)->∃ m,jO c d=some m
 | [],[],_,_=>⟨[],rfl⟩
 | [],_ :: _,h,_=>by simp at h
 | _ :: _,[],h,_=>by simp at h
 | a :: c,b :: d,h,hh=>by
  obtain⟨m,hm⟩:=Qa (c:=c) (d:=d) (by simpa using h) fun i a b ha hb=>hh (i+1) a b (by simpa using ha) (by simpa using hb)
  have:=hh 0 a b rfl rfl
  cases h1:nN a b with
  | none=>exact absurd h1 this
  | some x=>exact⟨x :: m,by unfold jO;rw[h1,hm]⟩
theorem Qb:∀ {c d m:Str},jO c d=some m->(∀ b ∈ c,b=48\/b=49\/b=120)->(∀ b ∈ d,b=48\/b=49\/b=120)->∀ b ∈ m,b=48\/b=49\/b=120
 | [],[],m,h,_,_=>by cases h;simp
 | [],_ :: _,_,h,_,_=>by cases h
 | _ :: _,[],_,h,_,_=>by cases h
 | a0 :: c,b0 :: d,m,h,hc,hd=>by
  unfold jO at h
  cases h1:nN a0 b0 with
  | none=>rw[h1] at h;cases h
  | some x=>cases h2:jO c d with
   | none=>rw[h1,h2] at h;cases h
   | some r=>
    rw[h1,h2] at h;cases h;intro b hb;rcases List.mem_cons.1 hb with rfl|hb
    . unfold nN at h1
      split at h1
      . cases h1;exact hd _ sI
      . split at h1
        . cases h1;exact hc _ sI
        . cases h1
    . exact Qb h2 (fun b hb=>hc b (by simp[hb])) (fun b hb=>hd b (by simp[hb])) b hb
theorem YJ{c d m:Str}(h:jP c d=some m)(hc:CT c)(hd:CT d):CT m/\m.length=c.length/\c ≠ []:=by
 unfold jP at h;split at h
 . cases h
 . rename_i hne
   have hl:=yB h;exact⟨⟨by rw[<- hl.1];exact hc.len,Qb h hc.cub hd.cub⟩,hl.1.symm,hne⟩
theorem IW{c d:Str}(h:c ≠ []):jP c d=jO c d:=by unfold jP;rw[if_neg h]
def cfl(c d:Str)(i:Nat):Bool:=(xor (one c i) (one d i) && car c i) && car d i
theorem tH(c d:Str)(k:Nat):(((wof (one c) k ^^^ wof (one d) k) &&& wof (car c) k) &&& wof (car d) k)=wof (cfl c d) k:=by
 refine BitVec.eq_of_getLsbD_eq fun i hi=>?_
 rw[BitVec.getLsbD_and,BitVec.getLsbD_and,BitVec.getLsbD_xor,iH _ _ _ hi,iH _ _ _ hi,iH _ _ _ hi,iH _ _ _ hi,iH _ _ _ hi];rfl
theorem gQ{t:Str}{i:Nat}{b:UInt8}(h:t[i]? = some b):car t i=dig b/\one t i=(b == 49):=by
 unfold car one;rw[h];exact⟨rfl,rfl⟩
theorem at_out{t:Str}{i:Nat}(h:t.length<=i):car t i=false/\one t i=false:=by
 unfold car one;rw[List.getElem?_eq_none h];exact⟨rfl,rfl⟩
theorem OQ{a b:UInt8}(ha:a=48\/a=49\/a=120)(hb:b=48\/b=49\/b=120):nN a b=none ↔ ((xor (a == 49) (b == 49) && dig a) && dig b)=true:=by
 rcases ha with rfl|rfl|rfl<;>rcases hb with rfl|rfl|rfl<;>simp[nN,dig]
theorem WB{a b x:UInt8}(ha:a=48\/a=49\/a=120)(hb:b=48\/b=49\/b=120)(h:nN a b=some x):dig x=(dig a || dig b)/\(x == 49)=((a == 49) || (b == 49)):=by
 rcases ha with rfl|rfl|rfl<;>rcases hb with rfl|rfl|rfl<;>simp[nN] at h<;>subst h<;>simp[dig]
theorem D8{c d:Str}(hc:CT c)(hd:CT d){i:Nat}(h:cfl c d i=true):jP c d=none:=by
 unfold jP;split
 . rfl
 . cases hm:jO c d with
   | none=>rfl
   | some m=>
    exfalso;unfold cfl at h;simp only[Bool.and_eq_true] at h;have h1:=S9 h.1.2;have h2:=S9 h.2;have e1:=aC h1;have e2:=aC h2;obtain⟨x,_,hx⟩:=Io hm i _ _ e1 e2;have:=(OQ (hc.cub _ (List.getElem_mem h1)) (hd.cub _ (List.getElem_mem h2))).2 (by
     rw[(gQ e1).2,(gQ e2).2,(gQ e1).1,(gQ e2).1] at h;simp[h.1.1,h.1.2,h.2])
    rw[this] at hx;cases hx
theorem YK{c d:Str}(hc:CT c)(hd:CT d)(hl:c.length=d.length)(hne:c ≠ [])(h:∀ i,cfl c d i=false):∃ m,jP c d=some m/\(∀ i,car m i=(car c i || car d i))/\∀ i,one m i=(one c i || one d i):=by
 obtain⟨m,hm⟩:=Qa hl fun i a b ha hb hn=>by
  have h1:=(OQ (hc.cub _ (aU ha)) (hd.cub _ (aU hb))).1 hn;have h2:=h i;unfold cfl at h2;rw[(gQ ha).2,(gQ hb).2,(gQ ha).1,(gQ hb).1,h1] at h2;cases h2
 have key:∀ i,car m i=(car c i || car d i)/\one m i=(one c i || one d i):=fun i=>by
  have hlm:=yB hm;by_cases hi:i<c.length
  . have e1:=aC hi
    have e2:=aC (show i<d.length by omega);obtain⟨x,hx,hxx⟩:=Io hm i _ _ e1 e2;have:=WB (hc.cub _ (List.getElem_mem hi)) (hd.cub _ (List.getElem_mem (show i<d.length by omega))) hxx;rw[(gQ e1).1,(gQ e2).1,(gQ e1).2,(gQ e2).2,(gQ hx).1,(gQ hx).2];exact this
  . have h1:=at_out (t:=c) (i:=i) oA
    have h2:=at_out (t:=d) (i:=i) oA;have h3:=at_out (t:=m) (i:=i) oA;rw[h1.1,h1.2,h2.1,h2.2,h3.1,h3.2];exact⟨rfl,rfl⟩
 exact⟨m,by rw[IW hne,hm],fun i=>(key i).1,fun i=>(key i).2⟩
theorem Td{f g h:Nat->Bool}(e:∀ i,h i=(f i || g i))(k:Nat):wof h k=wof f k ||| wof g k:=by
 refine BitVec.eq_of_getLsbD_eq fun i hi=>?_
 rw[BitVec.getLsbD_or,iH _ _ _ hi,iH _ _ _ hi,iH _ _ _ hi,e]
theorem YL{f:Nat->Bool}{k:Nat}(h:((wof f k).toNat:Int)=0)(i:Nat)(hi:i<64):f (64*k+i)=false:=by
 rw[<- iH f k i hi];cases hb:(wof f k).getLsbD i
 . rfl
 . exact absurd h (Rt.2 ⟨i,hi,hb⟩)
theorem Fg{f:Nat->Bool}{k:Nat}(h:¬ ((wof f k).toNat:Int)=0):∃ i,f i=true:=by
 obtain⟨i,hi,hb⟩:=Rt.1 h;exact⟨_,by rw[iH _ _ _ hi] at hb;exact hb⟩
theorem abk{c d:Str}(hc:CT c)(h:∀ k,k<4->((wof (cfl c d) k).toNat:Int)=0)(i:Nat):cfl c d i=false:=by
 by_cases hi:i<256
 . obtain⟨q,r,rfl,hr,hq⟩:=yH i hi
   exact YL (h q oA) r hr
 . unfold cfl
   have:=(at_out (t:=c) (i:=i) (by have:=hc.len;omega)).1;rw[this];simp
def mw(w:Nat)(f g:Nat->Bool)(k:Nat):BitVec 64:=if k<w then wof f k ||| wof g k else wof f k
@[reducible] def yN(n w:Nat)(c d:Str):List D:=[.i .i64 (n:Int),.i .u64 ((mw w (car c) (car d) 0).toNat:Int),.i .u64 ((mw w (car c) (car d) 1).toNat:Int),.i .u64 ((mw w (car c) (car d) 2).toNat:Int),.i .u64 ((mw w (car c) (car d) 3).toNat:Int),.i .u64 ((mw w (one c) (one d) 0).toNat:Int),.i .u64 ((mw w (one c) (one d) 1).toNat:Int),.i .u64 ((mw w (one c) (one d) 2).toNat:Int),.i .u64 ((mw w (one c) (one d) 3).toNat:Int)]
theorem WC{c d m:Str}(hl:m.length=c.length)(h1:∀ i,car m i=(car c i || car d i))(h2:∀ i,one m i=(one c i || one d i)):yN c.length 4 c d=cZ m:=by
 simp only[yN,cZ,cells9,mw,Td h1,Td h2,hl];rfl
end Go.Proofs.YtnlingegeangmaaGreatDoor
namespace Go.Proofs.YtnlingegeangmaaGreatDoor
open Go Go.Vx
theorem aac(c d:Str):aF Tryz.prog T 287 [.agg (cZ c),.agg (cZ d)] (fun r _=>r = .b (c.length=d.length/\0<c.length)):=by
 refine aF.aB tok Tryz.func287 rfl Tryz.call287 sI ?_;(try (conv=>whnf));repeat' (first|refine Ok.seq ?_|((first|refine Ok.region tok ?_|refine Ok.ret ?_);conv=>whnf)|(refine bI ?_ ?_<;>intro<;>first|omega|conv=>whnf)|fail)
 all_goals
  refine Or.inl ?_;(conv=>whnf);simp[iE];omega
theorem Ar{c d:Str}(h:jP c d=none):(D.tup [.agg [.i .i64 0,.i .u64 0,.i .u64 0,.i .u64 0,.i .u64 0,.i .u64 0,.i .u64 0,.i .u64 0,.i .u64 0],.b False]) = .tup [.agg (cZ ((jP c d).getD [])),.b ((jP c d).isSome=true)]:=by
 rw[h];simp[D6]
theorem aad(c d:Str)(hc:CT c)(hd:CT d):aF Tryz.prog T 281 [.agg (cZ c),.agg (cZ d)] (fun r rows=>r = .tup [.agg (cZ ((jP c d).getD [])),.b ((jP c d).isSome=true)]/\rows=[]):=by
 refine aF.aB tok Tryz.func281 rfl Tryz.call281 sI ?_;(try (conv=>whnf));repeat' (first|refine Ok.seq ?_|((first|refine Ok.region tok ?_|refine Ok.cond ?_);conv=>whnf)|refine Ok.block ?_|((first|refine Ok.skip ?_|refine Ok.ret ?_);conv=>whnf)|(refine Or.inl ?_;(conv=>whnf);(repeat (refine aI ?_;conv=>whnf));refine⟨_,aac c d,rfl,?_⟩;conv=>whnf)|(refine bI ?_ ?_<;>intro<;>first|omega|conv=>whnf)|fail)
 . rename_i h
   refine Or.inl ?_;(conv=>whnf);refine⟨Ar ?_,rfl⟩;unfold jP;split
   . rfl
   . rename_i hne
     cases hm:jO c d with
     | none=>rfl
     | some m=>exact absurd ⟨by have:=yB hm;omega,List.length_pos_iff.2 hne⟩ h
 . rename_i h
   have hfit:c.length=d.length/\0<c.length:=Classical.not_not.1 h;have hne:c ≠ []:=List.length_pos_iff.1 hfit.2;refine Ok.aT [2,3,4] [12] 0 3 (fun (w:Nat)=>[.i .i64 (w:Nat)]) (fun (w:Nat) (_:List (List D))=>[yN c.length w c d,cZ d,[.i .i64 0,.i .u64 0,.i .u64 0,.i .u64 0,.i .u64 0,.i .u64 0,.i .u64 0,.i .u64 0,.i .u64 0]]) (fun _ r=>r) (fun (w:Nat)=>w<=4/\∀ k,k<w->((wof (cfl c d) k).toNat:Int)=0) (fun (w:Nat)=>4 - w) (0) (⟨oA,fun k hk=>absurd hk oA⟩) ?_;(conv=>whnf);refine⟨by ((conv=>whnf);first|rfl|(simp[ak,au,cells9,yN];done)|(simp[ak,au,cells9,yN];rw[IntKind.wrap_i64];omega)),?_⟩;rintro w ⟨hw,hz⟩;(conv=>whnf);by_cases hw4:w=4
   . subst hw4
     obtain⟨m,hm,m1,m2⟩:=YK hc hd hfit.1 hne (abk hc hz);have hml:=(YJ hm hc hd).2.1;(try (conv=>whnf));repeat' (first|refine Ok.seq ?_|((first|refine Ok.region tok ?_|refine Ok.cond ?_|refine Ok.exit ?_|refine Ok.ret ?_);conv=>whnf)|(refine bI ?_ ?_<;>intro<;>first|omega|conv=>whnf)|fail)
     refine Or.inl ?_;(conv=>whnf);refine⟨?_,rfl⟩;have hme:=WC hml m1 m2;rw[hm];show D.tup [.agg (yN c.length 4 c d),.b True]=_;rw[hme];simp
   . rcases (by omega:w=0\/w=1\/w=2\/w=3) with rfl|rfl|rfl|rfl
     . (try (conv=>whnf));repeat' (first|((with_reducible_and_instances (first|refine CB ?_|refine nOr ?_|refine Gn ?_));conv=>whnf)|refine Ok.seq ?_|((first|refine Ok.region tok ?_|refine Ok.aW (id:=8) tok follows [(3,11,[]),(7,11,[])] [.q 0,.q 1,.q 2,.q 3,.q 4,.q 5,.q 6,.q 7,.q 8,.q 9,.q 10,.l 11] kR ?_|refine Ok.aW (id:=9) tok follows [(3,11,[]),(7,11,[])] [.q 0,.q 1,.q 2,.q 3,.q 4,.q 5,.q 6,.q 7,.q 8,.q 9,.q 10,.l 11] kR ?_|refine Ok.bH tok follows kR ?_|refine Ok.cond ?_);conv=>whnf)|refine Ok.block ?_|((first|refine Ok.skip ?_|refine Ok.ret ?_|refine nI ?_);conv=>whnf)|(refine bI ?_ ?_<;>intro<;>first|omega|conv=>whnf)|((first|refine aJ ?_|refine⟨_,rfl,?_⟩);conv=>whnf)|fail)
       . rename_i hx
         refine Or.inl ?_;(conv=>whnf);have hx2:¬ ((wof (cfl c d) 0).toNat:Int)=0:=by
          rw[<- tH];exact hx
         obtain⟨i,hi⟩:=Fg hx2;exact⟨Ar (D8 hc hd hi),rfl⟩
       . rename_i hx
         have hx2:((wof (cfl c d) 0).toNat:Int)=0:=by
          rw[<- tH];exact Classical.not_not.1 hx
         refine⟨1,oA,⟨oA,fun k hk=>?_⟩,?_⟩
         . by_cases hk2:k=0
           . rw[hk2];exact hx2
           . exact hz k oA
         . (conv=>whnf)
           rfl
     . (try (conv=>whnf));repeat' (first|((with_reducible_and_instances (first|refine CB ?_|refine nOr ?_|refine Gn ?_));conv=>whnf)|refine Ok.seq ?_|((first|refine Ok.region tok ?_|refine Ok.aW (id:=8) tok follows [(3,11,[]),(7,11,[])] [.q 0,.q 1,.q 2,.q 3,.q 4,.q 5,.q 6,.q 7,.q 8,.q 9,.q 10,.l 11] kR ?_|refine Ok.aW (id:=9) tok follows [(3,11,[]),(7,11,[])] [.q 0,.q 1,.q 2,.q 3,.q 4,.q 5,.q 6,.q 7,.q 8,.q 9,.q 10,.l 11] kR ?_|refine Ok.bH tok follows kR ?_|refine Ok.cond ?_);conv=>whnf)|refine Ok.block ?_|((first|refine Ok.skip ?_|refine Ok.ret ?_|refine nI ?_);conv=>whnf)|(refine bI ?_ ?_<;>intro<;>first|omega|conv=>whnf)|((first|refine aJ ?_|refine⟨_,rfl,?_⟩);conv=>whnf)|fail)
       . rename_i hx
         refine Or.inl ?_;(conv=>whnf);have hx2:¬ ((wof (cfl c d) 1).toNat:Int)=0:=by
          rw[<- tH];exact hx
         obtain⟨i,hi⟩:=Fg hx2;exact⟨Ar (D8 hc hd hi),rfl⟩
       . rename_i hx
         have hx2:((wof (cfl c d) 1).toNat:Int)=0:=by
          rw[<- tH];exact Classical.not_not.1 hx
         refine⟨2,oA,⟨oA,fun k hk=>?_⟩,?_⟩
         . by_cases hk2:k=1
           . rw[hk2];exact hx2
           . exact hz k oA
         . (conv=>whnf)
           rfl
     . (try (conv=>whnf));repeat' (first|((with_reducible_and_instances (first|refine CB ?_|refine nOr ?_|refine Gn ?_));conv=>whnf)|refine Ok.seq ?_|((first|refine Ok.region tok ?_|refine Ok.aW (id:=8) tok follows [(3,11,[]),(7,11,[])] [.q 0,.q 1,.q 2,.q 3,.q 4,.q 5,.q 6,.q 7,.q 8,.q 9,.q 10,.l 11] kR ?_|refine Ok.aW (id:=9) tok follows [(3,11,[]),(7,11,[])] [.q 0,.q 1,.q 2,.q 3,.q 4,.q 5,.q 6,.q 7,.q 8,.q 9,.q 10,.l 11] kR ?_|refine Ok.bH tok follows kR ?_|refine Ok.cond ?_);conv=>whnf)|refine Ok.block ?_|((first|refine Ok.skip ?_|refine Ok.ret ?_|refine nI ?_);conv=>whnf)|(refine bI ?_ ?_<;>intro<;>first|omega|conv=>whnf)|((first|refine aJ ?_|refine⟨_,rfl,?_⟩);conv=>whnf)|fail)
       . rename_i hx
         refine Or.inl ?_;(conv=>whnf);have hx2:¬ ((wof (cfl c d) 2).toNat:Int)=0:=by
          rw[<- tH];exact hx
         obtain⟨i,hi⟩:=Fg hx2;exact⟨Ar (D8 hc hd hi),rfl⟩
       . rename_i hx
         have hx2:((wof (cfl c d) 2).toNat:Int)=0:=by
          rw[<- tH];exact Classical.not_not.1 hx
         refine⟨3,oA,⟨oA,fun k hk=>?_⟩,?_⟩
         . by_cases hk2:k=2
           . rw[hk2];exact hx2
           . exact hz k oA
         . (conv=>whnf)
           rfl
     . (try (conv=>whnf));repeat' (first|((with_reducible_and_instances (first|refine CB ?_|refine nOr ?_|refine Gn ?_));conv=>whnf)|refine Ok.seq ?_|((first|refine Ok.region tok ?_|refine Ok.aW (id:=8) tok follows [(3,11,[]),(7,11,[])] [.q 0,.q 1,.q 2,.q 3,.q 4,.q 5,.q 6,.q 7,.q 8,.q 9,.q 10,.l 11] kR ?_|refine Ok.aW (id:=9) tok follows [(3,11,[]),(7,11,[])] [.q 0,.q 1,.q 2,.q 3,.q 4,.q 5,.q 6,.q 7,.q 8,.q 9,.q 10,.l 11] kR ?_|refine Ok.bH tok follows kR ?_|refine Ok.cond ?_);conv=>whnf)|refine Ok.block ?_|((first|refine Ok.skip ?_|refine Ok.ret ?_|refine nI ?_);conv=>whnf)|(refine bI ?_ ?_<;>intro<;>first|omega|conv=>whnf)|((first|refine aJ ?_|refine⟨_,rfl,?_⟩);conv=>whnf)|fail)
       . rename_i hx
         refine Or.inl ?_;(conv=>whnf);have hx2:¬ ((wof (cfl c d) 3).toNat:Int)=0:=by
          rw[<- tH];exact hx
         obtain⟨i,hi⟩:=Fg hx2;exact⟨Ar (D8 hc hd hi),rfl⟩
       . rename_i hx
         have hx2:((wof (cfl c d) 3).toNat:Int)=0:=by
          rw[<- tH];exact Classical.not_not.1 hx
         refine⟨4,oA,⟨oA,fun k hk=>?_⟩,?_⟩
         . by_cases hk2:k=3
           . rw[hk2];exact hx2
           . exact hz k oA
         . (conv=>whnf)
           rfl
end Go.Proofs.YtnlingegeangmaaGreatDoor
namespace Go.Proofs.YtnlingegeangmaaGreatDoor
open Go Go.Vx
theorem aae{t:Str}{i:Nat}(hi:i<t.length):(t.take i++List.replicate (t.length - i) (0:UInt8))[i]? = some 0:=by
 rw[List.getElem?_append_right sO];simp[List.getElem?_replicate];omega
theorem YM{t:Str}{i:Nat}{b:UInt8}(h:t[i]? = some b):(t.take i++List.replicate (t.length - i) (0:UInt8)).set i b=t.take (i+1)++List.replicate (t.length - (i+1)) 0:=by
 have hi:i<t.length:=(aK.1 h).1;rw[List.set_append,if_neg sO];rw[show t.length - i=(t.length - (i+1))+1 by omega,List.replicate_succ];rw[show i - (t.take i).length=0 by simp;omega];rw[List.set_cons_zero,List.take_add_one,h];simp
theorem aaf(t:Str)(ht:CT t):aF Tryz.prog T 269 [.agg (cZ t)] (fun r _=>r = .s t):=by
 have hlen:=ht.len;refine aF.aB tok Tryz.func269 rfl Tryz.call269 sI ?_;(try (conv=>whnf));repeat' (first|refine Ok.seq ?_|(refine Ok.region tok ?_;conv=>whnf)|refine Ok.block ?_|((first|refine⟨_,_,rfl,rfl,?_⟩|refine aJ ?_|refine⟨_,rfl,?_⟩);conv=>whnf)|fail)
 refine Ok.aT [1,3,9] [10] 1 1 (fun (i:Nat)=>[.i .i64 (i:Nat)]) (fun (i:Nat) (_:List (List D))=>[cZ t]) (fun (i:Nat) (_:Vx.Rows)=>[some (5,(t.take i++List.replicate (t.length - i) 0).map bT)]) (fun (i:Nat)=>i<=t.length) (fun (i:Nat)=>t.length - i) (0) (Nat.zero_le _) ?_;(conv=>whnf);refine⟨by ((conv=>whnf);first|rfl|(simp[ak,au,cells9,bT];done)|(simp[ak,au,cells9,bT];rw[IntKind.wrap_i64];omega)),?_⟩;rintro i hi;have hll:(t.take i++List.replicate (t.length - i) (0:UInt8)).length=t.length:=by simp;omega
 have hlm:((t.take i++List.replicate (t.length - i) (0:UInt8)).map bT).length=t.length:=by rw[bV,hll]
 (conv=>whnf);by_cases hit:i<t.length
 . obtain⟨b,hb⟩:∃ b,t[i]? = some b:=⟨_,aC hit⟩
   obtain⟨q,r,hqr,hr,hq⟩:=yH i oA;have jq:=BA hqr hr;have jr:=Bz hqr hr oA;have hrr:((r:Nat):Int)=((r:Nat):Int)/\r<64:=⟨rfl,hr⟩;have hca:=EJ (f:=car t) hqr hr;have hoa:=EJ (f:=one t) hqr hr;rw[(gQ hb).1] at hca;rw[(gQ hb).2] at hoa;have hfa:=aae hit;have hfs:=YM hb;rcases ht.cub b (aU hb) with rfl|rfl|rfl
   . have hc:=hca.2 rfl
     have ho:¬ _:=fun e=>absurd (hoa.1 e) dC
     clear hca hoa;rcases hq with rfl|rfl|rfl|rfl
     all_goals
      (try (conv=>whnf));repeat' (first|refine Ok.seq ?_|((first|refine Ok.region tok ?_|refine Ok.cond ?_);conv=>whnf)|refine Ok.block ?_|(refine Ok.skip ?_;conv=>whnf)|(refine bI ?_ ?_<;>intro<;>first|omega|conv=>whnf)|fail)
      refine Or.inr (Or.inr (Or.inl ?_));(conv=>whnf);refine⟨_,_,Tryz.func282,rfl,Tryz.call282,?_⟩;(conv=>whnf);(try (conv=>whnf));repeat' (first|((with_reducible_and_instances (first|refine xC aS ?_|refine wG rfl ?_));conv=>whnf)|refine Ok.seq ?_|((first|refine Ok.region tok ?_|refine⟨_,(jr.symm).symm,?_⟩|refine⟨_,(jq.symm).symm,?_⟩|refine Ok.cond ?_|refine Ok.ret ?_);conv=>whnf)|(refine bI ?_ ?_<;>intro<;>first|omega|conv=>whnf)|((first|refine aJ ?_|refine⟨_,rfl,?_⟩);conv=>whnf)|fail)
      refine Or.inr (Or.inr (Or.inl ?_));(conv=>whnf);refine⟨_,_,Tryz.func282,rfl,Tryz.call282,?_⟩;(conv=>whnf);(try (conv=>whnf));repeat' (first|((with_reducible_and_instances (first|refine xC aS ?_|refine wG rfl ?_));conv=>whnf)|refine Ok.seq ?_|((first|refine Ok.region tok ?_|refine⟨_,(jr.symm).symm,?_⟩|refine⟨_,(jq.symm).symm,?_⟩|refine Ok.cond ?_|refine Ok.ret ?_);conv=>whnf)|(refine bI ?_ ?_<;>intro<;>first|omega|conv=>whnf)|((first|refine aJ ?_|refine⟨_,rfl,?_⟩);conv=>whnf)|fail)
      refine st 48 hfa (by simp[bT]) (by simp[setCells,bT]) ?_;(try (conv=>whnf));repeat' (first|((first|refine Ok.region tok ?_|refine nI ?_);conv=>whnf)|fail)
      refine⟨i+1,oA,oA,?_⟩;(conv=>whnf);simp only[toNat_cast,hfs,ak];rfl
   . have hc:=hca.2 rfl
     have ho:=hoa.2 rfl;clear hca hoa;rcases hq with rfl|rfl|rfl|rfl
     all_goals
      (try (conv=>whnf));repeat' (first|refine Ok.seq ?_|((first|refine Ok.region tok ?_|refine Ok.cond ?_);conv=>whnf)|refine Ok.block ?_|(refine Ok.skip ?_;conv=>whnf)|(refine bI ?_ ?_<;>intro<;>first|omega|conv=>whnf)|fail)
      refine Or.inr (Or.inr (Or.inl ?_));(conv=>whnf);refine⟨_,_,Tryz.func282,rfl,Tryz.call282,?_⟩;(conv=>whnf);(try (conv=>whnf));repeat' (first|((with_reducible_and_instances (first|refine xC aS ?_|refine wG rfl ?_));conv=>whnf)|refine Ok.seq ?_|((first|refine Ok.region tok ?_|refine⟨_,(jr.symm).symm,?_⟩|refine⟨_,(jq.symm).symm,?_⟩|refine Ok.cond ?_|refine Ok.ret ?_);conv=>whnf)|(refine bI ?_ ?_<;>intro<;>first|omega|conv=>whnf)|((first|refine aJ ?_|refine⟨_,rfl,?_⟩);conv=>whnf)|fail)
      refine Or.inr (Or.inr (Or.inl ?_));(conv=>whnf);refine⟨_,_,Tryz.func282,rfl,Tryz.call282,?_⟩;(conv=>whnf);(try (conv=>whnf));repeat' (first|((with_reducible_and_instances (first|refine xC aS ?_|refine wG rfl ?_));conv=>whnf)|refine Ok.seq ?_|((first|refine Ok.region tok ?_|refine⟨_,(jr.symm).symm,?_⟩|refine⟨_,(jq.symm).symm,?_⟩|refine Ok.cond ?_|refine Ok.ret ?_);conv=>whnf)|(refine bI ?_ ?_<;>intro<;>first|omega|conv=>whnf)|((first|refine aJ ?_|refine⟨_,rfl,?_⟩);conv=>whnf)|fail)
      refine st 49 hfa (by simp[bT]) (by simp[setCells,bT]) ?_;(try (conv=>whnf));repeat' (first|((first|refine Ok.region tok ?_|refine nI ?_);conv=>whnf)|fail)
      refine⟨i+1,oA,oA,?_⟩;(conv=>whnf);simp only[toNat_cast,hfs,ak];rfl
   . have hc:¬ _:=fun e=>absurd (hca.1 e) dC
     clear hca hoa;rcases hq with rfl|rfl|rfl|rfl
     all_goals
      (try (conv=>whnf));repeat' (first|refine Ok.seq ?_|((first|refine Ok.region tok ?_|refine Ok.cond ?_);conv=>whnf)|refine Ok.block ?_|(refine Ok.skip ?_;conv=>whnf)|(refine bI ?_ ?_<;>intro<;>first|omega|conv=>whnf)|fail)
      refine Or.inr (Or.inr (Or.inl ?_));(conv=>whnf);refine⟨_,_,Tryz.func282,rfl,Tryz.call282,?_⟩;(conv=>whnf);(try (conv=>whnf));repeat' (first|((with_reducible_and_instances (first|refine xC aS ?_|refine wG rfl ?_));conv=>whnf)|refine Ok.seq ?_|((first|refine Ok.region tok ?_|refine⟨_,(jr.symm).symm,?_⟩|refine⟨_,(jq.symm).symm,?_⟩|refine Ok.cond ?_|refine Ok.ret ?_);conv=>whnf)|(refine bI ?_ ?_<;>intro<;>first|omega|conv=>whnf)|((first|refine aJ ?_|refine⟨_,rfl,?_⟩);conv=>whnf)|fail)
      refine st 120 hfa (by simp[bT]) (by simp[setCells,bT]) ?_;(try (conv=>whnf));repeat' (first|((first|refine Ok.region tok ?_|refine nI ?_);conv=>whnf)|fail)
      refine⟨i+1,oA,oA,?_⟩;(conv=>whnf);simp only[toNat_cast,hfs,ak];rfl
 . have he:i=t.length:=oA
   subst he;rw[List.take_length,Nat.sub_self,List.replicate_zero,List.append_nil] at *;(try (conv=>whnf));repeat' (first|refine Ok.seq ?_|((first|refine Ok.region tok ?_|refine Ok.cond ?_|refine Ok.exit ?_);conv=>whnf)|(refine bI ?_ ?_<;>intro<;>first|omega|conv=>whnf)|(refine aJ ?_;conv=>whnf)|fail)
   refine⟨t,tu bT t,?_⟩;(try (conv=>whnf));repeat' (first|(refine Ok.ret ?_;conv=>whnf)|fail)
   refine Or.inl ?_;(conv=>whnf);rfl
end Go.Proofs.YtnlingegeangmaaGreatDoor
namespace Go.Proofs.YtnlingegeangmaaGreatDoor
open Go Go.Vx
section
variable {α : Type} {R : α → α → Prop}
open Classical in
/-- Those of the first j that are not below x. -/
noncomputable def leftOf(R:α->α->Prop)(k:List α)(x:α)(j:Nat):List α:=(k.take j).filter (fun y=>decide (¬ R y x))
end
end Go.Proofs.YtnlingegeangmaaGreatDoor
namespace Go.Proofs.YtnlingegeangmaaGreatDoor
open Go Go.Vx
def CN(c:Str):Prop:=CT c/\c ≠ []
end Go.Proofs.YtnlingegeangmaaGreatDoor
namespace Go.Proofs
open Go.Shelf
def Tryz.vxSort_ren:Go.Shelf.Ren:=⟨fun|6=>127|10=>154|11=>155|12=>156|13=>157|14=>158|24=>188|25=>189|26=>190|27=>191|28=>192|29=>193|30=>194|31=>195|32=>196|33=>197|34=>219|35=>220|36=>221|37=>222|38=>223|39=>244|n=>n,fun|20=>20|26=>217|35=>247|0=>0|37=>249|3=>3|41=>253|44=>256|49=>283|51=>285|4=>4|54=>288|53=>287|58=>201|5=>5|9=>9|60=>322|64=>326|66=>354|67=>218|17=>17|32=>244|33=>245|82=>415|12=>12|75=>409|76=>410|77=>411|78=>362|79=>412|80=>413|n=>n,fun|n=>n⟩
theorem Tryz.vxSort:Go.Proofs.LaysGg.n6 Tryz.prog Tryz.vxSort_ren:={
 mixed:=kR
 f6:=Tryz.func127.trans (congrArg some kR)
 f10:=Tryz.func154.trans (congrArg some kR)
 f11:=Tryz.func155.trans (congrArg some kR)
 f12:=Tryz.func156.trans (congrArg some kR)
 f13:=Tryz.func157.trans (congrArg some kR)
 f14:=Tryz.func158.trans (congrArg some kR)
 f24:=Tryz.func188.trans (congrArg some kR)
 f25:=Tryz.func189.trans (congrArg some kR)
 f26:=Tryz.func190.trans (congrArg some kR)
 f27:=Tryz.func191.trans (congrArg some kR)
 f28:=Tryz.func192.trans (congrArg some kR)
 f29:=Tryz.func193.trans (congrArg some kR)
 f30:=Tryz.func194.trans (congrArg some kR)
 f31:=Tryz.func195.trans (congrArg some kR)
 f32:=Tryz.func196.trans (congrArg some kR)
 f33:=Tryz.func197.trans (congrArg some kR)
 f34:=Tryz.func219.trans (congrArg some kR)
 f35:=Tryz.func220.trans (congrArg some kR)
 f36:=Tryz.func221.trans (congrArg some kR)
 f37:=Tryz.func222.trans (congrArg some kR)
 f38:=Tryz.func223.trans (congrArg some kR)
 f39:=Tryz.func244.trans (congrArg some kR)
 t0:=Tryz.underlying0
 a0:=Tryz.isAgg0
 z0:=Tryz.sizeOf0
 v0:=Tryz.zeroValue0
 i0:=kR
 t3:=Tryz.underlying3
 a3:=Tryz.isAgg3
 z3:=Tryz.sizeOf3
 v3:=Tryz.zeroValue3
 i3:=kR
 t4:=Tryz.underlying4
 a4:=Tryz.isAgg4
 z4:=Tryz.sizeOf4
 v4:=Tryz.zeroValue4
 i4:=kR
 t5:=Tryz.underlying5
 a5:=Tryz.isAgg5
 z5:=Tryz.sizeOf5
 v5:=Tryz.zeroValue5
 i5:=kR
 t9:=Tryz.underlying9
 a9:=Tryz.isAgg9
 z9:=Tryz.sizeOf9
 v9:=Tryz.zeroValue9
 i9:=kR
 t12:=Tryz.underlying12
 a12:=Tryz.isAgg12
 z12:=Tryz.sizeOf12
 v12:=Tryz.zeroValue12
 i12:=kR
 t17:=Tryz.underlying17
 a17:=Tryz.isAgg17
 z17:=Tryz.sizeOf17
 v17:=Tryz.zeroValue17
 i17:=kR
 t20:=Tryz.underlying20
 a20:=Tryz.isAgg20
 z20:=Tryz.sizeOf20
 v20:=Tryz.zeroValue20
 i20:=kR
 t26:=Tryz.underlying217
 a26:=Tryz.isAgg217
 z26:=Tryz.sizeOf217
 v26:=Tryz.zeroValue217
 i26:=kR
 t32:=Tryz.underlying244
 a32:=Tryz.isAgg244
 z32:=Tryz.sizeOf244
 v32:=Tryz.zeroValue244
 i32:=kR
 t33:=Tryz.underlying245
 a33:=Tryz.isAgg245
 z33:=Tryz.sizeOf245
 v33:=Tryz.zeroValue245
 i33:=kR
 t35:=Tryz.underlying247
 a35:=Tryz.isAgg247
 z35:=Tryz.sizeOf247
 v35:=Tryz.zeroValue247
 i35:=kR
 t37:=Tryz.underlying249
 a37:=Tryz.isAgg249
 z37:=Tryz.sizeOf249
 v37:=Tryz.zeroValue249
 i37:=kR
 t41:=Tryz.underlying253
 a41:=Tryz.isAgg253
 z41:=Tryz.sizeOf253
 v41:=Tryz.zeroValue253
 i41:=kR
 t44:=Tryz.underlying256
 a44:=Tryz.isAgg256
 z44:=Tryz.sizeOf256
 v44:=Tryz.zeroValue256
 i44:=kR
 t49:=Tryz.underlying283
 a49:=Tryz.isAgg283
 z49:=Tryz.sizeOf283
 v49:=Tryz.zeroValue283
 i49:=kR
 t51:=Tryz.underlying285
 a51:=Tryz.isAgg285
 z51:=Tryz.sizeOf285
 v51:=Tryz.zeroValue285
 i51:=kR
 t53:=Tryz.underlying287
 a53:=Tryz.isAgg287
 z53:=Tryz.sizeOf287
 v53:=Tryz.zeroValue287
 i53:=kR
 t54:=Tryz.underlying288
 a54:=Tryz.isAgg288
 z54:=Tryz.sizeOf288
 v54:=Tryz.zeroValue288
 i54:=kR
 t58:=Tryz.underlying201
 a58:=Tryz.isAgg201
 z58:=Tryz.sizeOf201
 v58:=Tryz.zeroValue201
 i58:=kR
 t60:=Tryz.underlying322
 a60:=Tryz.isAgg322
 z60:=Tryz.sizeOf322
 v60:=Tryz.zeroValue322
 i60:=kR
 t64:=Tryz.underlying326
 a64:=Tryz.isAgg326
 z64:=Tryz.sizeOf326
 v64:=Tryz.zeroValue326
 i64:=kR
 t66:=Tryz.underlying354
 a66:=Tryz.isAgg354
 z66:=Tryz.sizeOf354
 v66:=Tryz.zeroValue354
 i66:=kR
 t67:=Tryz.underlying218
 a67:=Tryz.isAgg218
 z67:=Tryz.sizeOf218
 v67:=Tryz.zeroValue218
 i67:=kR
 t75:=Tryz.underlying409
 a75:=Tryz.isAgg409
 z75:=Tryz.sizeOf409
 v75:=Tryz.zeroValue409
 i75:=kR
 t76:=Tryz.underlying410
 a76:=Tryz.isAgg410
 z76:=Tryz.sizeOf410
 v76:=Tryz.zeroValue410
 i76:=kR
 t77:=Tryz.underlying411
 a77:=Tryz.isAgg411
 z77:=Tryz.sizeOf411
 v77:=Tryz.zeroValue411
 i77:=kR
 t78:=Tryz.underlying362
 a78:=Tryz.isAgg362
 z78:=Tryz.sizeOf362
 v78:=Tryz.zeroValue362
 i78:=kR
 t79:=Tryz.underlying412
 a79:=Tryz.isAgg412
 z79:=Tryz.sizeOf412
 v79:=Tryz.zeroValue412
 i79:=kR
 t80:=Tryz.underlying413
 a80:=Tryz.isAgg413
 z80:=Tryz.sizeOf413
 v80:=Tryz.zeroValue413
 i80:=kR
 t82:=Tryz.underlying415
 a82:=Tryz.isAgg415
 z82:=Tryz.sizeOf415
 v82:=Tryz.zeroValue415
 i82:=by kernel_rfl }
end Go.Proofs
namespace Go.Proofs.YtnlingegeangmaaGreatDoor
open Go Go.Vx
theorem VG{α β:Type}{f:α->β}:∀ {ys m:List β},ys.Perm m->∀ l:List α,m=l.map f->∃ zs:List α,zs.Perm l/\ys=zs.map f:=by
 intro ys m h
 induction h with
 | nil=>intro l hl;exact⟨l,.refl l,hl⟩
 | cons x h ih=>
  intro l hl
  cases l with
  | nil=>cases hl
  | cons a l=>
   simp only[List.map_cons,List.cons.injEq] at hl;obtain⟨zs,h1,h2⟩:=ih l hl.2;exact⟨a :: zs,h1.cons a,by rw[List.map_cons,<- hl.1,h2]⟩
 | swap x y r=>
  intro l hl
  match l,hl with
  | a :: b :: l,hl=>
   simp only[List.map_cons,List.cons.injEq] at hl;refine⟨b :: a :: l,.swap a b l,?_⟩;rw[List.map_cons,List.map_cons,hl.1,hl.2.1,hl.2.2]
 | trans h1 h2 ih1 ih2=>
  intro l hl;obtain⟨z1,a1,a2⟩:=ih2 l hl;obtain⟨z2,b1,b2⟩:=ih1 z1 a2;exact⟨z2,b1.trans a1,b2⟩
theorem take_snoc{α:Type}{l:List α}{i:Nat}{x:α}(h:l[i]? = some x):l.take (i+1)=l.take i++[x]:=by
 rw[List.take_add_one,h];rfl
end Go.Proofs.YtnlingegeangmaaGreatDoor
namespace Go.Vx
open Go.RowKit
section
variable {P : Program} {T : Tab} {Q : Exit → St → Prop}
theorem Tf{sz:TypeId->Nat}{V:Vw}(e:TypeId):RI sz V (.slice none 0 0) (.lst e [] []):=
 RI.lst e [] [] none ⟨0,0,none⟩ 0 (fun _ _=>undef) sI (by unfold maxLen;omega) sI sI sI sI sI
end
end Go.Vx
namespace Go.Proofs.YtnlingegeangmaaGreatDoor
open Go Go.Vx
open Classical in
noncomputable def nb{α:Type}(R:α->α->Prop)(c:α)(l:List α):List α:=l.filter fun x=>decide (¬ R x c)
end Go.Proofs.YtnlingegeangmaaGreatDoor
namespace Go.Proofs.YtnlingegeangmaaGreatDoor
open Go Go.Vx
@[reducible] def aG(s:Str):List D:=[.s s]
end Go.Proofs.YtnlingegeangmaaGreatDoor
namespace Go.Proofs.YtnlingegeangmaaGreatDoor
open Go Go.Vx
structure SI where
 s:Str
 n:Int
def SI.row(x:SI):List D:=[.s x.s,.i .i64 x.n]
structure Node where
 kind:Int
 field:Str
 op:Int
 form:Int
 lo:Int
 hi:Int
 len:Int
 pat:Str
def Node.row(x:Node):List D:=[.i .i64 x.kind,.s x.field,.i .i64 x.op,.i .i64 x.form,.i .i64 x.lo,.i .i64 x.hi,.i .i64 x.len,.s x.pat]
structure Pfx where
 value:Int
 len:Int
 dst:Str
def Pfx.row(x:Pfx):List D:=[.i .i64 x.value,.i .i64 x.len,.s x.dst]
structure Link where
 frm:Str
 dst:Str
 cost:Int
def Link.row(x:Link):List D:=[.s x.frm,.s x.dst,.i .i64 x.cost]
end Go.Proofs.YtnlingegeangmaaGreatDoor
namespace Go.Proofs.YtnlingegeangmaaGreatDoor
open Go Go.Vx
structure Ls(α:Type) where
 l:List α
 room:List (List D)
structure Line where
 port:Str
 permit:Prop
 dY:Ls Node
def Line.row(x:Line):List D:=[.s x.port,.b x.permit,.lst 174 (x.dY.l.map Node.row) x.dY.room]
structure Rule where
 prio:Int
 frm:Ls Str
 dY:Ls Node
 sets:Ls SI
 dst:Ls Str
def Rule.row(x:Rule):List D:=[.i .i64 x.prio,.lst 9 (x.frm.l.map aG) x.frm.room,.lst 174 (x.dY.l.map Node.row) x.dY.room,.lst 234 (x.sets.l.map SI.row) x.sets.room,.lst 9 (x.dst.l.map aG) x.dst.room]
structure Box where
 name:Str
 ins:Ls Str
 outs:Ls Str
 guards:Ls Line
 rules:Ls Rule
 owns:Ls Pfx
 routes:Ls Pfx
def Box.row(x:Box):List D:=[.s x.name,.lst 9 (x.ins.l.map aG) x.ins.room,.lst 9 (x.outs.l.map aG) x.outs.room,.lst 84 (x.guards.l.map Line.row) x.guards.room,.lst 87 (x.rules.l.map Rule.row) x.rules.room,.lst 49 (x.owns.l.map Pfx.row) x.owns.room,.lst 49 (x.routes.l.map Pfx.row) x.routes.room]
structure Slc where
 name:Str
 eX:Ls Str
 whr:Ls Node
def Slc.row(x:Slc):List D:=[.s x.name,.lst 9 (x.eX.l.map aG) x.eX.room,.lst 174 (x.whr.l.map Node.row) x.whr.room]
structure Config where
 title:Str
 fields:Ls SI
 routing:Str
 gB:Prop
 boxes:Ls Box
 links:Ls Link
 slices:Ls Slc
def Config.row(x:Config):List D:=[.s x.title,.lst 93 (x.fields.l.map SI.row) x.fields.room,.s x.routing,.b x.gB,.lst 47 (x.boxes.l.map Box.row) x.boxes.room,.lst 41 (x.links.l.map Link.row) x.links.room,.lst 89 (x.slices.l.map Slc.row) x.slices.room]
structure qg where
 port:Str
 permit:Prop
 dY:List Node
def Line.b(x:Line):qg:=⟨x.port,x.permit,x.dY.l⟩
structure uG where
 prio:Int
 frm:List Str
 dY:List Node
 sets:List SI
 dst:List Str
def Rule.b(x:Rule):uG:=⟨x.prio,x.frm.l,x.dY.l,x.sets.l,x.dst.l⟩
structure bf where
 name:Str
 ins:List Str
 outs:List Str
 guards:List qg
 rules:List uG
 owns:List Pfx
 routes:List Pfx
def Box.b(x:Box):bf:=⟨x.name,x.ins.l,x.outs.l,x.guards.l.map Line.b,x.rules.l.map Rule.b,x.owns.l,x.routes.l⟩
structure qx where
 name:Str
 eX:List Str
 whr:List Node
def Slc.b(x:Slc):qx:=⟨x.name,x.eX.l,x.whr.l⟩
structure bC where
 title:Str
 fields:List SI
 routing:Str
 gB:Prop
 boxes:List bf
 links:List Link
 slices:List qx
def Config.b(x:Config):bC:=⟨x.title,x.fields.l,x.routing,x.gB,x.boxes.l.map Box.b,x.links.l,x.slices.l.map Slc.b⟩
end Go.Proofs.YtnlingegeangmaaGreatDoor
namespace Go.Proofs.YtnlingegeangmaaGreatDoor
open Go Go.Vx
structure Line.Ok(x:Line):Prop where
 dY:x.dY.l.length<=1048576
structure Rule.Ok(x:Rule):Prop where
 frm:x.frm.l.length<=1048576
 dY:x.dY.l.length<=1048576
 sets:x.sets.l.length<=1048576
 dst:x.dst.l.length<=1048576
structure Box.Ok(x:Box):Prop where
 ins:x.ins.l.length<=1048576
 outs:x.outs.l.length<=1048576
 guards:x.guards.l.length<=1048576
 rules:x.rules.l.length<=1048576
 owns:x.owns.l.length<=1048576
 routes:x.routes.l.length<=1048576
 line:∀ g ∈ x.guards.l,g.Ok
 rule:∀ r ∈ x.rules.l,r.Ok
end Go.Proofs.YtnlingegeangmaaGreatDoor
namespace Go.Proofs.YtnlingegeangmaaGreatDoor
open Go Go.Vx
structure Slc.Ok(x:Slc):Prop where
 eX:x.eX.l.length<=1048576
 whr:x.whr.l.length<=1048576
structure Config.Ok(c:Config):Prop where
 fields:c.fields.l.length<=1048576
 boxes:c.boxes.l.length<=1048576
 links:c.links.l.length<=1048576
 slices:c.slices.l.length<=1048576
 box:∀ b ∈ c.boxes.l,b.Ok
 slc:∀ s ∈ c.slices.l,s.Ok
end Go.Proofs.YtnlingegeangmaaGreatDoor
namespace Go.Proofs.YtnlingegeangmaaGreatDoor
open Go Go.Vx
def SOk(s:Str):Prop:=s.length<=1048576
def IOk(n:Int):Prop:=-9223372036854775808<=n/\n<=9223372036854775807
structure SI.Tx(a:SI):Prop where
 s:SOk a.s
 n:IOk a.n
structure Node.Tx(a:Node):Prop where
 kind:IOk a.kind
 field:SOk a.field
 op:IOk a.op
 form:IOk a.form
 lo:IOk a.lo
 hi:IOk a.hi
 len:IOk a.len
 pat:SOk a.pat
structure Pfx.Tx(a:Pfx):Prop where
 value:IOk a.value
 len:IOk a.len
 dst:SOk a.dst
structure Link.Tx(a:Link):Prop where
 frm:SOk a.frm
 dst:SOk a.dst
 cost:IOk a.cost
structure Line.Tx(a:Line):Prop where
 port:SOk a.port
 dY:∀ x ∈ a.dY.l,x.Tx
structure Rule.Tx(a:Rule):Prop where
 prio:IOk a.prio
 frm:∀ x ∈ a.frm.l,SOk x
 dY:∀ x ∈ a.dY.l,x.Tx
 sets:∀ x ∈ a.sets.l,x.Tx
 dst:∀ x ∈ a.dst.l,SOk x
structure Box.Tx(a:Box):Prop where
 name:SOk a.name
 ins:∀ x ∈ a.ins.l,SOk x
 outs:∀ x ∈ a.outs.l,SOk x
 guards:∀ x ∈ a.guards.l,x.Tx
 rules:∀ x ∈ a.rules.l,x.Tx
 owns:∀ x ∈ a.owns.l,x.Tx
 routes:∀ x ∈ a.routes.l,x.Tx
structure Slc.Tx(a:Slc):Prop where
 name:SOk a.name
 eX:∀ x ∈ a.eX.l,SOk x
 whr:∀ x ∈ a.whr.l,x.Tx
structure Config.Tx(a:Config):Prop where
 title:SOk a.title
 fields:∀ x ∈ a.fields.l,x.Tx
 routing:SOk a.routing
 boxes:∀ x ∈ a.boxes.l,x.Tx
 links:∀ x ∈ a.links.l,x.Tx
 slices:∀ x ∈ a.slices.l,x.Tx
theorem jE{B:Nat}{α:Type}{f:α->List D}{p:α->Prop}{e:TypeId}{l:List Shp}{x:D}(h:bZ B [.slice e l] [x])(hf:∀ {r},bZ B l r->∃ a,r=f a/\p a) :
    ∃ L:Ls α,x = .lst e (L.l.map f) L.room/\L.l.length<=B/\∀ a ∈ L.l,p a:=by
 obtain⟨us,room,rfl,hl,h1,_⟩:=SY h fun r hr=>hf hr
 exact⟨⟨us,room.map f⟩,rfl,by simp only;omega,h1⟩
theorem zN{r:List D}(h:bZ 1048576 [.str] r):∃ a:Str,r=aG a/\SOk a:=by
 obtain⟨x0,r,rfl,h0,h⟩:=dA h;obtain rfl:=oH h;obtain⟨v0,rfl,hv⟩:=ni h0;exact⟨v0,rfl,hv⟩
theorem TV{r:List D}(h:bZ 1048576 [.str,.int .i64] r):∃ a:SI,r=a.row/\a.Tx:=by
 obtain⟨x0,r,rfl,h0,h⟩:=dA h;obtain⟨x1,r,rfl,h1,h⟩:=dA h;obtain rfl:=oH h;obtain⟨v0,rfl,t0⟩:=ni h0;obtain⟨v1,rfl,w1⟩:=jB h1;exact⟨⟨v0,v1⟩,rfl,⟨t0,wf64 w1⟩⟩
theorem Js{r:List D}(h:bZ 1048576 [.int .i64,.str,.int .i64,.int .i64,.int .i64,.int .i64,.int .i64,.str] r):∃ a:Node,r=a.row/\a.Tx:=by
 obtain⟨x0,r,rfl,h0,h⟩:=dA h;obtain⟨x1,r,rfl,h1,h⟩:=dA h;obtain⟨x2,r,rfl,h2,h⟩:=dA h;obtain⟨x3,r,rfl,h3,h⟩:=dA h;obtain⟨x4,r,rfl,h4,h⟩:=dA h;obtain⟨x5,r,rfl,h5,h⟩:=dA h;obtain⟨x6,r,rfl,h6,h⟩:=dA h;obtain⟨x7,r,rfl,h7,h⟩:=dA h;obtain rfl:=oH h;obtain⟨v0,rfl,w0⟩:=jB h0;obtain⟨v1,rfl,t1⟩:=ni h1;obtain⟨v2,rfl,w2⟩:=jB h2;obtain⟨v3,rfl,w3⟩:=jB h3;obtain⟨v4,rfl,w4⟩:=jB h4;obtain⟨v5,rfl,w5⟩:=jB h5;obtain⟨v6,rfl,w6⟩:=jB h6;obtain⟨v7,rfl,t7⟩:=ni h7;exact⟨⟨v0,v1,v2,v3,v4,v5,v6,v7⟩,rfl,⟨wf64 w0,t1,wf64 w2,wf64 w3,wf64 w4,wf64 w5,wf64 w6,t7⟩⟩
theorem Tj{r:List D}(h:bZ 1048576 [.int .i64,.int .i64,.str] r):∃ a:Pfx,r=a.row/\a.Tx:=by
 obtain⟨x0,r,rfl,h0,h⟩:=dA h;obtain⟨x1,r,rfl,h1,h⟩:=dA h;obtain⟨x2,r,rfl,h2,h⟩:=dA h;obtain rfl:=oH h;obtain⟨v0,rfl,w0⟩:=jB h0;obtain⟨v1,rfl,w1⟩:=jB h1;obtain⟨v2,rfl,t2⟩:=ni h2;exact⟨⟨v0,v1,v2⟩,rfl,⟨wf64 w0,wf64 w1,t2⟩⟩
theorem aag{r:List D}(h:bZ 1048576 [.str,.str,.int .i64] r):∃ a:Link,r=a.row/\a.Tx:=by
 obtain⟨x0,r,rfl,h0,h⟩:=dA h;obtain⟨x1,r,rfl,h1,h⟩:=dA h;obtain⟨x2,r,rfl,h2,h⟩:=dA h;obtain rfl:=oH h;obtain⟨v0,rfl,t0⟩:=ni h0;obtain⟨v1,rfl,t1⟩:=ni h1;obtain⟨v2,rfl,w2⟩:=jB h2;exact⟨⟨v0,v1,v2⟩,rfl,⟨t0,t1,wf64 w2⟩⟩
theorem aah{r:List D}(h:bZ 1048576 [.str,.bool,.slice 174 [.int .i64,.str,.int .i64,.int .i64,.int .i64,.int .i64,.int .i64,.str]] r):∃ a:Line,r=a.row/\a.Ok/\a.Tx:=by
 obtain⟨x0,r,rfl,h0,h⟩:=dA h;obtain⟨x1,r,rfl,h1,h⟩:=dA h;obtain⟨x2,r,rfl,h2,h⟩:=dA h;obtain rfl:=oH h;obtain⟨v0,rfl,t0⟩:=ni h0;obtain⟨v1,rfl⟩:=Rq h1;obtain⟨v2,rfl,l2,q2⟩:=jE h2 Js;exact⟨⟨v0,v1,v2⟩,rfl,⟨l2⟩,⟨t0,q2⟩⟩
theorem aai{r:List D}(h:bZ 1048576 [.int .i64,.slice 9 [.str],.slice 174 [.int .i64,.str,.int .i64,.int .i64,.int .i64,.int .i64,.int .i64,.str],.slice 234 [.str,.int .i64],.slice 9 [.str]] r):∃ a:Rule,r=a.row/\a.Ok/\a.Tx:=by
 obtain⟨x0,r,rfl,h0,h⟩:=dA h;obtain⟨x1,r,rfl,h1,h⟩:=dA h;obtain⟨x2,r,rfl,h2,h⟩:=dA h;obtain⟨x3,r,rfl,h3,h⟩:=dA h;obtain⟨x4,r,rfl,h4,h⟩:=dA h;obtain rfl:=oH h;obtain⟨v0,rfl,w0⟩:=jB h0;obtain⟨v1,rfl,l1,q1⟩:=jE h1 zN;obtain⟨v2,rfl,l2,q2⟩:=jE h2 Js;obtain⟨v3,rfl,l3,q3⟩:=jE h3 TV;obtain⟨v4,rfl,l4,q4⟩:=jE h4 zN;exact⟨⟨v0,v1,v2,v3,v4⟩,rfl,⟨l1,l2,l3,l4⟩,⟨wf64 w0,q1,q2,q3,q4⟩⟩
theorem abl{r:List D}(h:bZ 1048576 [.str,.slice 9 [.str],.slice 9 [.str],.slice 84 [.str,.bool,.slice 174 [.int .i64,.str,.int .i64,.int .i64,.int .i64,.int .i64,.int .i64,.str]],.slice 87 [.int .i64,.slice 9 [.str],.slice 174 [.int .i64,.str,.int .i64,.int .i64,.int .i64,.int .i64,.int .i64,.str],.slice 234 [.str,.int .i64],.slice 9 [.str]],.slice 49 [.int .i64,.int .i64,.str],.slice 49 [.int .i64,.int .i64,.str]] r):∃ a:Box,r=a.row/\a.Ok/\a.Tx:=by
 obtain⟨x0,r,rfl,h0,h⟩:=dA h;obtain⟨x1,r,rfl,h1,h⟩:=dA h;obtain⟨x2,r,rfl,h2,h⟩:=dA h;obtain⟨x3,r,rfl,h3,h⟩:=dA h;obtain⟨x4,r,rfl,h4,h⟩:=dA h;obtain⟨x5,r,rfl,h5,h⟩:=dA h;obtain⟨x6,r,rfl,h6,h⟩:=dA h;obtain rfl:=oH h;obtain⟨v0,rfl,t0⟩:=ni h0;obtain⟨v1,rfl,l1,q1⟩:=jE h1 zN;obtain⟨v2,rfl,l2,q2⟩:=jE h2 zN;obtain⟨v3,rfl,l3,q3⟩:=jE h3 aah;obtain⟨v4,rfl,l4,q4⟩:=jE h4 aai;obtain⟨v5,rfl,l5,q5⟩:=jE h5 Tj;obtain⟨v6,rfl,l6,q6⟩:=jE h6 Tj;exact⟨⟨v0,v1,v2,v3,v4,v5,v6⟩,rfl,⟨l1,l2,l3,l4,l5,l6,fun x hx=>(q3 x hx).1,fun x hx=>(q4 x hx).1⟩,⟨t0,q1,q2,fun x hx=>(q3 x hx).2,fun x hx=>(q4 x hx).2,q5,q6⟩⟩
theorem abm{r:List D}(h:bZ 1048576 [.str,.slice 9 [.str],.slice 174 [.int .i64,.str,.int .i64,.int .i64,.int .i64,.int .i64,.int .i64,.str]] r):∃ a:Slc,r=a.row/\a.Ok/\a.Tx:=by
 obtain⟨x0,r,rfl,h0,h⟩:=dA h;obtain⟨x1,r,rfl,h1,h⟩:=dA h;obtain⟨x2,r,rfl,h2,h⟩:=dA h;obtain rfl:=oH h;obtain⟨v0,rfl,t0⟩:=ni h0;obtain⟨v1,rfl,l1,q1⟩:=jE h1 zN;obtain⟨v2,rfl,l2,q2⟩:=jE h2 Js;exact⟨⟨v0,v1,v2⟩,rfl,⟨l1,l2⟩,⟨t0,q1,q2⟩⟩
theorem Xq{r:List D}(h:bZ 1048576 [.str,.slice 93 [.str,.int .i64],.str,.bool,.slice 47 [.str,.slice 9 [.str],.slice 9 [.str],.slice 84 [.str,.bool,.slice 174 [.int .i64,.str,.int .i64,.int .i64,.int .i64,.int .i64,.int .i64,.str]],.slice 87 [.int .i64,.slice 9 [.str],.slice 174 [.int .i64,.str,.int .i64,.int .i64,.int .i64,.int .i64,.int .i64,.str],.slice 234 [.str,.int .i64],.slice 9 [.str]],.slice 49 [.int .i64,.int .i64,.str],.slice 49 [.int .i64,.int .i64,.str]],.slice 41 [.str,.str,.int .i64],.slice 89 [.str,.slice 9 [.str],.slice 174 [.int .i64,.str,.int .i64,.int .i64,.int .i64,.int .i64,.int .i64,.str]]] r):∃ a:Config,r=a.row/\a.Ok/\a.Tx:=by
 obtain⟨x0,r,rfl,h0,h⟩:=dA h;obtain⟨x1,r,rfl,h1,h⟩:=dA h;obtain⟨x2,r,rfl,h2,h⟩:=dA h;obtain⟨x3,r,rfl,h3,h⟩:=dA h;obtain⟨x4,r,rfl,h4,h⟩:=dA h;obtain⟨x5,r,rfl,h5,h⟩:=dA h;obtain⟨x6,r,rfl,h6,h⟩:=dA h;obtain rfl:=oH h;obtain⟨v0,rfl,t0⟩:=ni h0;obtain⟨v1,rfl,l1,q1⟩:=jE h1 TV;obtain⟨v2,rfl,t2⟩:=ni h2;obtain⟨v3,rfl⟩:=Rq h3;obtain⟨v4,rfl,l4,q4⟩:=jE h4 abl;obtain⟨v5,rfl,l5,q5⟩:=jE h5 aag;obtain⟨v6,rfl,l6,q6⟩:=jE h6 abm;exact⟨⟨v0,v1,v2,v3,v4,v5,v6⟩,rfl,⟨l1,l4,l5,l6,fun x hx=>(q4 x hx).1,fun x hx=>(q6 x hx).1⟩,⟨t0,q1,t2,fun x hx=>(q4 x hx).2,q5,fun x hx=>(q6 x hx).2⟩⟩
end Go.Proofs.YtnlingegeangmaaGreatDoor
namespace Go.Proofs.YtnlingegeangmaaGreatDoor
open Go Go.Vx
structure Tst where
 f:Str
 op:Int
 form:Int
 lo:Int
 hi:Int
 len:Int
 pat:Str
structure Nd where
 kind:Int
 t:Tst
structure Fd where
 name:Str
 bits:Int
@[reducible] def ny(t:Tst):List D:=[.s t.f,.i .i64 t.op,.i .i64 t.form,.i .i64 t.lo,.i .i64 t.hi,.i .i64 t.len,.s t.pat]
@[reducible] def eY(x:Nd):List D:=.i .i64 x.kind :: ny x.t
@[reducible] def bJ(x:Fd):List D:=[.s x.name,.i .i64 x.bits]
theorem nC:EqT Tryz.prog 172 [.s,.i .i64,.i .i64,.i .i64,.i .i64,.i .i64,.s]:=EqT.KZ tok (ti:=_) rfl rfl kR
end Go.Proofs.YtnlingegeangmaaGreatDoor
namespace Go.Proofs.YtnlingegeangmaaGreatDoor
open Go Go.Vx
def Ltr(b:UInt8):Prop:=b.toNat=95\/(97<=b.toNat/\b.toNat<=122)\/(65<=b.toNat/\b.toNat<=90)
def Dgt(b:UInt8):Prop:=48<=b.toNat/\b.toNat<=57
def nameAt(i:Nat)(b:UInt8):Prop:=Ltr b\/(i ≠ 0/\Dgt b)
def J6(s:Str):Prop:=s ≠ []/\s.length<=24/\∀ (i:Nat) b,s[i]? = some b->nameAt i b
theorem uS{p:Prop}(h:¬ p):D.b False=D.b p:=by congr 1;exact propext ⟨False.elim,h⟩
theorem Lp{p:Prop}(h:p):D.b True=D.b p:=by congr 1;exact propext ⟨fun _=>h,fun _=>trivial⟩
theorem OT{s:Str}{i:Nat}{b:UInt8}(h:∀ (j:Nat) c,j<i->s[j]? = some c->nameAt j c)(hb:s[i]? = some b)(hn:nameAt i b):∀ (j:Nat) c,j<i+1->s[j]? = some c->nameAt j c:=by
 intro j c hj hc;by_cases hji:j=i
 . subst hji;rw[hb] at hc;cases hc;exact hn
 . exact h j c oA hc
theorem aaj(s:Str):aF Tryz.prog T 146 [.s s] (fun d _=>d = .b (J6 s)):=by
 refine aF.aB tok Tryz.func146 rfl Tryz.call146 sI ?_;(try (conv=>whnf));repeat' (first|refine Ok.seq ?_|((first|refine Ok.region tok ?_|refine Ok.cond ?_);conv=>whnf)|refine Ok.block ?_|((first|refine Ok.skip ?_|refine Ok.ret ?_);conv=>whnf)|(refine bI ?_ ?_<;>intro<;>first|omega|conv=>whnf)|fail)
 all_goals first
  | (rename_i h
     refine Or.inl ?_;(conv=>whnf);exact uS fun hn=>hn.1 (by simpa using h))
  | (rename_i h
     refine Or.inl ?_;(conv=>whnf);exact uS fun hn=>absurd hn.2.1 oA)
  | skip
 rename_i h0 h1;have hne:s ≠ []:=fun e=>h0 (by simpa using e)
 have hle:s.length<=24:=oA;refine Ok.aT [0,14] [15] 0 0 (fun (i:Nat)=>[.i .i64 (i:Nat)]) (fun _ b=>b) (fun _ r=>r) (fun (i:Nat)=>i<=s.length/\∀ (j:Nat) c,j<i->s[j]? = some c->nameAt j c) (fun (i:Nat)=>s.length - i) (0) (⟨Nat.zero_le _,fun j c hj=>absurd hj oA⟩) ?_;(conv=>whnf);refine⟨by ((conv=>whnf);first|rfl|(simp[ak,au,eY,bJ];done)|(simp[ak,au,eY,bJ];rw[IntKind.wrap_i64];omega)),?_⟩;rintro i ⟨hi,hall⟩;(conv=>whnf);by_cases hil:i<s.length
 . obtain⟨b,hb⟩:∃ b,s[i]? = some b:=⟨_,aC hil⟩
   have hbI:s[((i:Nat):Int).toNat]? = some b:=hb;have abX:=b.toNat_lt
   repeat' (first|refine Ok.seq ?_|((first|refine Ok.region tok ?_|refine Ok.cond ?_);conv=>whnf)|refine Ok.block ?_|((first|refine Ok.skip ?_|refine Ok.ret ?_|refine nI ?_|refine⟨_,aS,?_⟩);conv=>whnf)|(refine bI ?_ ?_<;>intro<;>first|omega|conv=>whnf)|((first|refine aJ ?_|refine jh ?_);conv=>whnf)|fail)
   all_goals first
    | omega
    | (refine Or.inl ?_;(conv=>whnf)
       refine uS fun hn=>?_
       have:=hn.2.2 i b hb;unfold nameAt Ltr Dgt at this;omega)
    | (refine⟨i+1,oA,⟨oA,OT hall hb ?_⟩,?_⟩
       . unfold nameAt Ltr Dgt
         omega
       . (conv=>whnf)
         rfl)
 . have hie:i=s.length:=oA
   subst hie;(try (conv=>whnf));repeat' (first|refine Ok.seq ?_|((first|refine Ok.region tok ?_|refine Ok.cond ?_|refine Ok.exit ?_|refine Ok.ret ?_);conv=>whnf)|(refine bI ?_ ?_<;>intro<;>first|omega|conv=>whnf)|fail)
   all_goals first
    | omega
    | (refine Or.inl ?_;(conv=>whnf)
       exact Lp ⟨hne,hle,fun j c hc=>hall j c (aK.1 hc).1 hc⟩)
end Go.Proofs.YtnlingegeangmaaGreatDoor
namespace Go.Proofs.YtnlingegeangmaaGreatDoor
open Go Go.Vx
theorem Ad{α:Type}{l:List α}{i:Nat}{x:α}(h:l[i]? = some x):l.drop i=x :: l.drop (i+1):=by
 obtain⟨h1,rfl⟩:=aK.1 h;exact List.drop_eq_getElem_cons h1
def cO(nm:Str):List Fd->Nat->Int
 | [],_=>-1
 | f :: l,k=>if f.name=nm then (k:Int) else cO nm l (k+1)
theorem Ae(nm:Str):∀ (l:List Fd) (k:Nat),(0<=cO nm l k ↔ ∃ f ∈ l,f.name=nm)/\-1<=cO nm l k/\cO nm l k<(k+l.length:Nat)
 | [],k=>by simp[cO];omega
 | f :: l,k=>by
  unfold cO;split
  . rename_i h
    refine⟨⟨fun _=>⟨f,sI,h⟩,fun _=>by omega⟩,oA,by simp;omega⟩
  . rename_i h
    obtain⟨h1,h2,h3⟩:=Ae nm l (k+1);refine⟨h1.trans ⟨fun⟨g,hg,e⟩=>⟨g,by simp[hg],e⟩,fun⟨g,hg,e⟩=>?_⟩,h2,by simp at h3 ⊢;omega⟩;rcases List.mem_cons.1 hg with rfl|hg
    . exact absurd e h
    . exact⟨g,hg,e⟩
theorem EK(l:List Fd)(r:List (List D))(nm:Str)(hl:l.length<=2000000):aF Tryz.prog T 147 [.lst 93 (l.map bJ) r,.s nm] (fun d _=>d = .i .i64 (cO nm l 0)):=by
 have h1:(l.map bJ).length=l.length:=sI;refine aF.aB tok Tryz.func147 rfl Tryz.call147 sI ?_;(try (conv=>whnf));repeat' (first|refine Ok.seq ?_|(refine Ok.region tok ?_;conv=>whnf)|refine Ok.block ?_|fail)
 refine Ok.aT [1,7,8] [9] 0 0 (fun (i:Nat)=>[.i .i64 (i:Nat)]) (fun _ b=>b) (fun _ r=>r) (fun (i:Nat)=>i<=l.length/\cO nm l 0=cO nm (l.drop i) i) (fun (i:Nat)=>l.length - i) (0) (⟨Nat.zero_le _,rfl⟩) ?_;(conv=>whnf);refine⟨by ((conv=>whnf);first|rfl|(simp[ak,au,eY,bJ];done)|(simp[ak,au,eY,bJ];rw[IntKind.wrap_i64];omega)),?_⟩;rintro i ⟨hi,hf⟩;(conv=>whnf);by_cases hil:i<l.length
 . obtain⟨c,hc⟩:∃ c,l[i]? = some c:=⟨_,aC hil⟩
   have hcI:l[((i:Nat):Int).toNat]? = some c:=hc;rw[Ad hc] at hf;(try (conv=>whnf));repeat' (first|refine Ok.seq ?_|((first|refine Ok.region tok ?_|refine Ok.cond ?_);conv=>whnf)|refine Ok.block ?_|((first|refine Ok.skip ?_|refine Ok.ret ?_|refine nI ?_|refine ix _ aS ?_);conv=>whnf)|(refine bI ?_ ?_<;>intro<;>first|omega|conv=>whnf)|fail)
   all_goals first
    | omega
    | (rename_i h
       refine Or.inl ?_;(conv=>whnf);rw[hf];unfold cO;rw[if_pos h];rfl)
    | (rename_i h
       refine⟨i+1,oA,⟨oA,?_⟩,?_⟩
       . rw[hf]
         conv=>lhs;unfold cO
         rw[if_neg h]
       . (conv=>whnf)
         rfl)
 . have hie:i=l.length:=oA
   subst hie;rw[List.drop_length] at hf;(try (conv=>whnf));repeat' (first|refine Ok.seq ?_|((first|refine Ok.region tok ?_|refine Ok.cond ?_|refine Ok.exit ?_|refine Ok.ret ?_);conv=>whnf)|(refine bI ?_ ?_<;>intro<;>first|omega|conv=>whnf)|fail)
   all_goals first
    | omega
    | (refine Or.inl ?_;(conv=>whnf)
       rw[hf];rfl)
def uT(pre:List Fd)(f:Fd)(sum:Int):Prop:=
 ¬ J6 f.name\/f.name=[97,110,121]\/f.name=[110,111,110,101]\/(∃ g ∈ pre,g.name=f.name)\/f.bits<1\/32<f.bits\/256<sum+f.bits
open Classical in
noncomputable def kD(all:List Fd):List Fd->Nat->Int->Int × Int
 | [],_,_=>(0,0)
 | f :: r,i,sum=>if uT (all.take i) f sum then (40,(i:Int)) else kD all r (i+1) (sum+f.bits)
noncomputable def dh(l:List Fd):Int × Int:=if 12<l.length then (2,0) else if l=[] then (40,0) else kD l l 0 0
theorem Dc{all:List Fd}{f:Fd}{r:List Fd}{i:Nat}{sum:Int}(h:uT (all.take i) f sum):kD all (f :: r) i sum=(40,(i:Int)):=by unfold kD;rw[if_pos h]
theorem Du{all:List Fd}{f:Fd}{r:List Fd}{i:Nat}{sum:Int}(h:¬ uT (all.take i) f sum):kD all (f :: r) i sum=kD all r (i+1) (sum+f.bits):=by conv=>lhs;unfold kD;rw[if_neg h]
theorem Ip{l:List Fd}(h:12<l.length):dh l=(2,0):=by unfold dh;rw[if_pos h]
theorem IX{l:List Fd}(h:l.length=0):dh l=(40,0):=by unfold dh;rw[if_neg oA,if_pos (List.eq_nil_of_length_eq_zero h)]
theorem Jt{l:List Fd}(h:¬ 12<l.length)(h2:l.length ≠ 0):dh l=kD l l 0 0:=by unfold dh;rw[if_neg h,if_neg (fun e=>h2 (by rw[e];rfl))]
theorem Af(l:List Fd)(r:List (List D))(hl:l.length<=2000000):aF Tryz.prog T 118 [.lst 93 (l.map bJ) r] (fun d _=>d = .tup [.i .i64 (dh l).1,.i .i64 (dh l).2]):=by
 have h1:(l.map bJ).length=l.length:=sI;refine aF.aB tok Tryz.func118 rfl Tryz.call118 sI ?_;(try (conv=>whnf));repeat' (first|refine Ok.seq ?_|((first|refine Ok.region tok ?_|refine Ok.cond ?_);conv=>whnf)|refine Ok.block ?_|((first|refine Ok.skip ?_|refine Ok.ret ?_);conv=>whnf)|(refine bI ?_ ?_<;>intro<;>first|omega|conv=>whnf)|fail)
 all_goals first
  | (rename_i h
     refine Or.inl ?_;(conv=>whnf);rw[Ip oA];rfl)
  | (rename_i h
     refine Or.inl ?_;(conv=>whnf);rw[IX oA];rfl)
  | skip
 rename_i h2 h3;rw[Jt oA oA];refine Ok.aT [0,13,14] [4,15] 0 0 (fun (x:Nat × Int)=>[.i .i64 x.2,.i .i64 (x.1:Nat)]) (fun _ b=>b) (fun _ r=>r) (fun (x:Nat × Int)=>x.1<=l.length/\0<=x.2/\x.2<=256/\kD l l 0 0=kD l (l.drop x.1) x.1 x.2) (fun (x:Nat × Int)=>l.length - x.1) ((0,0)) (⟨Nat.zero_le _,oA,oA,rfl⟩) ?_;(conv=>whnf);refine⟨by ((conv=>whnf);first|rfl|(simp[ak,au,eY,bJ];done)|(simp[ak,au,eY,bJ];rw[IntKind.wrap_i64];omega)),?_⟩;rintro⟨i,sum⟩ ⟨hi,hs0,hs1,hf⟩;dsimp only at hi hs0 hs1 hf ⊢;(conv=>whnf);by_cases hil:i<l.length
 . obtain⟨c,hc⟩:∃ c,l[i]? = some c:=⟨_,aC hil⟩
   have hcI:l[((i:Nat):Int).toNat]? = some c:=hc;rw[Ad hc] at hf;have hfg:=Ae c.name (l.take i) 0;have hfa:=fun r=>EK (l.take i) r c.name sO
   have hmt:(l.take i).map bJ=((l.map bJ++r).take i).drop 0:=by rw[List.drop_zero,List.take_append_of_le_length oA,List.map_take]
   (try (conv=>whnf));repeat' (first|(refine⟨(l.take i).map bJ,_,hmt,rfl,?_⟩;conv=>whnf)|refine Ok.seq ?_|((first|refine Ok.region tok ?_|refine Ok.bH tok follows kR ?_|refine Ok.cond ?_);conv=>whnf)|refine Ok.block ?_|((first|refine Ok.skip ?_|refine Ok.ret ?_|refine nI ?_|refine ix _ aS ?_|refine⟨_,aaj c.name,rfl,?_⟩|refine⟨_,hfa _,rfl,?_⟩|refine⟨_,_,rfl,rfl,?_⟩);conv=>whnf)|(refine bI ?_ ?_<;>intro<;>first|omega|conv=>whnf)|(refine aJ ?_;conv=>whnf)|fail)
   all_goals first
    | omega
    | (refine Or.inl ?_;(conv=>whnf)
       rw[hf,Dc (show uT (l.take i) c sum from by
        unfold uT
        first
         | exact .inl aS
         | exact .inr (.inl aS)
         | exact .inr (.inr (.inl aS))
         | exact .inr (.inr (.inr (.inl (hfg.1.1 aS))))
         | exact .inr (.inr (.inr (.inr oA))))]
       rfl)
    | skip
   all_goals
    refine⟨(i+1,sum+c.bits),by dsimp only;omega,⟨by dsimp only;omega,by dsimp only;omega,by dsimp only;omega,?_⟩,?_⟩
   . rw[hf]
     refine Du fun hb=>?_
     rcases hb with h|h|h|h|h
     . exact absurd h aS
     . exact absurd h aS
     . exact absurd h aS
     . exact absurd (hfg.1.2 h) aS
     . omega
   . (conv=>whnf)
     rfl
 . have hie:i=l.length:=oA
   subst hie;rw[List.drop_length] at hf;(try (conv=>whnf));repeat' (first|refine Ok.seq ?_|((first|refine Ok.region tok ?_|refine Ok.cond ?_|refine Ok.exit ?_|refine Ok.ret ?_);conv=>whnf)|(refine bI ?_ ?_<;>intro<;>first|omega|conv=>whnf)|fail)
   all_goals first
    | omega
    | (refine Or.inl ?_;(conv=>whnf)
       rw[hf];rfl)
end Go.Proofs.YtnlingegeangmaaGreatDoor
namespace Go.Proofs.YtnlingegeangmaaGreatDoor
open Go Go.Vx
def xG(v k:Nat):UInt8:=if v / 2 ^ k % 2=1 then 49 else 48
def lQ(v bits n:Nat):Str:=(List.range n).map fun i=>xG v (bits - 1 - i)
def xsT(n:Nat):Str:=List.replicate n 120
def lS(v bits n:Nat):Str:=lQ v bits n++xsT (bits - n)
theorem tJ(v bits n:Nat):(lQ v bits n).length=n:=by simp[lQ]
theorem qV(n:Nat):(xsT n).length=n:=by simp[xsT]
theorem IY{v bits n:Nat}(h:n<=bits):(lS v bits n).length=bits:=by rw[lS,List.length_append,tJ,qV];omega
def iZ(bits lo H:Nat):Nat->Nat->Nat
 | 0,f=>f
 | k+1,f=>if f<bits/\lo % 2 ^ (f+1)=0/\lo+2 ^ (f+1)<=H then iZ bits lo H k (f+1) else f
def pR(bits H:Nat):Nat->Nat->List Str
 | 0,_=>[]
 | k+1,lo=>if lo<H then lS lo bits (bits - iZ bits lo H bits 0) :: pR bits H k (lo+2 ^ iZ bits lo H bits 0) else []
def ji(bits lo H:Nat):Nat->Nat->List Str
 | 0,base=>if lo<=base/\base+1<=H then [lS base bits bits] else []
 | d+1,base=>if lo<=base/\base+2 ^ (d+1)<=H then [lS base bits (bits - (d+1))] else if H<=base\/base+2 ^ (d+1)<=lo then [] else ji bits lo H d base++ji bits lo H d (base+2 ^ d)
theorem Qc{bits lo H d:Nat}(hd:d<=bits)(h1:∀ g,g<d->lo % 2 ^ (g+1)=0/\lo+2 ^ (g+1)<=H)(h2:¬ (d<bits/\lo % 2 ^ (d+1)=0/\lo+2 ^ (d+1)<=H)) :
    ∀ (k f:Nat),f<=d->d - f<=k->iZ bits lo H k f=d
 | 0,f,hf,hk=>by unfold iZ;omega
 | k+1,f,hf,hk=>by
  unfold iZ;by_cases hfd:f=d
  . subst hfd;rw[if_neg h2]
  . rw[if_pos ⟨oA,h1 f oA⟩]
    exact Qc hd h1 h2 k (f+1) oA oA
theorem Hg(bits H:Nat):∀ (k lo:Nat),H - lo<=k->pR bits H k lo=pR bits H (H - lo) lo
 | 0,lo,h=>by rw[show H - lo=0 by omega]
 | k+1,lo,h=>by
  by_cases hlt:lo<H
  . obtain⟨m,hm⟩:∃ m,H - lo=m+1:=⟨H - lo - 1,oA⟩
    rw[hm];unfold pR;rw[if_pos hlt,if_pos hlt];have hp:0<2 ^ iZ bits lo H bits 0:=Nat.two_pow_pos _;rw[Hg bits H k _ oA,<- Hg bits H m _ oA]
  . rw[show H - lo=0 by omega]
    unfold pR;rw[if_neg hlt]
def eu(bits H lo:Nat):List Str:=pR bits H (H - lo) lo
theorem Nc{bits H lo:Nat}(h:lo<H):eu bits H lo=lS lo bits (bits - iZ bits lo H bits 0) :: eu bits H (lo+2 ^ iZ bits lo H bits 0):=by
 unfold eu;obtain⟨m,hm⟩:∃ m,H - lo=m+1:=⟨H - lo - 1,oA⟩;rw[hm]
 conv=>lhs;unfold pR
 rw[if_pos h];have hp:0<2 ^ iZ bits lo H bits 0:=Nat.two_pow_pos _;rw[Hg bits H m _ oA]
theorem yt{bits H lo:Nat}(h:H<=lo):eu bits H lo=[]:=by
 unfold eu;rw[show H - lo=0 by omega];rfl
theorem H7{x g d:Nat}(h:x % 2 ^ d=0)(hg:g<=d):x % 2 ^ g=0:=
 Nat.mod_eq_zero_of_dvd (Nat.dvd_trans (Nat.pow_dvd_pow 2 hg) (Nat.dvd_of_mod_eq_zero h))
theorem Vj{bits lo H:Nat}(hH:H<=2 ^ bits):∀ (d base:Nat),d<=bits->base % 2 ^ d=0 ->
    (d=bits\/∃ par,(par=base\/par+2 ^ d=base)/\par % 2 ^ (d+1)=0/\¬ (lo<=par/\par+2 ^ (d+1)<=H)) ->
    eu bits H (max lo base)=ji bits lo H d base++eu bits H (max lo (base+2 ^ d)):=by
 have cov:∀ (d base:Nat),d<=bits->base % 2 ^ d=0->(d=bits\/∃ par,(par=base\/par+2 ^ d=base)/\par % 2 ^ (d+1)=0/\¬ (lo<=par/\par+2 ^ (d+1)<=H)) ->
     lo<=base->base+2 ^ d<=H->eu bits H (max lo base)=lS base bits (bits - d) :: eu bits H (max lo (base+2 ^ d)):=by
  intro d base hd hb hp h1 h2;have hpos:0<2 ^ d:=Nat.two_pow_pos _;have hfree:iZ bits base H bits 0=d:=by
   refine Qc hd (fun g hg=>⟨H7 hb oA,?_⟩) ?_ bits 0 oA oA
   . have:=Nat.pow_le_pow_right (show 0<2 by decide) (show g+1<=d by omega)
     omega
   . rintro⟨k1,k2,k3⟩
     rcases hp with rfl|⟨par,rfl|hpar,hm,hn⟩
     . omega
     . exact hn ⟨h1,k3⟩
     . have e1:2 ^ (d+1)=2 ^ d+2 ^ d:=by rw[Nat.pow_succ];omega
       obtain⟨q,hq⟩:=Nat.dvd_of_mod_eq_zero hm;rw[<- hpar,hq,Nat.mul_add_mod,Nat.mod_eq_of_lt oA] at k2;omega
  rw[Nat.max_eq_right h1,Nat.max_eq_right oA,Nc oA,hfree]
 intro d
 induction d with
 | zero=>
  intro base hd hb hp;unfold ji;split
  . rename_i h
    rw[cov 0 base hd hb hp h.1 (by simpa using h.2)];simp
  . rename_i h
    by_cases h1:H<=base
    . rw[yt (show H<=max lo base by omega),yt (show H<=max lo (base+2 ^ 0) by omega)]
      rfl
    . have:max lo base=max lo (base+2 ^ 0):=by simp;omega
      rw[this];rfl
 | succ d ih=>
  intro base hd hb hp;have e1:2 ^ (d+1)=2 ^ d+2 ^ d:=by rw[Nat.pow_succ];omega
  unfold ji;split
  . rename_i h
    rw[cov (d+1) base hd hb hp h.1 h.2];rfl
  . rename_i h
    split
    . rename_i h1
      rcases h1 with h1|h1
      . rw[yt (show H<=max lo base by omega),yt (show H<=max lo (base+2 ^ (d+1)) by omega)]
        rfl
      . rw[show max lo base=max lo (base+2 ^ (d+1)) by omega]
        rfl
    . rename_i h1
      rw[ih base oA (H7 hb oA) (.inr ⟨base,.inl rfl,hb,h⟩)];have hb2:(base+2 ^ d) % 2 ^ d=0:=by rw[Nat.add_mod_right];exact H7 hb oA
      rw[ih (base+2 ^ d) oA hb2 (.inr ⟨base,.inr rfl,hb,h⟩),<- List.append_assoc];rw[show base+2 ^ d+2 ^ d=base+2 ^ (d+1) by omega]
theorem U4{bits lo H:Nat}(hH:H<=2 ^ bits):eu bits H lo=ji bits lo H bits 0:=by
 have:=Vj (lo:=lo) hH bits 0 (Nat.le_refl _) sI (.inl rfl);rw[yt (show H<=max lo (0+2 ^ bits) by omega),List.append_nil,Nat.max_eq_left (Nat.zero_le _)] at this;exact this
theorem Dh{bits lo H:Nat}:∀ (d base:Nat),H<=base\/base+2 ^ d<=lo->ji bits lo H d base=[]
 | 0,base,h=>by unfold ji;rw[if_neg (by simp at h;omega)]
 | d+1,base,h=>by
  unfold ji;have hp:0<2 ^ (d+1):=Nat.two_pow_pos _;rw[if_neg oA,if_pos h]
theorem Nh{bits lo H:Nat}:∀ (d base:Nat),lo<=base->base+2 ^ d<=H->(ji bits lo H d base).length=1
 | 0,base,h1,h2=>by unfold ji;rw[if_pos ⟨h1,by simpa using h2⟩];rfl
 | d+1,base,h1,h2=>by unfold ji;rw[if_pos ⟨h1,h2⟩];rfl
theorem x9{bits lo H:Nat}:∀ (d base:Nat),lo<=base\/base+2 ^ d<=H->(ji bits lo H d base).length<=d+1
 | 0,base,h=>by unfold ji;split<;>simp
 | d+1,base,h=>by
  have e1:2 ^ (d+1)=2 ^ d+2 ^ d:=by rw[Nat.pow_succ];omega
  unfold ji;split
  . simp
  . rename_i hc
    split
    . simp
    . rename_i hn
      rw[List.length_append];rcases h with h|h
      . by_cases hb:base+2 ^ d<=H
        . have:=Nh (bits:=bits) d base h hb
          have:=x9 (bits:=bits) (lo:=lo) (H:=H) d (base+2 ^ d) (.inl oA);omega
        . rw[Dh d (base+2 ^ d) (.inl oA)]
          have:=x9 (bits:=bits) (lo:=lo) (H:=H) d base (.inl h);simp;omega
      . by_cases hb:lo<=base+2 ^ d
        . have:=Nh (bits:=bits) (H:=H) d (base+2 ^ d) hb oA
          have:=x9 (bits:=bits) (lo:=lo) (H:=H) d base (.inr oA);omega
        . rw[Dh d base (.inr oA)]
          have:=x9 (bits:=bits) (lo:=lo) (H:=H) d (base+2 ^ d) (.inr oA);simp;omega
theorem H8{bits lo H:Nat}:∀ (d base:Nat),(ji bits lo H d base).length<=2*d+2
 | 0,base=>by unfold ji;split<;>simp
 | d+1,base=>by
  have e1:2 ^ (d+1)=2 ^ d+2 ^ d:=by rw[Nat.pow_succ];omega
  unfold ji;split
  . simp
  . rename_i hc
    split
    . simp
    . rename_i hn
      rw[List.length_append];by_cases h1:base+2 ^ d<=H
      . by_cases h2:lo<=base+2 ^ d
        . have:=x9 (bits:=bits) (lo:=lo) (H:=H) d base (.inr h1)
          have:=x9 (bits:=bits) (lo:=lo) (H:=H) d (base+2 ^ d) (.inl h2);omega
        . rw[Dh d base (.inr oA)]
          have:=H8 (bits:=bits) (lo:=lo) (H:=H) d (base+2 ^ d);simp;omega
      . rw[Dh d (base+2 ^ d) (.inl oA)]
        have:=H8 (bits:=bits) (lo:=lo) (H:=H) d base;simp;omega
theorem Dv{bits lo H:Nat}(hH:H<=2 ^ bits):(eu bits H lo).length<=2*bits+2:=by
 rw[U4 hH];exact H8 _ _
end Go.Proofs.YtnlingegeangmaaGreatDoor
namespace Go.Proofs.YtnlingegeangmaaGreatDoor
open Go Go.Vx
def tw(b:Nat):Nat:=2 ^ b
theorem AY(b:Nat):0<tw b:=Nat.two_pow_pos b
theorem rZ{k:Nat}(h:k<=62):tw k<=4611686018427387904:=Nat.pow_le_pow_right (show 0<2 by decide) h
theorem aak{j k:Nat}(h:j<=k):tw j<=tw k:=Nat.pow_le_pow_right (show 0<2 by decide) h
theorem Qd{x:Nat}(h:x<9223372036854775808):IntKind.i64.wrap (x:Int)=(x:Int):=by rw[IntKind.wrap_i64];omega
theorem FP{p:Int->Prop}{b:Int}{k:Nat}(hb:b=(k:Int)/\k<=62)(h:p (tw k:Int)):∃ n,n=IntKind.i64.wrap (1*2 ^ (min b.toNat IntKind.i64.bits))/\p n:=by
 obtain⟨rfl,hk⟩:=hb;refine⟨_,?_,h⟩;have e1:min ((k:Int).toNat) IntKind.i64.bits=k:=by show min k 64=k;omega
 have e2:(1*2 ^ k:Int)=(tw k:Int):=by unfold tw;simp
 rw[e1,e2,Qd (by have:=rZ hk;omega)]
theorem abY{p:Int->Prop}{a b:Int}{v k:Nat}(ha:a=(v:Int))(hb:b=(k:Int)/\k<=62)(h:p ((v / tw k:Nat):Int)):∃ n,n=a.fdiv (2 ^ (min b.toNat IntKind.i64.bits))/\p n:=by
 obtain⟨rfl,hk⟩:=hb;subst ha;refine⟨_,?_,h⟩;have e1:min ((k:Int).toNat) IntKind.i64.bits=k:=by show min k 64=k;omega
 rw[e1,Int.fdiv_eq_ediv_of_nonneg _ (by exact Int.pow_nonneg dC)];unfold tw;simp
theorem FQ{p:Int->Prop}{a c:Int}{v k:Nat}(ha:a=(v:Int)/\v<9223372036854775808)(hc:c=(tw k:Int) - 1/\k<=62)(h:p ((v % tw k:Nat):Int)):∃ n,n=IntKind.i64.wrap ((BitVec.ofInt IntKind.i64.bits a &&& BitVec.ofInt IntKind.i64.bits c).toNat:Int)/\p n:=by
 obtain⟨rfl,hv⟩:=ha;obtain⟨rfl,hk⟩:=hc;refine⟨_,?_,h⟩;have h2:=rZ hk;have hp:=AY k;have e1:BitVec.ofInt IntKind.i64.bits (v:Int)=BitVec.ofNat 64 v:=BitVec.ofInt_natCast ..;have e2:BitVec.ofInt IntKind.i64.bits ((tw k:Int) - 1)=BitVec.ofNat 64 (tw k - 1):=by
  rw[show (tw k:Int) - 1=((tw k - 1:Nat):Int) by omega];exact BitVec.ofInt_natCast ..
 have e3:(BitVec.ofNat 64 v &&& BitVec.ofNat 64 (tw k - 1)).toNat=v % tw k:=by
  rw[BitVec.toNat_and,BitVec.toNat_ofNat,BitVec.toNat_ofNat,Nat.mod_eq_of_lt (show v<2 ^ 64 by omega),Nat.mod_eq_of_lt (show tw k - 1<2 ^ 64 by omega)];exact Nat.and_two_pow_sub_one_eq_mod v k
 rw[e1,e2];have key:∀ x:Nat,x=v % tw k->((v % tw k:Nat):Int)=IntKind.i64.wrap (x:Int):=by
  rintro x rfl;rw[Qd (by have:=Nat.mod_lt v hp;omega)]
 exact key _ e3
theorem and_1{p:Int->Prop}{a:Int}{v:Nat}(ha:a=(v:Int)/\v<9223372036854775808)(h:p ((v % 2:Nat):Int)):∃ n,n=IntKind.i64.wrap ((BitVec.ofInt IntKind.i64.bits a &&& BitVec.ofInt IntKind.i64.bits 1).toNat:Int)/\p n:=
 FQ (k:=1) ha ⟨rfl,dC⟩ h
theorem abn{p:Int->Prop}{a c:Int}{v:Nat}(ha:a=(v:Int)/\v<9223372036854775808)(hc:c=1)(h:p ((v % 2:Nat):Int)):∃ n,n=IntKind.i64.wrap ((BitVec.ofInt IntKind.i64.bits a &&& BitVec.ofInt IntKind.i64.bits c).toNat:Int)/\p n:=by
 subst hc;exact and_1 ha h
theorem abo{x:Int}{p:Int->Prop}(h1:0<=x)(h2:x<=255)(h:p x):∃ n,n=IntKind.u8.wrap x/\p n:=⟨x,by rw[IntKind.wrap_u8];omega,h⟩
theorem YN(v k:Nat):((xG v k).toNat:Int)=48+((v / 2 ^ k % 2:Nat):Int):=by
 unfold xG;split
 . rename_i h;rw[h];rfl
 . rename_i h
   have:v / 2 ^ k % 2=0:=oA;rw[this];rfl
theorem yO(b:Nat)(hb:b<=62):aF Tryz.prog T 214 [.i .i64 (b:Nat)] (fun d _=>d = .i .i64 ((tw b:Int) - 1)):=by
 have h2:=rZ hb;have hk:((b:Nat):Int)=(b:Int)/\b<=62:=⟨rfl,hb⟩;refine aF.aB tok Tryz.func214 rfl Tryz.call214 sI ?_;(try (conv=>whnf));repeat' (first|((with_reducible_and_instances refine FP aS ?_);conv=>whnf)|refine Ok.seq ?_|((first|refine Ok.region tok ?_|refine Ok.ret ?_|refine nI ?_|refine aJ ?_);conv=>whnf)|fail)
 refine Or.inl ?_;(conv=>whnf);rfl
end Go.Proofs.YtnlingegeangmaaGreatDoor
namespace Go.Proofs.YtnlingegeangmaaGreatDoor
open Go Go.Vx
def xH(l:List Fd):Prop:=∀ f ∈ l,1<=f.bits/\f.bits<=32
def wid(l:List Fd):Nat:=(l.map fun f=>f.bits.toNat).sum
theorem Qe{l:List Fd}{i:Nat}{c:Fd}(h:l[i]? = some c):wid (l.take (i+1))=wid (l.take i)+c.bits.toNat:=by
 unfold wid;rw[take_snoc h,List.map_append,List.sum_append];simp
theorem AZ{l:List Fd}(h:xH l):wid l<=32*l.length:=by
 induction l with
 | nil=>simp[wid]
 | cons f l ih=>
  have h1:=ih fun x hx=>h x (by simp[hx])
  have h2:=h f sI;simp only[wid,List.map_cons,List.sum_cons,List.length_cons] at h1 ⊢;omega
theorem D9(l:List Fd)(r:List (List D))(hl:l.length<=1000)(hf:xH l):aF Tryz.prog T 213 [.lst 93 (l.map bJ) r] (fun d _=>d = .i .i64 (wid l:Nat)):=by
 have h1:(l.map bJ).length=l.length:=sI;have hw:=AZ hf;refine aF.aB tok Tryz.func213 rfl Tryz.call213 sI ?_;(try (conv=>whnf));repeat' (first|refine Ok.seq ?_|(refine Ok.region tok ?_;conv=>whnf)|refine Ok.block ?_|fail)
 refine Ok.aT [6,7] [3,8] 0 0 (fun (i:Nat)=>[.i .i64 (wid (l.take i):Nat),.i .i64 (i:Nat)]) (fun _ b=>b) (fun _ r=>r) (fun (i:Nat)=>i<=l.length) (fun (i:Nat)=>l.length - i) (0) (Nat.zero_le _) ?_;(conv=>whnf);refine⟨by ((conv=>whnf);first|rfl|(simp[ak,au,eY,bJ,bT];done)|(simp[ak,au,eY,bJ,bT];rw[IntKind.wrap_i64];omega)),?_⟩;intro i hi;(conv=>whnf);by_cases hil:i<l.length
 . obtain⟨c,hc⟩:∃ c,l[i]? = some c:=⟨_,aC hil⟩
   have hcI:l[((i:Nat):Int).toNat]? = some c:=hc;have hcb:=hf c (aU hc);have hsn:=Qe hc;have hwt:=AZ (l:=l.take i) fun x hx=>hf x (List.mem_of_mem_take hx)
   have hti:(l.take i).length=i:=by simp;omega
   repeat' (first|refine Ok.seq ?_|((first|refine Ok.region tok ?_|refine Ok.cond ?_);conv=>whnf)|refine Ok.block ?_|((first|refine Ok.skip ?_|refine nI ?_|refine ix _ aS ?_);conv=>whnf)|(refine bI ?_ ?_<;>intro<;>first|omega|conv=>whnf)|fail)
   all_goals first
    | omega
    | skip
   refine⟨i+1,oA,oA,?_⟩;rw[hsn,show ((wid (l.take i)+c.bits.toNat:Nat):Int)=(wid (l.take i):Int)+c.bits by omega];(conv=>whnf);rfl
 . have hie:i=l.length:=oA
   subst hie;rw[List.take_length];(try (conv=>whnf));repeat' (first|refine Ok.seq ?_|((first|refine Ok.region tok ?_|refine Ok.cond ?_|refine Ok.exit ?_|refine Ok.ret ?_);conv=>whnf)|(refine bI ?_ ?_<;>intro<;>first|omega|conv=>whnf)|fail)
   all_goals first
    | omega
    | (refine Or.inl ?_;(conv=>whnf)
       rfl)
theorem Xr(v bits i:Nat):(lQ v bits (i+1)).map bT=(lQ v bits i).map bT++[bT (xG v (bits - 1 - i))]:=by
 unfold lQ;rw[List.range_succ,List.map_append,List.map_append];rfl
def mO(v bits n i:Nat):Str:=lQ v bits i++List.replicate (n - i) 0
theorem Xt{v bits n i:Nat}(h:i<=n):(mO v bits n i).length=n:=by simp[mO,tJ];omega
theorem Xu{v bits n i:Nat}(h:i<n):((mO v bits n i).map bT).set i (bT (xG v (bits - 1 - i)))=(mO v bits n (i+1)).map bT:=by
 unfold mO;obtain⟨m,hm⟩:∃ m,n - i=m+1:=⟨n - i - 1,oA⟩;rw[hm,show n - (i+1)=m by omega,List.replicate_succ,List.map_append,List.map_append,Xr,List.set_append_right _ _ (by simp[tJ])];simp[tJ]
theorem U9{l:Str}{i:Nat}{b:UInt8}(h:l[i]? = some b):(l.map bT)[i]? = some (bT b):=by simp[h]
theorem YO{v k:Nat}(hv:v<9223372036854775808):v / tw k<9223372036854775808:=Nat.lt_of_le_of_lt (Nat.div_le_self _ _) hv
theorem acw(v k:Nat):v / tw k % 2<=1:=oA
theorem OU(v bits n:Nat)(hv:v<9223372036854775808)(hb:bits<=62)(hn:n<=bits):aF Tryz.prog T 215 [.i .i64 (v:Nat),.i .i64 (bits:Nat),.i .i64 (n:Nat)] (fun d _=>d = .s (lQ v bits n)):=by
 refine aF.aB tok Tryz.func215 rfl Tryz.call215 sI ?_;(try (conv=>whnf));repeat' (first|refine Ok.seq ?_|(refine Ok.region tok ?_;conv=>whnf)|refine Ok.block ?_|((first|refine⟨_,_,rfl,rfl,?_⟩|refine aJ ?_|refine⟨_,rfl,?_⟩);conv=>whnf)|fail)
 rw[show List.replicate n [D.i .u8 0]=(mO v bits n 0).map bT by simp[mO,lQ,bT]];refine Ok.aT [0,1,7,12] [13] 1 0 (fun (i:Nat)=>[.i .i64 (i:Nat)]) (fun _ b=>b) (fun (i:Nat) (_:Vx.Rows)=>[some (5,(mO v bits n i).map bT)]) (fun (i:Nat)=>i<=n) (fun (i:Nat)=>n - i) (0) (Nat.zero_le _) ?_;(conv=>whnf);refine⟨by ((conv=>whnf);first|rfl|(simp[ak,au,eY,bJ,bT];done)|(simp[ak,au,eY,bJ,bT];rw[IntKind.wrap_i64];omega)),?_⟩;intro i hi;have hll:=Xt (v:=v) (bits:=bits) hi;have hlm:((mO v bits n i).map bT).length=n:=by rw[bV,hll]
 (conv=>whnf);by_cases hil:i<n
 . have hfs:=Xu (v:=v) (bits:=bits) hil
   have hfa:(mO v bits n i)[i]? = some 0:=by
    unfold mO;rw[List.getElem?_append_right (by rw[tJ];exact Nat.le_refl _),tJ,Nat.sub_self,List.getElem?_replicate,if_pos oA]
   have hsh:((bits:Int) - 1 - (i:Int))=((bits - 1 - i:Nat):Int)/\bits - 1 - i<=62:=oA;have hm2:=acw v (bits - 1 - i);have hbc:=YN v (bits - 1 - i);(try (conv=>whnf));repeat' (first|((first|with_reducible_and_instances refine abY rfl aS ?_|refine abn ⟨rfl,YO hv⟩ rfl ?_|with_reducible_and_instances refine abo oA oA ?_);conv=>whnf)|refine Ok.seq ?_|((first|refine Ok.region tok ?_|refine Ok.cond ?_);conv=>whnf)|refine Ok.block ?_|((first|refine Ok.skip ?_|refine nI ?_);conv=>whnf)|(refine bI ?_ ?_<;>intro<;>first|omega|conv=>whnf)|(refine aJ ?_;conv=>whnf)|fail)
   all_goals first
    | omega
    | skip
   refine⟨_,U9 hfa,by simp[bT],_,rfl,?_⟩;(conv=>whnf)
   repeat' (first|((first|refine Ok.region tok ?_|refine nI ?_);conv=>whnf)|fail)
   refine⟨i+1,oA,oA,?_⟩;rw[<- hfs,show bT (xG v (bits - 1 - i))=[.i .u8 (48+((v / tw (bits - 1 - i) % 2:Nat):Int))] by unfold bT;rw[hbc];rfl];(conv=>whnf);rfl
 . have hie:i=n:=oA
   subst hie;have hfe:mO v bits i i=lQ v bits i:=by simp[mO]
   (try (conv=>whnf));repeat' (first|(refine⟨lQ v bits i,by rw[au oA,hfe],?_⟩;conv=>whnf)|refine Ok.seq ?_|((first|refine Ok.region tok ?_|refine Ok.cond ?_|refine Ok.exit ?_|refine Ok.ret ?_);conv=>whnf)|(refine bI ?_ ?_<;>intro<;>first|omega|conv=>whnf)|(refine aJ ?_;conv=>whnf)|fail)
   all_goals first
    | omega
    | (refine Or.inl ?_;(conv=>whnf)
       rfl)
end Go.Proofs.YtnlingegeangmaaGreatDoor
namespace Go.Vx
open Go.RowKit Go.Shelf Go.Proofs
theorem aF.Ru{P:Program}{T:Tab}{f:FuncId}{ds:List D}{l:List UInt8}(hcall:∀ args w,(callFunc f args).run P w = .ok (.enter f args) w)
    (h:∀ (V:Vw) (w:World) (args:Array Value),args.size=ds.length->(∀ (j:Nat) v d,args[j]? = some v->ds[j]? = some d->RI (ah T) V v d)->Calls P f args w fun q w'=>
     q = .returned (.string ⟨l.toArray⟩)/\Below w.heap.size w w') :
    aF P T f ds fun d _=>d = .s l:=by
 refine⟨hcall,fun V w args hV hl hR=>(h V w args hl hR).mono ?_⟩;rintro q w' ⟨rfl,hb⟩;exact⟨V,[],[],_,_,rfl,rfl,.imm _ _ (.s l),hb,fun _ _ h=>h,hV.ext hb,fun _ _=>rfl,rfl,sI,sI,sI⟩
theorem Ju{sz:TypeId->Nat}{V:Vw}{v:Value}{l:List UInt8}(h:RI sz V v (.s l)):v = .string ⟨l.toArray⟩:=by cases h;rfl
theorem Rw{sz:TypeId->Nat}{V:Vw}{v:Value}{k:IntKind}{n:Int}(h:RI sz V v (.i k n)):v = .int k n:=by cases h;rfl
theorem args2{args:Array Value}{x y:Value}(h:args.size=2)(h0:args[0]? = some x)(h1:args[1]? = some y):args=#[x,y]:=by
 apply Array.ext' ;apply List.ext_getElem?;intro i
 match i with
 | 0=>simpa using h0
 | 1=>simpa using h1
 | i+2=>simp;omega
theorem Qg{sz:TypeId->Nat}{V:Vw}{args:Array Value}{a b:D}(hl:args.size=2)(hR:∀ (j:Nat) v d,args[j]? = some v->[a,b][j]? = some d->RI sz V v d):∃ x y,args=#[x,y]/\RI sz V x a/\RI sz V y b:=by
 have h0:args[0]? = some args[0]:=Array.getElem?_eq_getElem oA;have h1:args[1]? = some args[1]:=Array.getElem?_eq_getElem oA;exact⟨_,_,args2 hl h0 h1,hR 0 _ _ h0 rfl,hR 1 _ _ h1 rfl⟩
theorem Xv{P:Program}{T:Tab}{ρ:Ren}(L:Lays.n105 P ρ)(X:Builder.Extra P ρ)(hc:∀ args w,(callFunc (ρ.f 105) args).run P w = .ok (.enter (ρ.f 105) args) w)(s:List UInt8)(c:Nat)(h:s.length*c<=140737488355328)(hcc:c<=9223372036854775807) :
    aF P T (ρ.f 105) [.s s,.i .i64 (c:Nat)] fun d _=>d = .s (Lib.repeatL s c):=by
 refine .Ru hc fun V w args hl hR=>?_
 obtain⟨x,y,rfl,hx,hy⟩:=Qg hl hR;rw[Ju hx,Rw hy];exact Any.strings_Repeat L X ⟨s.toArray⟩ c w hcc (by simpa[ByteArray.size] using h)
theorem aal{P:Program}{T:Tab}{ρ:Ren}(L:Lays.n160 P ρ)(h116:(P.info? (ρ.t 116)).map (fun i=>(i.zero,i.size))=some (some (.agg (Array.replicate 256 (.bool false))),256))(hc:∀ args w,(callFunc (ρ.f 160) args).run P w = .ok (.enter (ρ.f 160) args) w)(s cs:List UInt8)
    (hs:s.length<=9223372036854775807)(hcs:cs.length<4294967281)(ha:cs.all (fun b=>decide (b.toNat<128))=true):aF P T (ρ.f 160) [.s s,.s cs] fun d _=>d = .s (Lib.trimS s cs):=by
 refine .Ru hc fun V w args hl hR=>?_
 obtain⟨x,y,rfl,hx,hy⟩:=Qg hl hR;rw[Ju hx,Ju hy];exact Any.strings_Trim_laid L h116 ⟨s.toArray⟩ ⟨cs.toArray⟩ w (by simpa[ByteArray.size] using hs) (by simpa[ByteArray.size] using hcs) (ascii_of_all ha)
end Go.Vx
namespace Go.Proofs
open Go.Shelf
def Tryz.vxRep_ren:Go.Shelf.Ren:=⟨fun|105=>212|212=>231|99=>232|165=>233|166=>234|170=>235|169=>236|263=>249|264=>250|206=>251|240=>252|241=>253|276=>272|277=>273|n=>n,fun|9=>9|3=>3|4=>4|20=>20|0=>0|46=>253|109=>334|5=>5|72=>339|76=>343|51=>283|146=>358|53=>285|148=>360|70=>337|37=>302|75=>342|127=>362|164=>244|80=>345|n=>n,fun|n=>n⟩
theorem Tryz.vxRep:Go.Proofs.Lays.n105 Tryz.prog Tryz.vxRep_ren:={
 mixed:=kR
 f99:=Tryz.func232.trans (congrArg some kR)
 f105:=Tryz.func212.trans (congrArg some kR)
 f165:=Tryz.func233.trans (congrArg some kR)
 f166:=Tryz.func234.trans (congrArg some kR)
 f169:=Tryz.func236.trans (congrArg some kR)
 f170:=Tryz.func235.trans (congrArg some kR)
 f206:=Tryz.func251.trans (congrArg some kR)
 f212:=Tryz.func231.trans (congrArg some kR)
 f240:=Tryz.func252.trans (congrArg some kR)
 f241:=Tryz.func253.trans (congrArg some kR)
 f263:=Tryz.func249.trans (congrArg some kR)
 f264:=Tryz.func250.trans (congrArg some kR)
 f276:=Tryz.func272.trans (congrArg some kR)
 f277:=Tryz.func273.trans (congrArg some kR)
 t0:=Tryz.underlying0
 a0:=Tryz.isAgg0
 z0:=Tryz.sizeOf0
 v0:=Tryz.zeroValue0
 t3:=Tryz.underlying3
 a3:=Tryz.isAgg3
 z3:=Tryz.sizeOf3
 v3:=Tryz.zeroValue3
 t4:=Tryz.underlying4
 a4:=Tryz.isAgg4
 z4:=Tryz.sizeOf4
 v4:=Tryz.zeroValue4
 t5:=Tryz.underlying5
 a5:=Tryz.isAgg5
 z5:=Tryz.sizeOf5
 v5:=Tryz.zeroValue5
 t9:=Tryz.underlying9
 a9:=Tryz.isAgg9
 z9:=Tryz.sizeOf9
 v9:=Tryz.zeroValue9
 t20:=Tryz.underlying20
 a20:=Tryz.isAgg20
 z20:=Tryz.sizeOf20
 v20:=Tryz.zeroValue20
 t37:=Tryz.underlying302
 a37:=Tryz.isAgg302
 z37:=Tryz.sizeOf302
 v37:=Tryz.zeroValue302
 t46:=Tryz.underlying253
 a46:=Tryz.isAgg253
 z46:=Tryz.sizeOf253
 v46:=Tryz.zeroValue253
 t51:=Tryz.underlying283
 a51:=Tryz.isAgg283
 z51:=Tryz.sizeOf283
 v51:=Tryz.zeroValue283
 t53:=Tryz.underlying285
 a53:=Tryz.isAgg285
 z53:=Tryz.sizeOf285
 v53:=Tryz.zeroValue285
 t70:=Tryz.underlying337
 a70:=Tryz.isAgg337
 z70:=Tryz.sizeOf337
 v70:=Tryz.zeroValue337
 t72:=Tryz.underlying339
 a72:=Tryz.isAgg339
 z72:=Tryz.sizeOf339
 v72:=Tryz.zeroValue339
 t75:=Tryz.underlying342
 a75:=Tryz.isAgg342
 z75:=Tryz.sizeOf342
 v75:=Tryz.zeroValue342
 t76:=Tryz.underlying343
 a76:=Tryz.isAgg343
 z76:=Tryz.sizeOf343
 v76:=Tryz.zeroValue343
 t109:=Tryz.underlying334
 a109:=Tryz.isAgg334
 z109:=Tryz.sizeOf334
 v109:=Tryz.zeroValue334
 t127:=Tryz.underlying362
 a127:=Tryz.isAgg362
 z127:=Tryz.sizeOf362
 v127:=Tryz.zeroValue362
 t146:=Tryz.underlying358
 a146:=Tryz.isAgg358
 z146:=Tryz.sizeOf358
 v146:=Tryz.zeroValue358
 t148:=Tryz.underlying360
 a148:=Tryz.isAgg360
 z148:=Tryz.sizeOf360
 v148:=Tryz.zeroValue360
 t164:=Tryz.underlying244
 a164:=Tryz.isAgg244
 z164:=Tryz.sizeOf244
 v164:=Tryz.zeroValue244 }
def Tryz.vxTrim_ren:Go.Shelf.Ren:=⟨fun|160=>241|232=>259|231=>258|227=>260|234=>262|233=>261|236=>264|235=>263|228=>276|271=>279|151=>278|197=>277|120=>286|152=>285|260=>284|137=>288|119=>289|224=>290|225=>291|217=>292|266=>293|n=>n,fun|9=>9|4=>4|3=>3|5=>5|117=>370|116=>369|0=>0|124=>373|21=>21|105=>387|46=>253|119=>397|139=>400|138=>399|n=>n,fun|3=>6|4=>7|n=>n⟩
theorem Tryz.vxTrim:Go.Proofs.Lays.n160 Tryz.prog Tryz.vxTrim_ren:={
 mixed:=kR
 f119:=Tryz.func289.trans (congrArg some kR)
 f120:=Tryz.func286.trans (congrArg some kR)
 f137:=Tryz.func288.trans (congrArg some kR)
 f151:=Tryz.func278.trans (congrArg some kR)
 f152:=Tryz.func285.trans (congrArg some kR)
 f160:=Tryz.func241.trans (congrArg some kR)
 f197:=Tryz.func277.trans (congrArg some kR)
 f217:=Tryz.func292.trans (congrArg some kR)
 f224:=Tryz.func290.trans (congrArg some kR)
 f225:=Tryz.func291.trans (congrArg some kR)
 f227:=Tryz.func260.trans (congrArg some kR)
 f228:=Tryz.func276.trans (congrArg some kR)
 f231:=Tryz.func258.trans (congrArg some kR)
 f232:=Tryz.func259.trans (congrArg some kR)
 f233:=Tryz.func261.trans (congrArg some kR)
 f234:=Tryz.func262.trans (congrArg some kR)
 f235:=Tryz.func263.trans (congrArg some kR)
 f236:=Tryz.func264.trans (congrArg some kR)
 f260:=Tryz.func284.trans (congrArg some kR)
 f266:=Tryz.func293.trans (congrArg some kR)
 f271:=Tryz.func279.trans (congrArg some kR)
 t0:=Tryz.underlying0
 a0:=Tryz.isAgg0
 z0:=Tryz.sizeOf0
 v0:=Tryz.zeroValue0
 t3:=Tryz.underlying3
 a3:=Tryz.isAgg3
 z3:=Tryz.sizeOf3
 v3:=Tryz.zeroValue3
 t4:=Tryz.underlying4
 a4:=Tryz.isAgg4
 z4:=Tryz.sizeOf4
 v4:=Tryz.zeroValue4
 t5:=Tryz.underlying5
 a5:=Tryz.isAgg5
 z5:=Tryz.sizeOf5
 v5:=Tryz.zeroValue5
 t9:=Tryz.underlying9
 a9:=Tryz.isAgg9
 z9:=Tryz.sizeOf9
 v9:=Tryz.zeroValue9
 t21:=Tryz.underlying21
 a21:=Tryz.isAgg21
 z21:=Tryz.sizeOf21
 v21:=Tryz.zeroValue21
 t46:=Tryz.underlying253
 a46:=Tryz.isAgg253
 z46:=Tryz.sizeOf253
 v46:=Tryz.zeroValue253
 t105:=Tryz.underlying387
 a105:=Tryz.isAgg387
 z105:=Tryz.sizeOf387
 v105:=Tryz.zeroValue387
 t116:=Tryz.underlying369
 a116:=Tryz.isAgg369
 z116:=Tryz.sizeOf369
 t117:=Tryz.underlying370
 a117:=Tryz.isAgg370
 z117:=Tryz.sizeOf370
 v117:=Tryz.zeroValue370
 t119:=Tryz.underlying397
 a119:=Tryz.isAgg397
 z119:=Tryz.sizeOf397
 t124:=Tryz.underlying373
 a124:=Tryz.isAgg373
 z124:=Tryz.sizeOf373
 v124:=Tryz.zeroValue373
 t138:=Tryz.underlying399
 a138:=Tryz.isAgg399
 z138:=Tryz.sizeOf399
 v138:=Tryz.zeroValue399
 t139:=Tryz.underlying400
 a139:=Tryz.isAgg400
 z139:=Tryz.sizeOf400
 v139:=Tryz.zeroValue400
 g3:=kR
 g4:=by kernel_rfl }
end Go.Proofs
namespace Go.Proofs.YtnlingegeangmaaGreatDoor
open Go Go.Vx Go.Shelf
theorem aam:Builder.Extra Tryz.prog Tryz.vxRep_ren where
 sizeBuilder:=kR
 liesBuilder:=kR
 t5:=kR
 a5:=fun _=>by kernel_rfl
 z5:=fun _=>by kernel_rfl
 v5:=fun _=>by kernel_rfl
 infoByte:=kR
 cellsByte:=kR
 sizeByte:=kR
 neB5:=dC
theorem Xw(n:Nat):Lib.repeatL [120] n=xsT n:=by
 induction n with
 | zero=>rfl
 | succ n ih=>rw[Lib.repeatL,ih];rfl
theorem EL(n:Nat)(h:n<=1000000):aF Tryz.prog T 212 [.s [120],.i .i64 (n:Nat)] (fun d _=>d = .s (xsT n)):=by
 have:=Xv (T:=T) Tryz.vxRep aam Tryz.call212 [120] n sO oA;rw[Xw] at this;exact this
theorem prefix_at(v bits n:Nat)(hv:v<9223372036854775808)(hb:bits<=62)(hn:n<=bits)(vI bI nJ:Int)(e1:vI=v)(e2:bI=bits)(e3:nJ=n) :
    aF Tryz.prog T 270 [.i .i64 vI,.i .i64 bI,.i .i64 nJ] (fun d _=>d = .s (lS v bits n)):=by
 subst e1 e2 e3;have hx:=EL (bits - n) oA;have hbl:=tJ v bits n;have hxl:=qV (bits - n);refine aF.aB tok Tryz.func270 rfl Tryz.call270 sI ?_;rw[show ((bits - n:Nat):Int)=(bits:Int) - n by omega] at hx;(try (conv=>whnf));repeat' (first|refine Ok.seq ?_|((first|refine Ok.region tok ?_|refine Ok.ret ?_|refine nI ?_);conv=>whnf)|(refine Or.inl ?_;(conv=>whnf);(repeat (refine aI ?_;conv=>whnf));refine⟨_,OU v bits n hv hb hn,rfl,?_⟩;conv=>whnf)|(refine Or.inl ?_;(conv=>whnf);(repeat (refine aI ?_;conv=>whnf));refine⟨_,hx,rfl,?_⟩;conv=>whnf)|(refine aJ ?_;conv=>whnf)|fail)
 refine Or.inl ?_;(conv=>whnf);rfl
theorem Xx{bits lo H k f:Nat}(h:f<bits/\lo % tw (f+1)=0/\lo+tw (f+1)<=H):iZ bits lo H (k+1) f=iZ bits lo H k (f+1):=by
 conv=>lhs;unfold iZ
 exact if_pos h
theorem Xy{bits lo H f:Nat}(k:Nat)(h:¬ (f<bits/\lo % tw (f+1)=0/\lo+tw (f+1)<=H)):iZ bits lo H k f=f:=by
 cases k with
 | zero=>rfl
 | succ k=>unfold iZ;exact if_neg h
theorem vK(bits lo H:Nat)(hb:bits<=32)(hH:H<=tw bits)(hlo:lo<=tw bits)(bI lI hI:Int)(e1:bI=bits)(e2:lI=lo)(e3:hI=(H:Int) - 1) :
    aF Tryz.prog T 243 [.i .i64 bI,.i .i64 lI,.i .i64 hI] (fun d rows=>d = .own 0 (eu bits H lo).length/\rows=[some (9,(eu bits H lo).map aG)]):=by
 subst e1 e2 e3;have htb:=rZ (show bits<=62 by omega);have ac9:=aak hb;have h32:tw 32=4294967296:=dC;have hcl:=Dv (bits:=bits) (lo:=lo) (H:=H) hH;refine aF.aB tok Tryz.func243 rfl Tryz.call243 sI ?_;(try (conv=>whnf));repeat' (first|refine Ok.seq ?_|(refine Ok.region tok ?_;conv=>whnf)|refine Ok.block ?_|fail)
 refine Ok.ghost 7 9 rfl ?_;(conv=>whnf);refine Ok.aT [0,2] [1,7] 1 0 (fun (x:Nat × List Str)=>[.i .i64 (x.1:Nat),.own 0 x.2.length]) (fun _ b=>b) (fun (x:Nat × List Str) (_:Vx.Rows)=>[some (9,x.2.map aG)]) (fun (x:Nat × List Str)=>x.1<=tw bits/\eu bits H lo=x.2++eu bits H x.1) (fun (x:Nat × List Str)=>tw bits - x.1) ((lo,[])) (⟨hlo,rfl⟩) ?_;(conv=>whnf);refine⟨by ((conv=>whnf);first|rfl|(simp[ak,au,eY,bJ,bT,aG];done)|(simp[ak,au,eY,bJ,bT,aG];rw[IntKind.wrap_i64];omega)),?_⟩;rintro⟨q,l⟩ ⟨hq,hcov⟩;dsimp only at hq hcov ⊢;have hlm:(l.map aG).length=l.length:=sI;have hlb:l.length<=66:=by have:=congrArg List.length hcov;rw[List.length_append] at this;omega
 (conv=>whnf);by_cases hqH:q<H
 . have hst:=Nc (bits:=bits) hqH
   repeat' (first|refine Ok.seq ?_|((first|refine Ok.region tok ?_|refine Ok.cond ?_);conv=>whnf)|refine Ok.block ?_|(refine Ok.skip ?_;conv=>whnf)|(refine bI ?_ ?_<;>intro<;>first|omega|conv=>whnf)|fail)
   refine Ok.aT [0,1,2,7] [8] 1 0 (fun (f:Nat)=>[.i .i64 (f:Nat)]) (fun _ b=>b) (fun (f:Nat) (_:Vx.Rows)=>[some (9,l.map aG)]) (fun (f:Nat)=>f<=bits/\q+tw f<=H/\iZ bits q H bits 0=iZ bits q H (bits - f) f) (fun (f:Nat)=>bits - f) (0) (⟨Nat.zero_le _,hqH,rfl⟩) ?_;(conv=>whnf);refine⟨by ((conv=>whnf);first|rfl|(simp[ak,au,eY,bJ,bT,aG];done)|(simp[ak,au,eY,bJ,bT,aG];rw[IntKind.wrap_i64];omega)),?_⟩;rintro f ⟨hf,hqf,hfr⟩;have htf:=rZ (show f+1<=62 by omega);have hpf:=AY f;have hk1:((f:Nat):Int)+1=((f+1:Nat):Int):=oA;have htop:=yO (f+1) oA;rw[<- hk1] at htop;have hsh:((f:Nat):Int)=(f:Int)/\f<=62:=⟨rfl,oA⟩;have hpre:=prefix_at q bits (bits - f) oA oA oA (q:Int) (bits:Int) ((bits:Int) - f) rfl rfl oA;(conv=>whnf)
   repeat' (first|((first|refine FQ ⟨rfl,oA⟩ ⟨rfl,oA⟩ ?_|with_reducible_and_instances refine FP aS ?_);conv=>whnf)|refine Ok.seq ?_|((first|refine Ok.region tok ?_|refine Ok.cond ?_);conv=>whnf)|refine Ok.block ?_|((first|refine Ok.skip ?_|refine Ok.exit ?_|refine nI ?_);conv=>whnf)|(refine Or.inl ?_;(conv=>whnf);(repeat (refine aI ?_;conv=>whnf));refine⟨_,htop,rfl,?_⟩;conv=>whnf)|(refine Or.inl ?_;(conv=>whnf);(repeat (refine aI ?_;conv=>whnf));refine⟨_,hpre,rfl,?_⟩;conv=>whnf)|((first|refine bU.l (aI ?_)|refine⟨_,.inl ⟨rfl,rfl⟩,?_⟩|refine⟨_,_,rfl,rfl,?_⟩);conv=>whnf)|(refine bI ?_ ?_<;>intro<;>first|omega|conv=>whnf)|(refine aJ ?_;conv=>whnf)|fail)
   all_goals first
    | omega
    | skip
   . refine⟨f+1,oA,⟨oA,oA,?_⟩,?_⟩
     . rw[hfr,show bits - f=(bits - (f+1))+1 by omega,Xx ⟨oA,oA,oA⟩]
     . (conv=>whnf)
       rfl
   all_goals
    have hfr2:iZ bits q H bits 0=f:=by rw[hfr];exact Xy _ oA
    have hst2:eu bits H q=lS q bits (bits - f) :: eu bits H (q+tw f):=by rw[hst,hfr2];rfl
    refine⟨(q+tw f,l++[lS q bits (bits - f)]),by dsimp only;omega,⟨by dsimp only;omega,by dsimp only;rw[hcov,hst2];simp⟩,?_⟩;(conv=>whnf);simp[ak]
 . have:eu bits H q=[]:=yt oA
   rw[this,List.append_nil] at hcov;(try (conv=>whnf));repeat' (first|refine Ok.seq ?_|((first|refine Ok.region tok ?_|refine Ok.cond ?_|refine Ok.exit ?_|refine Ok.ret ?_);conv=>whnf)|(refine bI ?_ ?_<;>intro<;>first|omega|conv=>whnf)|fail)
   all_goals first
    | omega
    | (refine Or.inr (Or.inl ?_);(conv=>whnf)
       exact⟨by rw[hcov];rfl,by rw[hcov]⟩)
end Go.Proofs.YtnlingegeangmaaGreatDoor
namespace Go.Proofs.YtnlingegeangmaaGreatDoor
open Go Go.Vx Go.Shelf
theorem Iq(p:UInt8->Bool):∀ l:Str,l.dropWhile p=[] ↔ ∀ b ∈ l,p b=true
 | []=>by simp
 | a :: l=>by
  rw[List.dropWhile_cons];split
  . rename_i h
    rw[Iq p l];simp[h]
  . rename_i h
    simp[h]
theorem NV(p:UInt8->Bool):∀ l:Str,l.dropWhile p ≠ []->∃ b ∈ l.dropWhile p,p b ≠ true
 | [],h=>absurd rfl h
 | a :: l,h=>by
  rw[List.dropWhile_cons] at h ⊢;split
  . rename_i hp
    rw[if_pos hp] at h;exact NV p l h
  . rename_i hp
    exact⟨a,sI,hp⟩
theorem OV(p:UInt8->Bool):∀ (l:Str) (x:UInt8),x ∈ l.dropWhile p->x ∈ l
 | [],x,h=>h
 | a :: l,x,h=>by
  rw[List.dropWhile_cons] at h;split at h
  . exact List.mem_cons_of_mem _ (OV p l x h)
  . exact h
theorem YP(l cs:Str):Lib.trimS l cs=[] ↔ ∀ b ∈ l,cs.contains b=true:=by
 unfold Lib.trimS Lib.trimLeftS Lib.trimRightS;rw[Iq];constructor
 . intro h
   by_cases hd:l.reverse.dropWhile (fun b=>cs.contains b)=[]
   . intro b hb
     exact (Iq _ _).1 hd b (by simpa using hb)
   . obtain⟨b,hb,hn⟩:=NV _ _ hd
     exact absurd (h b (by simpa using hb)) hn
 . intro h x hx
   have h1:=OV (fun b=>cs.contains b) l.reverse x (List.mem_reverse.1 hx);exact h x (List.mem_reverse.1 h1)
structure pU(t:Tst):Prop where
 a:1<=t.op/\t.op<=6/\1<=t.form/\t.form<=4/\(t.op<=2\/t.form=1)/\(t.form=4->t.lo=0/\t.hi=0/\t.len=0)/\(t.form=1\/t.form=2->t.hi=0)/\(t.form=1\/t.form=3->t.len=0)
 p:t.form ≠ 4->t.pat=[]
def nO(t:Tst)(b:Nat):Prop:=0<=t.lo/\t.lo<=(tw b:Int) - 1/\0<=t.hi/\t.hi<=(tw b:Int) - 1/\0<=t.len/\t.len<=b
def y9(s:Str)(b:Nat):Prop:=s.length=b/\mM s
open Classical in
noncomputable def jH(t:Tst)(b:Nat):Int:=
 if ¬ pU t then 47 else if ¬ nO t b then 42 else if t.form=2/\t.lo.toNat % tw (b - t.len.toNat) ≠ 0 then 42 else if t.form=3/\t.hi<t.lo then 43 else if t.form=4/\¬ y9 t.pat b then 44 else 0
theorem OW{t:Tst}{b:Nat}(h:¬ pU t):jH t b=47:=by unfold jH;rw[if_pos h]
theorem Qh{t:Tst}{b:Nat}(h:pU t)(h2:¬ nO t b):jH t b=42:=by unfold jH;rw[if_neg (fun x=>x h),if_pos h2]
theorem Qi{t:Tst}{b:Nat}(h:pU t)(h2:nO t b)(h3:t.form=2/\t.lo.toNat % tw (b - t.len.toNat) ≠ 0):jH t b=42:=by unfold jH;rw[if_neg (fun x=>x h),if_neg (fun x=>x h2),if_pos h3]
theorem Qj{t:Tst}{b:Nat}(h:pU t)(h2:nO t b)(h3:¬ (t.form=2/\t.lo.toNat % tw (b - t.len.toNat) ≠ 0))(h4:t.form=3/\t.hi<t.lo):jH t b=43:=by unfold jH;rw[if_neg (fun x=>x h),if_neg (fun x=>x h2),if_neg h3,if_pos h4]
theorem Qk{t:Tst}{b:Nat}(h:pU t)(h2:nO t b)(h3:¬ (t.form=2/\t.lo.toNat % tw (b - t.len.toNat) ≠ 0))(h4:¬ (t.form=3/\t.hi<t.lo))(h5:t.form=4/\¬ y9 t.pat b):jH t b=44:=by unfold jH;rw[if_neg (fun x=>x h),if_neg (fun x=>x h2),if_neg h3,if_neg h4,if_pos h5]
theorem EM{t:Tst}{b:Nat}(h:pU t)(h2:nO t b)(h3:¬ (t.form=2/\t.lo.toNat % tw (b - t.len.toNat) ≠ 0))(h4:¬ (t.form=3/\t.hi<t.lo))(h5:¬ (t.form=4/\¬ y9 t.pat b)):jH t b=0:=by unfold jH;rw[if_neg (fun x=>x h),if_neg (fun x=>x h2),if_neg h3,if_neg h4,if_neg h5]
theorem YQ(s:Str):Lib.trimS s [48,49,120]=[] ↔ mM s:=by
 rw[YP];unfold mM;constructor
 . intro h b hb
   have:=h b hb;simpa using this
 . intro h b hb
   have:=h b hb;simpa using this
theorem aan(s:Str)(h:s.length<=9223372036854775807):aF Tryz.prog T 241 [.s s,.s [48,49,120]] (fun d _=>d = .s (Lib.trimS s [48,49,120])):=
 aal Tryz.vxTrim kR Tryz.call241 s [48,49,120] h dC dC
@[reducible] def tcl(f:Str)(op form lo hi len:Int)(pat:Str):List D:=[.s f,.i .i64 op,.i .i64 form,.i .i64 lo,.i .i64 hi,.i .i64 len,.s pat]
theorem Tn(f:Str)(op form lo hi len:Int)(pat:Str)(b:Nat)(h1b:1<=b)(hb:b<=32)(hs:pat.length<=1000000000000):aF Tryz.prog T 217 [.agg (tcl f op form lo hi len pat),.i .i64 (b:Nat)] (fun d _=>d = .i .i64 (jH ⟨f,op,form,lo,hi,len,pat⟩ b)):=by
 have htb:=rZ (show b<=62 by omega);have htop:=yO b oA;have TW:=aan pat oA;refine aF.aB tok Tryz.func217 rfl Tryz.call217 sI ?_;by_cases hF:pU ⟨f,op,form,lo,hi,len,pat⟩
 . obtain⟨hA,hP⟩:=id hF
   dsimp only at hA hP;have h4:form=1\/form=2\/form=3\/form=4:=oA;by_cases hV:nO ⟨f,op,form,lo,hi,len,pat⟩ b
   . have hV2:=hV
     unfold nO at hV2;dsimp only at hV2;obtain⟨vl,rfl⟩:∃ v:Nat,lo=v:=⟨lo.toNat,oA⟩;obtain⟨vh,rfl⟩:∃ v:Nat,hi=v:=⟨hi.toNat,oA⟩;obtain⟨vn,rfl⟩:∃ v:Nat,len=v:=⟨len.toNat,oA⟩;rcases h4 with rfl|rfl|rfl|rfl
     . have hp:=hP dC
       subst hp;rw[EM hF hV sI sI sI];(try (conv=>whnf));repeat' (first|refine Ok.seq ?_|((first|refine Ok.region tok ?_|refine Ok.bH tok follows kR ?_|refine Ok.cond ?_|refine Ok.skip ?_|refine Ok.ret ?_|refine⟨_,aS,?_⟩);conv=>whnf)|(refine bI ?_ ?_<;>intro<;>first|omega|conv=>whnf)|((first|refine aJ ?_|refine⟨_,rfl,?_⟩);conv=>whnf)|fail)
       all_goals first
        | omega
        | (rename_i h;exact absurd rfl h)
        | (refine Or.inl ?_;(conv=>whnf)
           rfl)
     . have hp:=hP dC
       subst hp;have abZ:=yO (b - vn) oA;rw[show ((b - vn:Nat):Int)=(b:Int) - (vn:Int) by omega] at abZ;by_cases hm:vl % tw (b - vn)=0
       . rw[EM hF hV (by simpa using hm) sI sI]
         (try (conv=>whnf));repeat' (first|(refine FQ ⟨rfl,oA⟩ ⟨rfl,oA⟩ ?_;conv=>whnf)|refine Ok.seq ?_|((first|refine Ok.region tok ?_|refine Ok.bH tok follows kR ?_|refine Ok.cond ?_|refine Ok.skip ?_|refine Ok.ret ?_|refine nI ?_|refine⟨_,aS,?_⟩);conv=>whnf)|(refine bI ?_ ?_<;>intro<;>first|omega|conv=>whnf)|((first|refine aJ ?_|refine⟨_,rfl,?_⟩);conv=>whnf)|fail)
         all_goals first
          | omega
          | (rename_i h;exact absurd rfl h)
          | (refine Or.inl ?_;(conv=>whnf)
             rfl)
       . rw[Qi hF hV ⟨rfl,by simpa using hm⟩]
         (try (conv=>whnf));repeat' (first|(refine FQ ⟨rfl,oA⟩ ⟨rfl,oA⟩ ?_;conv=>whnf)|refine Ok.seq ?_|((first|refine Ok.region tok ?_|refine Ok.bH tok follows kR ?_|refine Ok.cond ?_|refine Ok.skip ?_|refine Ok.ret ?_|refine nI ?_|refine⟨_,aS,?_⟩);conv=>whnf)|(refine bI ?_ ?_<;>intro<;>first|omega|conv=>whnf)|((first|refine aJ ?_|refine⟨_,rfl,?_⟩);conv=>whnf)|fail)
         all_goals first
          | omega
          | (rename_i h;exact absurd rfl h)
          | (refine Or.inl ?_;(conv=>whnf)
             rfl)
     . have hp:=hP dC
       subst hp;by_cases hr:(vh:Int)<vl
       . rw[Qj hF hV sI ⟨rfl,hr⟩]
         (try (conv=>whnf));repeat' (first|refine Ok.seq ?_|((first|refine Ok.region tok ?_|refine Ok.bH tok follows kR ?_|refine Ok.cond ?_|refine Ok.skip ?_|refine Ok.ret ?_|refine⟨_,aS,?_⟩);conv=>whnf)|(refine bI ?_ ?_<;>intro<;>first|omega|conv=>whnf)|((first|refine aJ ?_|refine⟨_,rfl,?_⟩);conv=>whnf)|fail)
         all_goals first
          | omega
          | (rename_i h;exact absurd rfl h)
          | (refine Or.inl ?_;(conv=>whnf)
             rfl)
       . rw[EM hF hV sI (fun h=>hr h.2) sI]
         (try (conv=>whnf));repeat' (first|refine Ok.seq ?_|((first|refine Ok.region tok ?_|refine Ok.bH tok follows kR ?_|refine Ok.cond ?_|refine Ok.skip ?_|refine Ok.ret ?_|refine⟨_,aS,?_⟩);conv=>whnf)|(refine bI ?_ ?_<;>intro<;>first|omega|conv=>whnf)|((first|refine aJ ?_|refine⟨_,rfl,?_⟩);conv=>whnf)|fail)
         all_goals first
          | omega
          | (rename_i h;exact absurd rfl h)
          | (refine Or.inl ?_;(conv=>whnf)
             rfl)
     . have htd:=YQ pat
       by_cases hd:y9 pat b
       . rw[EM hF hV sI sI (fun h=>h.2 hd)]
         have hd2:=hd;obtain⟨hd1,hdc⟩:=hd2;(try (conv=>whnf));repeat' (first|refine Ok.seq ?_|((first|refine Ok.region tok ?_|refine Ok.bH tok follows kR ?_|refine Ok.cond ?_|refine Ok.skip ?_|refine Ok.ret ?_|refine⟨_,aS,?_⟩);conv=>whnf)|(refine Or.inl ?_;(conv=>whnf);(repeat (refine aI ?_;conv=>whnf));refine⟨_,TW,rfl,?_⟩;conv=>whnf)|(refine bI ?_ ?_<;>intro<;>first|omega|conv=>whnf)|((first|refine aJ ?_|refine⟨_,rfl,?_⟩);conv=>whnf)|fail)
         all_goals first
          | omega
          | (rename_i h;exact absurd (htd.2 hdc) h)
          | (refine Or.inl ?_;(conv=>whnf)
             rfl)
       . rw[Qk hF hV sI sI ⟨rfl,hd⟩]
         (try (conv=>whnf));repeat' (first|refine Ok.seq ?_|((first|refine Ok.region tok ?_|refine Ok.bH tok follows kR ?_|refine Ok.cond ?_|refine Ok.skip ?_|refine Ok.ret ?_|refine⟨_,aS,?_⟩);conv=>whnf)|(refine Or.inl ?_;(conv=>whnf);(repeat (refine aI ?_;conv=>whnf));refine⟨_,TW,rfl,?_⟩;conv=>whnf)|(refine bI ?_ ?_<;>intro<;>first|omega|conv=>whnf)|((first|refine aJ ?_|refine⟨_,rfl,?_⟩);conv=>whnf)|fail)
         all_goals first
          | omega
          | (refine Or.inl ?_;(conv=>whnf)
             rfl)
          | (rename_i h1 h2;exact absurd ⟨oA,htd.1 (by simpa using h2)⟩ hd)
   . have hV2:=hV
     unfold nO at hV2;dsimp only at hV2;rw[Qh hF hV];rcases h4 with rfl|rfl|rfl|rfl
     all_goals
      (try (conv=>whnf));repeat' (first|refine Ok.seq ?_|((first|refine Ok.region tok ?_|refine Ok.bH tok follows kR ?_|refine Ok.cond ?_|refine Ok.skip ?_|refine Ok.ret ?_|refine⟨_,aS,?_⟩);conv=>whnf)|(refine bI ?_ ?_<;>intro<;>first|omega|conv=>whnf)|((first|refine aJ ?_|refine⟨_,rfl,?_⟩);conv=>whnf)|fail)
     all_goals first
      | omega
      | (rename_i h;exact absurd (hP dC) h)
      | (refine Or.inl ?_;(conv=>whnf)
         rfl)
 . rw[OW hF]
   by_cases hf4:1<=form/\form<=4
   . by_cases hp:form ≠ 4->pat=[]
     . have hA:¬ (1<=op/\op<=6/\1<=form/\form<=4/\(op<=2\/form=1)/\(form=4->lo=0/\hi=0/\len=0)/\(form=1\/form=2->hi=0)/\(form=1\/form=3->len=0)):=fun h=>hF ⟨h,hp⟩
       have h4:form=1\/form=2\/form=3\/form=4:=oA;rcases h4 with rfl|rfl|rfl|rfl
       all_goals
        (try (conv=>whnf));repeat' (first|refine Ok.seq ?_|((first|refine Ok.region tok ?_|refine Ok.cond ?_|refine Ok.skip ?_|refine Ok.ret ?_);conv=>whnf)|(refine bI ?_ ?_<;>intro<;>first|omega|conv=>whnf)|((first|refine aJ ?_|refine⟨_,rfl,?_⟩);conv=>whnf)|fail)
       all_goals first
        | omega
        | (rename_i h;exact absurd (hp dC) h)
        | (refine Or.inl ?_;(conv=>whnf)
           rfl)
     . have h4:form=1\/form=2\/form=3:=oA
       have hpn:pat ≠ []:=fun e=>hp fun _=>e
       rcases h4 with rfl|rfl|rfl
       all_goals
        (try (conv=>whnf));repeat' (first|refine Ok.seq ?_|((first|refine Ok.region tok ?_|refine Ok.bH tok follows kR ?_|refine Ok.cond ?_|refine Ok.skip ?_|refine Ok.ret ?_|refine nI ?_|refine⟨_,aS,?_⟩);conv=>whnf)|(refine bI ?_ ?_<;>intro<;>first|omega|conv=>whnf)|((first|refine aJ ?_|refine⟨_,rfl,?_⟩);conv=>whnf)|fail)
       all_goals first
        | omega
        | (refine Or.inl ?_;(conv=>whnf)
           rfl)
        | (rename_i h;exact absurd (by simpa using h) hpn)
        | exact absurd (Classical.not_not.1 aS) hpn
        | (refine absurd ?_ hpn;rename_i h1 h2;simpa using h1)
        | (refine absurd ?_ hpn;rename_i h1 h2 h3;simpa using h1)
        | (refine absurd ?_ hpn;rename_i h1 h2 h3 h4;simpa using h1)
        | (refine absurd ?_ hpn;rename_i h1 h2 h3 h4 h5;simpa using h1)
   . (try (conv=>whnf));repeat' (first|refine Ok.seq ?_|((first|refine Ok.region tok ?_|refine Ok.cond ?_|refine Ok.ret ?_);conv=>whnf)|(refine bI ?_ ?_<;>intro<;>first|omega|conv=>whnf)|fail)
     all_goals first
      | omega
      | (refine Or.inl ?_;(conv=>whnf)
         rfl)
end Go.Proofs.YtnlingegeangmaaGreatDoor
namespace Go.Proofs.YtnlingegeangmaaGreatDoor
open Go Go.Vx Go.Shelf
open Classical in
/-- The error of a test over a layout. -/
noncomputable def zo(l:List Fd)(t:Tst):Int:=if cO t.f l 0<0 then 41 else match l[(cO t.f l 0).toNat]? with|some c=>jH t c.bits.toNat|none=>0
theorem OX{l:List Fd}{t:Tst}(h:cO t.f l 0=-1):zo l t=41:=by unfold zo;rw[if_pos oA]
theorem OY{l:List Fd}{t:Tst}{k:Nat}{c:Fd}(h:cO t.f l 0=(k:Nat))(hc:l[k]? = some c):zo l t=jH t c.bits.toNat:=by
 unfold zo;rw[if_neg oA,h,Int.toNat_natCast,hc]
theorem NW(nm:Str)(l:List Fd):cO nm l 0=-1\/∃ (k:Nat) (c:Fd),cO nm l 0=(k:Nat)/\l[k]? = some c:=by
 obtain⟨_,h1,h2⟩:=Ae nm l 0;by_cases h:cO nm l 0<0
 . exact .inl oA
 . exact .inr ⟨(cO nm l 0).toNat,l[(cO nm l 0).toNat]'oA,oA,aC _⟩
end Go.Proofs.YtnlingegeangmaaGreatDoor
namespace Go.Vx
open Go.RowKit
variable {P : Program} {T : Tab} {s : St}
theorem aF.mono{f:FuncId}{ds:List D}{R R':D->Rows->Prop}(h:aF P T f ds R)(hR:∀ d rows,R d rows->R' d rows):aF P T f ds R':=
 ⟨h.1,fun V w args a b c=>(h.2 V w args a b c).mono fun e w' ⟨V',ω,row,v,d,h1,h2,h3⟩=>⟨V',ω,row,v,d,h1,hR _ _ h2,h3⟩⟩
end Go.Vx
namespace Go.Vx
open Go.RowKit
variable {P : Program} {T : Tab}
inductive Pk(box:List (List D)):D->D->Prop
 | i (k n):Pk box (.i k n) (.i k n)
 | s (l):Pk box (.s l) (.s l)
 | bp (i off cs) (h:box[i]? = some cs) (hg:∀ d ∈ cs.drop off,∃ k n,d = .i k n):Pk box (.bp i off) (.ep (cs.drop off))
theorem RS.Uw{sz:TypeId->Nat}{V V':Vw}{μ:List Nat}{ω:List Value}{v:Value}{k:IntKind}{n:Int}(h:RS sz V μ ω v (.i k n)):RI sz V' v (.i k n)/\v.oneCell'=true:=by
 cases h with
 | imm _ _ h=>cases h;exact⟨.i _ _,rfl⟩
theorem bW.peek{s:St}{f:FuncId}{ds es:List D}{K:D->St->Prop}{R:D->Rows->Prop}(hl:es.length=ds.length)(hp:∀ (j:Nat) d e,ds[j]? = some d->es[j]? = some e->Pk s.box d e)(hf:aF P T f es R)
    (h:∀ d rows,R d rows->iy rows/\jC d.vT (match s with
     | ⟨env,box,row,n⟩=>uq row.length d fun d=>nU row rows fun row=>K d ⟨env,box,row,n⟩)):bW P T s f ds K:=by
 refine⟨hf.call,fun w0 V0 V μ ω a w vs hS hvl hvR=>?_⟩;have hri:∀ (j:Nat) v e,vs[j]? = some v->es[j]? = some e->RI (ah T) (fD w) v e:=by
  intro j v e h1 h2;have hj:j<ds.length:=by rw[<- hl];exact (aK.1 h2).1
  have h3:=aC hj;have hr:=hvR j v _ h1 h3;generalize ds[j]=d0 at h3 hr
  cases hp j _ e h3 h2 with
  | i k n=>exact hr.Uw.1
  | s l=>cases hr with
   | imm _ _ hr=>cases hr;exact .s _
  | bp i off cs hb hg=>
   obtain⟨g,rfl,hμ⟩:∃ g,v = .pointer (some ⟨g,off,none⟩)/\μ[i]? = some g:=by
    cases hr with
    | imm _ _ hr=>cases hr
    | bp _ _ g h=>exact⟨g,rfl,h⟩
   obtain⟨us,t,hu,hs,ho,hR',_⟩:=hS.mem.hbox i g cs hμ hb;have key:∀ (j:Nat) d,(cs.drop off)[j]? = some d->∃ hj:off+j<us.size,RI (ah T) (fD w) us[off+j] d/\us[off+j].oneCell'=true:=by
    intro j d hj;have hj2:cs[off+j]? = some d:=by rw[List.getElem?_drop] at hj;exact hj
    have hlt:off+j<us.size:=by rw[hs];exact (aK.1 hj2).1
    obtain⟨k,n,rfl⟩:=hg d (aU hj);exact⟨hlt,(hR' (off+j) us[off+j] _ (by simp[hlt]) hj2).Uw⟩
   refine .ep _ ⟨g,off,none⟩ (fun j=>us.getD (off+j) undef) (fun j d hj=>?_) (fun j d hj=>?_)
   . obtain⟨hlt,h1,h2⟩:=key j d hj
     have hgd:us.getD (off+j) undef=us[off+j]:=by simp[Array.getD,hlt]
     rw[hgd];refine⟨?_,h2⟩;have ha:(⟨g,off,none⟩:Addr).add j=⟨g,off+j,none⟩:=by cases j<;>simp[Addr.add]
     show w.cell? _=_;rw[ha];simp[World.cell?,hu,hlt]
   . obtain⟨hlt,h1,h2⟩:=key j d hj
     have hgd:us.getD (off+j) undef=us[off+j]:=by simp[Array.getD,hlt]
     rw[hgd];exact h1
 have eH:=hf.run (fD w) w vs.toArray (.heap hS.mem.vok.gl (Ext.refl w)) (by simp[hl,hvl]) (fun j v d h1 h2=>hri j v d (by simpa using h1) h2);refine eH.mono ?_;rintro e w'' ⟨V',ω0,row0,v,d,rfl,hR,hrs,hres⟩;obtain⟨hg,hk⟩:=h d row0 hR;obtain⟨hd,hk⟩:=jv.1 hk;have hres2:=hres.less hS.mem.vok hg;have BZ:=hrs.vT (V':=fun p=>if p.block<w.heap.size then V p else V' p) hd;obtain⟨env,box,row,n⟩:=s;have hM:=hS.mem.call hres2;have hl:row.length=ω.length:=hS.mem.rl.symm;dsimp only at hk;rw[hl] at hk;obtain⟨d',hk,hr⟩:=sJ (μ:=μ) (ω':=ω++ω0) (VLe.refl _) (fun r u hu=>by rw[List.getElem?_append_right oA,Nat.add_sub_cancel];exact hu) BZ hk;rw[oz] at hk;exact⟨v,d',_,_,μ,ω++ω0,rfl,hk,hr,⟨hS.tmps,hS.defers.ext hres2.below,fun t=>(hS.env t).mono hres2.le (.refl μ) (.append _ _),hM⟩,hres2.le,.refl _,.append _ _,fun q v hq=>by rw[hres2.below.cell (World.block_lt_of_cell? _ _ hq)];exact hq⟩
end Go.Vx
namespace Go.Vx
open Go.RowKit
section
variable {P : Program} {T : Tab} {G : FuncId → Prop} {Q : Exit → St → Prop} {s : St}
def Gp(box:List (List D))(d:D)(K:D->Prop):Prop:=
 match d with
 | .bp i off=>match box[i]? with|some cs=>gX (cs.drop off) fun cs=>K (.ep cs)|none=>K .u
 | .own ..=>K .u
 | .op ..=>K .u
 | .agg cs=>match uJ cs with|true=>K (.agg cs)|false=>K .u
 | .tup _=>K .u
 | .fnh ..=>K .u
 | .osl ..=>K .u
 | .tie ..=>K .u
 | d=>d.force K
def pbL(box:List (List D)):List D->(List D->Prop)->Prop
 | [],K=>K []
 | d :: r,K=>Gp box d fun d=>pbL box r fun r=>K (d :: r)
def pbD(box:List (List D))(d:D)(K:D->Prop):Prop:=
 match d with
 | .fnh f x y=>pbL box x fun x=>pbL box y fun y=>K (.fn f x y)
 | d=>Gp box d K
def pbE(box:List (List D)):List (Nat × D)->(List (Nat × D)->Prop)->Prop
 | [],K=>K []
 | (t,d) :: r,K=>pbD box d fun d=>pbE box r fun r=>K ((t,d) :: r)
def uH:List (List D)->Bool|[]=>true|c :: r=>uJ c && uH r
theorem Ql:∀ {l:List (List D)},uH l=true->∀ (i:Nat) c,l[i]? = some c->uJ c=true
 | [],_,i,c,h=>by simp at h
 | x :: l,hf,i,c,h=>by
  simp only[uH,Bool.and_eq_true] at hf
  cases i with
  | zero=>simp at h;subst h;exact hf.1
  | succ i=>exact Ql hf.2 i c (by simpa using h)
section
variable {sz : TypeId → Nat} {w0 w : World} {V0 : Fr} {V V' : Vw} {μ : List Nat} {ω : List Value} {box : List (List D)} {row : Rows} {a : Act}
theorem RS.acy{v:Value}{f:FuncId}{x y:List D}(h:RS sz V μ ω v (.fnh f x y)):∃ vs us:Array Value,v = .func (.func f) vs us/\vs.size=x.length/\us.size=y.length/\(∀ (j:Nat) v d,vs[j]? = some v->x[j]? = some d->RS sz V μ ω v d) /\
    ∀ (j:Nat) v d,us[j]? = some v->y[j]? = some d->RS sz V μ ω v d:=by
 cases h with
 | imm _ _ h=>cases h
 | fnh f x y vs us h1 h2 hR1 hR2=>exact⟨vs,us,rfl,h1,h2,hR1,hR2⟩
theorem NY(hM:Mem sz w0 V0 V μ ω box row w)(hi:uH box=true)(hV:VLe V V')(hp:∀ (i g:Nat) (off:Nat) v,μ[i]? = some g->w.cell? ⟨g,off,none⟩=some v->V' ⟨g,off,none⟩=some v){d:D}{K:D->Prop}(h:Gp box d K) :
    ∃ d',K d'/\∀ v,RS sz V μ ω v d->RI sz V' v d':=by
 unfold Gp at h;split at h
 . rename_i i off
   split at h
   . rename_i cs hcs
     rw[iQ] at h;refine⟨_,h,fun v hv=>?_⟩;obtain⟨g,hg,rfl⟩:=hv.bp_;obtain⟨vs,t,hh,hs,ho,hR,_⟩:=hM.hbox i g cs hg hcs;refine .ep _ _ (fun j=>vs.getD (off+j) undef) (fun j d hd=>?_) fun j d hd=>?_
     . rw[List.getElem?_drop] at hd
       have hlt:off+j<vs.size:=by rw[hs];exact (aK.1 hd).1
       have hvj:vs[off+j]? = some vs[off+j]:=Array.getElem?_eq_getElem hlt;have hadd:(⟨g,off,none⟩:Addr).add j=⟨g,off+j,none⟩:=by unfold Addr.add;split<;>simp_all
       rw[hadd];have hcell:w.cell? ⟨g,off+j,none⟩=some vs[off+j]:=by rw[cell_of_row w g (off+j) vs t (0,0) hh,hvj]
       refine⟨?_,?_⟩
       . rw[hp i g _ _ hg hcell]
         simp[Array.getD,hlt]
       . rw[show vs.getD (off+j) undef=vs[off+j] by simp[Array.getD,hlt]]
         exact ho _ sI
     . rw[List.getElem?_drop] at hd
       have hlt:off+j<vs.size:=by rw[hs];exact (aK.1 hd).1
       rw[show vs.getD (off+j) undef=vs[off+j] by simp[Array.getD,hlt]];exact (Ak (hR _ _ d (Array.getElem?_eq_getElem hlt) hd) (En (Ql hi i cs hcs) _ d hd)).mono hV
   . exact⟨_,h,fun v _=>.u v⟩
 . exact⟨_,h,fun v _=>.u v⟩
 . exact⟨_,h,fun v _=>.u v⟩
 . split at h
   . rename_i cs hc
     exact⟨_,h,fun v hv=>(Eo hv hc).mono hV⟩
   . exact⟨_,h,fun v _=>.u v⟩
 . exact⟨_,h,fun v _=>.u v⟩
 . exact⟨_,h,fun v _=>.u v⟩
 . exact⟨_,h,fun v _=>.u v⟩
 . exact⟨_,h,fun v _=>.u v⟩
 . rename_i h1 h2 h3 h4 h5 h6 h7 h8
   rw[D.force_eq] at h;refine⟨d,h,fun v hv=>(Ak hv ?_).mono hV⟩;cases d<;>first|rfl|(exfalso;first|exact h1 _ _ rfl|exact h2 _ _ rfl|exact h3 _ _ _ _ rfl|exact h4 _ rfl|exact h5 _ rfl|exact h6 _ _ _ rfl|exact h7 _ _ _ _ rfl|exact h8 _ _ _ _ rfl)
theorem Ir(hM:Mem sz w0 V0 V μ ω box row w)(hi:uH box=true)(hV:VLe V V')(hp:∀ (i g:Nat) (off:Nat) v,μ[i]? = some g->w.cell? ⟨g,off,none⟩=some v->V' ⟨g,off,none⟩=some v):∀ {l:List D} {K:List D->Prop},pbL box l K ->
    ∃ l',K l'/\l'.length=l.length/\∀ (j:Nat) d d' v,l[j]? = some d->l'[j]? = some d'->RS sz V μ ω v d->RI sz V' v d'
 | [],K,h=>⟨[],h,rfl,fun j d d' v h1=>by simp at h1⟩
 | d :: l,K,h=>by
  simp only[pbL] at h;obtain⟨d',h,hd⟩:=NY hM hi hV hp h;obtain⟨l',h,hl,hr⟩:=Ir hM hi hV hp h;refine⟨d' :: l',h,by simp[hl],fun j e e' v h1 h2 hv=>?_⟩
  cases j with
  | zero=>simp at h1 h2;subst h1 h2;exact hd v hv
  | succ j=>exact hr j e e' v (by simpa using h1) (by simpa using h2) hv
theorem Xz(hM:Mem sz w0 V0 V μ ω box row w)(hi:uH box=true)(hV:VLe V V')(hp:∀ (i g:Nat) (off:Nat) v,μ[i]? = some g->w.cell? ⟨g,off,none⟩=some v->V' ⟨g,off,none⟩=some v){d:D}{K:D->Prop}(h:pbD box d K) :
    ∃ d',K d'/\∀ v,RS sz V μ ω v d->RI sz V' v d':=by
 unfold pbD at h;split at h
 . obtain⟨x',h,hx,hxr⟩:=Ir hM hi hV hp h
   obtain⟨y',h,hy,hyr⟩:=Ir hM hi hV hp h;refine⟨_,h,fun v hv=>?_⟩;obtain⟨vs,us,rfl,h1,h2,hR1,hR2⟩:=hv.acy;refine .fn _ _ _ vs us (by rw[h1,hx]) (by rw[h2,hy]) (fun j v d' a b=>?_) fun j v d' a b=>?_
   . obtain⟨hlt,_⟩:=Array.getElem?_eq_some_iff.1 a
     have:=aC (show j<_ by rw[<- h1];exact hlt);exact hxr j _ d' v this b (hR1 j v _ a this)
   . obtain⟨hlt,_⟩:=Array.getElem?_eq_some_iff.1 a
     have:=aC (show j<_ by rw[<- h2];exact hlt);exact hyr j _ d' v this b (hR2 j v _ a this)
 . exact NY hM hi hV hp h
theorem OZ{n:Nat}(hM:Mem sz w0 V0 V μ ω box row w)(hi:uH box=true)(hV:VLe V V')(hp:∀ (i g:Nat) (off:Nat) v,μ[i]? = some g->w.cell? ⟨g,off,none⟩=some v->V' ⟨g,off,none⟩=some v):∀ {env:List (Nat × D)} {K:List (Nat × D)->Prop},pbE box env K ->
    ∃ env',K env'/\∀ t v,RS sz V μ ω v (look env t)->RI sz V' v (look env' t)
 | [],K,h=>⟨[],h,fun t v _=>.u v⟩
 | (k,d) :: env,K,h=>by
  simp only[pbE] at h;obtain⟨d',h,hd⟩:=Xz hM hi hV hp h;obtain⟨env',h,he⟩:=OZ (n:=n) hM hi hV hp h;refine⟨(k,d') :: env',h,fun t v hv=>?_⟩;unfold look at hv ⊢
  cases hb:Nat.beq k t with
  | true=>rw[hb] at hv;exact hd v hv
  | false=>rw[hb] at hv;exact he t v hv
end
end
end Go.Vx
namespace Go.Vx
open Go.RowKit
section
variable {P : Program} {T : Tab}
variable {l : Nat} {xs : List (List D)} {n : Nat} {Q : Exit → Option Nat → List (Nat × D) → Prop} {g : Option Nat} {env : List (Nat × D)}
theorem mV.of{s:St}{f:FuncId}{ds:List D}{K:D->St->Prop}(h:bW P T s f ds K):mV P T s f ds K:=
 ⟨h.call,fun w0 V0 V μ ω a w vs hS hl hR=>(h.run w0 V0 V μ ω a w vs hS hl hR).mono fun _ _ ⟨v,d,s',V',μ',ω',h1,h2,h3,h4,_⟩=>⟨v,d,s',V',μ',ω',h1,h2,h3,h4⟩⟩
end
end Go.Vx
namespace Go.Proofs.YtnlingegeangmaaGreatDoor
open Go Go.Vx
def ov1(a b:UInt8):UInt8:=if a=120 then b else a
def iM(c d:Str)(i:Nat):Str:=List.zipWith ov1 (c.take i) (d.take i)++c.drop i
def pcT(c d:Str)(j:Nat):Option Str:=
 match c[j]?,d[j]? with
 | some a,some b=>if a=120/\b ≠ 120 then some ((iM c d j).set j (97 - b)) else none
 | _,_=>none
def jV(c d:Str)(i:Nat):List Str:=(List.range i).filterMap (pcT c d)
def pV(c d:Str):List Str:=if (jP c d).isSome then jV c d c.length else [c]
theorem XA{c d:Str}{i:Nat}{x:Str}(h:pcT c d i=some x):jV c d (i+1)=jV c d i++[x]:=by
 unfold jV;rw[List.range_succ,List.filterMap_append];simp[h]
theorem XB{c d:Str}{i:Nat}(h:pcT c d i=none):jV c d (i+1)=jV c d i:=by
 unfold jV;rw[List.range_succ,List.filterMap_append];simp[h]
theorem abp{c d:Str}{j:Nat}{a b:UInt8}(ha:c[j]? = some a)(hb:d[j]? = some b):pcT c d j=if a=120/\b ≠ 120 then some ((iM c d j).set j (97 - b)) else none:=by
 unfold pcT;rw[ha,hb]
theorem Qm{c d:Str}(hl:d.length=c.length)(i:Nat):(iM c d i).length=c.length:=by simp[iM];omega
theorem Rx{c d:Str}{i:Nat}{a:UInt8}(ha:c[i]? = some a)(hd:i<d.length):(iM c d i)[i]? = some a:=by
 have hi:i<c.length:=(aK.1 ha).1;have hl:(List.zipWith ov1 (c.take i) (d.take i)).length=i:=by simp;omega
 unfold iM;rw[List.getElem?_append_right oA,hl,Nat.sub_self,List.getElem?_drop];exact ha
theorem Iu{c d:Str}{i:Nat}{a b:UInt8}(ha:c[i]? = some a)(hb:d[i]? = some b):iM c d (i+1)=(iM c d i).set i (ov1 a b):=by
 have hi:i<c.length:=(aK.1 ha).1;have hi2:i<d.length:=(aK.1 hb).1;have hl:(List.zipWith ov1 (c.take i) (d.take i)).length=i:=by simp;omega
 unfold iM;rw[List.set_append,if_neg oA,hl,Nat.sub_self,List.drop_eq_getElem_cons hi,List.set_cons_zero,take_snoc ha,take_snoc hb];rw[List.zipWith_append sO];simp
theorem Iw(c d:Str):iM c d 0=c:=by simp[iM]
theorem set_self{l:Str}{i:Nat}{a:UInt8}(h:l[i]? = some a):l.set i a=l:=by
 have hi:=(aK.1 h).1;apply List.ext_getElem?;intro k;by_cases hk:k=i
 . subst hk;rw[List.getElem?_set_self hi,h]
 . rw[List.getElem?_set_ne (Ne.symm hk)]
theorem XC{c d:Str}{i:Nat}{a b:UInt8}(ha:c[i]? = some a)(hb:d[i]? = some b)(h:¬ (a=120/\b ≠ 120)):iM c d (i+1)=iM c d i:=by
 rw[Iu ha hb,show ov1 a b=a by
  unfold ov1;split
  . rename_i he
    by_cases hb2:b=120
    . rw[hb2,he]
    . exact absurd ⟨he,hb2⟩ h
  . rfl]
 exact set_self (Rx ha (aK.1 hb).1)
theorem Tq{l:Str}{i:Nat}{b:UInt8}(h:CT l)(hb:b=48\/b=49\/b=120):CT (l.set i b):=by
 refine⟨by rw[List.length_set];exact h.len,fun x hx=>?_⟩;rcases List.mem_or_eq_of_mem_set hx with hx|rfl
 . exact h.cub x hx
 . exact hb
theorem aao{a b:UInt8}(ha:a=48\/a=49\/a=120)(hb:b=48\/b=49\/b=120):ov1 a b=48\/ov1 a b=49\/ov1 a b=120:=by
 unfold ov1;split
 . exact hb
 . exact ha
theorem Ry{c d:Str}(hc:CT c)(hd:CT d)(hl:d.length=c.length)(i:Nat):CT (iM c d i):=by
 induction i with
 | zero=>rw[Iw];exact hc
 | succ i ih=>
  by_cases hi:i<c.length
  . have ha:=aC hi
    have hb:=aC (show i<d.length by omega);rw[Iu ha hb];exact Tq ih (aao (hc.cub _ (aU ha)) (hd.cub _ (aU hb)))
  . rw[show iM c d (i+1)=iM c d i by
      unfold iM;rw[au (show c.length<=i+1 by omega),au (show d.length<=i+1 by omega),au (show c.length<=i by omega),au (show d.length<=i by omega),List.drop_of_length_le (show c.length<=i+1 by omega),List.drop_of_length_le (show c.length<=i by omega)]]
    exact ih
theorem aap{b:UInt8}(hb:b=48\/b=49\/b=120)(h:b ≠ 120):97 - b=48\/97 - b=49\/97 - b=120:=by
 rcases hb with rfl|rfl|rfl
 . right;left;rfl
 . left;rfl
 . exact absurd rfl h
theorem aaq{c d:Str}(hc:CN c)(hd:CT d)(hl:d.length=c.length)(i:Nat):∀ x ∈ jV c d i,CN x/\x.length=c.length:=by
 intro x hx;obtain⟨j,_,hj⟩:=List.mem_filterMap.1 hx;unfold pcT at hj;split at hj
 . rename_i a b ha hb
   split at hj
   . rename_i hab
     cases hj;have h1:=Qm hl j;refine⟨⟨Tq (Ry hc.1 hd hl j) (aap (hd.cub _ (aU hb)) hab.2),fun e=>hc.2 ?_⟩,by rw[List.length_set];exact h1⟩;have:=congrArg List.length e;rw[List.length_set,h1] at this;exact List.eq_nil_of_length_eq_zero (by simpa using this)
   . cases hj
 . cases hj
theorem O1{c d:Str}(hc:CN c)(hd:CT d):∀ x ∈ pV c d,CN x/\x.length=c.length:=by
 intro x hx;unfold pV at hx;split at hx
 . rename_i h
   obtain⟨m,hm⟩:=Option.isSome_iff_exists.1 h;rw[IW hc.2] at hm;have:=yB hm;exact aaq hc hd oA _ x hx
 . simp at hx;subst hx;exact⟨hc,rfl⟩
theorem Qn(c d:Str)(i:Nat):(jV c d i).length<=i:=by
 have:=List.length_filterMap_le (pcT c d) (List.range i);simpa[jV] using this
theorem NZ{c d:Str}(hc:c.length<=256):(pV c d).length<=256:=by
 unfold pV;split
 . exact Nat.le_trans (Qn _ _ _) hc
 . simp
end Go.Proofs.YtnlingegeangmaaGreatDoor
namespace Go.Proofs.YtnlingegeangmaaGreatDoor
open Go Go.Vx
@[reducible] def w4(f:Nat->Bool):List D:=[.i .u64 ((wof f 0).toNat:Int),.i .u64 ((wof f 1).toNat:Int),.i .u64 ((wof f 2).toNat:Int),.i .u64 ((wof f 3).toNat:Int)]
theorem at_one(f:Nat->Bool)(i:Nat)(hi:i<256):aF Tryz.prog T 282 [.ep (w4 f),.i .i64 (i:Int)] (fun d rows=>d = .b (f i=true)/\rows=[]):=by
 refine aF.aB tok Tryz.func282 rfl Tryz.call282 sI ?_;obtain⟨q,r,hqr,hr,hq⟩:=yH i oA;have jq:=BA hqr hr;have jr:=Bz hqr hr oA;have hrr:((r:Nat):Int)=((r:Nat):Int)/\r<64:=⟨rfl,hr⟩;have hca:=EJ (f:=f) hqr hr;rcases hq with rfl|rfl|rfl|rfl
 all_goals
  (try (conv=>whnf));repeat' (first|((with_reducible_and_instances (first|refine xC aS ?_|refine wG rfl ?_));conv=>whnf)|refine Ok.seq ?_|((first|refine Ok.region tok ?_|refine⟨_,(jr.symm).symm,?_⟩|refine⟨_,(jq.symm).symm,?_⟩|refine Ok.ret ?_|refine aJ ?_|refine⟨_,rfl,?_⟩);conv=>whnf)|fail)
  refine Or.inl ?_;(conv=>whnf);exact⟨congrArg D.b (propext hca),rfl⟩
theorem Tt(f g:Nat->Bool)(i:Nat)(hi:i<256):aF Tryz.prog T 282 [.ep (w4 f++w4 g),.i .i64 (i:Int)] (fun d rows=>d = .b (f i=true)/\rows=[]):=by
 refine aF.aB tok Tryz.func282 rfl Tryz.call282 sI ?_;obtain⟨q,r,hqr,hr,hq⟩:=yH i oA;have jq:=BA hqr hr;have jr:=Bz hqr hr oA;have hrr:((r:Nat):Int)=((r:Nat):Int)/\r<64:=⟨rfl,hr⟩;have hca:=EJ (f:=f) hqr hr;rcases hq with rfl|rfl|rfl|rfl
 all_goals
  (try (conv=>whnf));repeat' (first|((with_reducible_and_instances (first|refine xC aS ?_|refine wG rfl ?_));conv=>whnf)|refine Ok.seq ?_|((first|refine Ok.region tok ?_|refine⟨_,(jr.symm).symm,?_⟩|refine⟨_,(jq.symm).symm,?_⟩|refine Ok.ret ?_|refine aJ ?_|refine⟨_,rfl,?_⟩);conv=>whnf)|fail)
  refine Or.inl ?_;(conv=>whnf);exact⟨congrArg D.b (propext hca),rfl⟩
theorem o9(c:Str):∀ d ∈ cZ c,∃ k n,d = .i k n:=by
 intro d hd;simp only[List.mem_cons,List.not_mem_nil,or_false] at hd;rcases hd with rfl|rfl|rfl|rfl|rfl|rfl|rfl|rfl|rfl<;>exact⟨_,_,rfl⟩
theorem pk2{box:List (List D)}{a b x y:D}(h1:Pk box a x)(h2:Pk box b y):∀ (j:Nat) d e,[a,b][j]? = some d->[x,y][j]? = some e->Pk box d e:=by
 intro j d e hd he
 match j,hd,he with
 | 0,hd,he=>cases hd;cases he;exact h1
 | 1,hd,he=>cases hd;cases he;exact h2
 | j+2,hd,_=>simp at hd
end Go.Proofs.YtnlingegeangmaaGreatDoor
namespace Go.Proofs.YtnlingegeangmaaGreatDoor
open Go Go.Vx
theorem EO{l:Str}{i:Nat}{b:UInt8}(h:l[i]? = some 120)(hb:dig b=true)(j:Nat):car (l.set i b) j=(car l j || decide (j=i)):=by
 have hi:=(aK.1 h).1;by_cases hj:j=i
 . subst hj
   have h2:(l.set j b)[j]? = some b:=List.getElem?_set_self hi;rw[(gQ h2).1,hb];simp
 . have:(l.set i b)[j]? = l[j]?:=List.getElem?_set_ne (Ne.symm hj)
   simp only[car,this,hj,decide_false,Bool.or_false]
theorem one_set{l:Str}{i:Nat}(h:l[i]? = some 120)(j:Nat):one (l.set i 49) j=(one l j || decide (j=i)):=by
 have hi:=(aK.1 h).1;by_cases hj:j=i
 . subst hj
   have h2:(l.set j 49)[j]? = some 49:=List.getElem?_set_self hi;rw[(gQ h2).2];simp
 . have:(l.set i 49)[j]? = l[j]?:=List.getElem?_set_ne (Ne.symm hj)
   simp only[one,this,hj,decide_false,Bool.or_false]
theorem Qo{l:Str}{i:Nat}(h:l[i]? = some 120)(j:Nat):one (l.set i 48) j=one l j:=by
 have hi:=(aK.1 h).1;by_cases hj:j=i
 . subst hj
   have h2:(l.set j 48)[j]? = some 48:=List.getElem?_set_self hi;rw[(gQ h2).2,(gQ h).2];rfl
 . have:(l.set i 48)[j]? = l[j]?:=List.getElem?_set_ne (Ne.symm hj)
   simp only[one,this]
end Go.Proofs.YtnlingegeangmaaGreatDoor
