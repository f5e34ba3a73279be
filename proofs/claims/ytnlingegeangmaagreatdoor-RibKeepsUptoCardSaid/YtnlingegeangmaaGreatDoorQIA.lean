/- The walks and the plain laws that a law of networks needs, part 1 of 7. -/
import Derived.KernelRfl
import Derived.WalkKit
import Derived.Deep.Quiet
import Derived.Lib.AppendStr
import Derived.Laws.IdiomStrings
import Derived.RangeFuncLeaves
import Derived.RangeFuncOwn
set_option linter.unusedVariables false
set_option linter.unusedSimpArgs false
set_option linter.unusedSectionVars false
set_option maxRecDepth 100000
set_option maxHeartbeats 16000000
namespace Go
theorem oA {p:Prop}(h:p:=by omega):p:=h
theorem sS {p:Prop}(h:p:=by first|exact .refl _|exact .cons _ (.refl _)|exact List.nil_sublist _|assumption|(dsimp only;rw[QU];exact .refl _)):p:=h
theorem sT {p:Prop}(h:p:=by first|exact .refl _|exact .cons _ (.refl _)|exact List.nil_sublist _):p:=h
theorem mH {p:Prop}(h:p:=by first|exact .head _|exact .tail _ (.head _)|exact .tail _ (.tail _ (.head _))|exact .tail _ (.tail _ (.tail _ (.head _)))|exact List.mem_append_left _ (by assumption)):p:=h
theorem mG {p:Prop}(h:p:=by first|exact .head _|exact .tail _ (.head _)|exact .tail _ (.tail _ (.head _))|exact List.mem_append_left _ (by assumption)):p:=h
theorem iP {p:Prop}(h:p:=by first|exact if_pos rfl|exact if_neg (by decide)):p:=h
theorem kR {p:Prop}(h:p:=by kernel_rfl):p:=h
theorem aS {p:Prop}(h:p:=by assumption):p:=h
theorem sI {p:Prop}(h:p:=by simp):p:=h
theorem dC {p:Prop}(h:p:=by decide):p:=h
theorem sO {p:Prop}(h:p:=by simp;omega):p:=h
end Go
namespace Go
theorem au.{u} {α : Type u} {i : Nat} {l : List α} (h : l.length ≤ i) : List.take i l = l := List.take_of_length_le h
theorem aC.{u} {α : Type u} {l : List α} {i : Nat} (h : i < l.length) : l[i]? = some l[i] := List.getElem?_eq_getElem h
theorem aK.{u} {α : Type u} {i : Nat} {a : α} {l : List α} : l[i]? = some a ↔ ∃ h : i < l.length, l[i] = a := List.getElem?_eq_some_iff
theorem aU.{u} {α : Type u} {l : List α} {i : Nat} {a : α} (e : l[i]? = some a) : a ∈ l := List.mem_of_getElem? e
theorem aN.{u,v} {α : Type u} {β : Type v} {f : α → β} {l : List α} {i : Nat} : (List.map f l)[i]? = Option.map f l[i]? := List.getElem?_map
theorem bV.{u,v} {α : Type u} {β : Type v} {as : List α} (f : α → β) : (List.map f as).length = as.length := List.length_map f
theorem bQ.{u} {α : Type u} {a : α} {s t : List α} : a ∈ s ++ t ↔ a ∈ s ∨ a ∈ t := List.mem_append
end Go
namespace Go.Vx
theorem bI {a b c d : Prop} (h : a → b) (g : c → d) : (a → b) ∧ (c → d) := ⟨h, g⟩
theorem aI {a b : Prop} (h : b) (g : a := by first | omega | (simp; done) | (simp; omega)) : a ∧ b := ⟨g, h⟩
theorem aJ {a b : Prop} (h : b) (g : a := by first | omega | rfl | (simp; done) | (simp; omega)) : a ∧ b := ⟨g, h⟩
end Go.Vx
namespace Go.Vx
open Go.RowKit
inductive D where
 | i (k:IntKind) (n:Int)
 | b (p:Prop)
 | tt|ff
 | s (l:List UInt8)
 | aO
 | lst (e:TypeId) (rows room:List (List D))
 | own (r n:Nat)
 | ep (cells:List D)
 | op (r:Nat) (e:TypeId) (j off:Nat)
 | bp (i off:Nat)
 | agg (cs:List D)
 | tup (cs:List D)
 | iq
 | kM (t:TypeId)
 | fn (f:FuncId) (first cap:List D)
 | fnh (f:FuncId) (first cap:List D)
 | yld (l:Nat)
 | mv (o:Option Nat)
 | itv (g:Nat)
 | rsl (g n c:Nat)
 | rnl
 | tie (r g n c:Nat)
 | osl (r:Nat) (e:TypeId) (lo n:Nat)
 | ifc (t:TypeId) (d:D)
 | fG
 | iT
 | u
def bK(l:List UInt8):ByteArray:=⟨l.toArray⟩
def D.force(d:D)(K:D->Prop):Prop:=
 match d with
 | .i k n=>K (.i k n)|.b p=>K (.b p)|.tt=>K .tt|.ff=>K .ff|.s l=>K (.s l)|.aO=>K .aO
 | .lst e a r=>K (.lst e a r)|.own r n=>K (.own r n)|.ep c=>K (.ep c)|.op r e j o=>K (.op r e j o)|.bp x o=>K (.bp x o)
 | .agg c=>K (.agg c)|.tup c=>K (.tup c)|.iq=>K .iq|.kM t=>K (.kM t)|.fn f x y=>K (.fn f x y)|.fnh f x y=>K (.fnh f x y)|.yld l=>K (.yld l)|.mv x=>K (.mv x)|.itv x=>K (.itv x)|.rsl g n c=>K (.rsl g n c)|.rnl=>K .rnl|.tie r g n c=>K (.tie r g n c)|.osl r e a n=>K (.osl r e a n)|.ifc t d=>K (.ifc t d)|.fG=>K .fG|.iT=>K .iT|.u=>K .u
theorem D.force_eq(d:D)(K:D->Prop):d.force K=K d:=by cases d<;>rfl
def gX:List D->(List D->Prop)->Prop
 | [],K=>K []
 | c :: r,K=>c.force fun c=>gX r fun r=>K (c :: r)
theorem iQ(l:List D):∀ K:List D->Prop,gX l K=K l:=by
 induction l with
 | nil=>intro K;rfl
 | cons c r ih=>intro K;simp only[gX,D.force_eq,ih]
def ikn:IntKind->Nat|.i8=>0|.i16=>1|.i32=>2|.i64=>3|.u8=>4|.u16=>5|.u32=>6|.u64=>7
theorem Ei{a b:IntKind}(h:Nat.beq (ikn a) (ikn b)=true):a=b:=by
 cases a<;>cases b<;>first|rfl|(exfalso;revert h;decide)
def D.prop:D->Option Prop|.b p=>some p|.tt=>some True|.ff=>some False|_=>none
def bTy(cs:List D)(t:TypeId):Prop:=match cs with|.kM t' :: _=>t'=t|_=>True
def noB(cs:List D):Bool:=match cs with|.kM _ :: _=>false|_=>true
def vZ(t:TypeId)(z:List D):List D:=match z with|[.iq,.aO]=>[.kM t,.aO]|z=>z
theorem E5{cs:List D}(h:noB cs=true)(t:TypeId):bTy cs t:=by
 unfold noB at h;unfold bTy;split
 . cases h
 . trivial
theorem Xc{t:TypeId}{z:List D}(h:noB z=true):bTy (vZ t z) t:=by
 unfold vZ;split
 . rfl
 . exact E5 h t
theorem Ej{cs:List D}{t:TypeId}(h:bTy cs t)(j:Nat){d:D}(hd:noB [d]=true):bTy (cs.set j d) t:=by
 cases cs with
 | nil=>exact h
 | cons c r=>cases j with
  | zero=>cases d<;>first|trivial|cases hd
  | succ j=>cases c<;>first|trivial|exact h
inductive TK where
 | bool|int (k:IntKind)|str|slice (e:TypeId)|array (n:Nat) (e:TypeId)|struct (fs:List (Nat × TypeId))|ptr (e:TypeId)|wo (e:TypeId)|other
structure TI where
 size:Nat
 bytes:Nat
 kind:TK
 zero:List D
def TI.agg(t:TI):Bool:=match t.kind with|.struct _|.array _ _=>true|_=>false
abbrev Tab:=TypeId->Option TI
@[reducible] def BIG:Nat:=1099511627776
def ah(T:Tab)(e:TypeId):Nat:=match T e with|some t=>t.size|none=>match Nat.blt e BIG with|true=>0|false=>1
def iD(w:World)(base:Nat)(e:TypeId)(size:Nat)(v:Value)(n:Nat)(xs:List Value):Prop:=
 xs.length=n*size/\((v = .slice none 0 0/\n=0) \/
  ∃ g cap cur e' fz,v = .slice (some ⟨g,0,none⟩) n cap/\base<=g/\w.heap[g]? = some (.cells cur e' fz)/\n<=cap/\cap<=maxLen/\cur.size=cap*size/\cur.toList.take (n*size)=xs /\
   ((e'=e/\fz=(0,0))\/(BIG<=e/\cur.size<=fz.1)))
def wM:Value->D
 | .bool true=>.tt|.bool false=>.ff|.int k n=>.i k n|.string s=>.s s.data.toList|.slice none 0 0=>.aO|.pointer none=>.iq|.nilIface=>.fG|.nilFunc=>.iT|_=>.u
def ofC:Value->D
 | .agg cs=>match cs.toList.all Value.oneCell' with|true=>.agg (cs.toList.map wM)|false=>.u
 | v=>wM v
abbrev Rows:=List (Option (TypeId × List (List D)))
structure St where
 env:List (Nat × D)
 box:List (List D)
 row:Rows
 n:Nat
def look:List (Nat × D)->Nat->D
 | [],_=>.u
 | (t,d) :: r,x=>match Nat.beq t x with|true=>d|false=>look r x
def glD(g:Nat):Option (List D):=match g with
 | 1=>some [.ff,.ff,.ff,.ff,.tt,.ff,.ff,.ff,.tt,.ff,.tt,.ff,.tt,.tt,.ff,.ff,.ff,.ff,.ff,.tt]
 | 2=>some [.i .u64 1,.i .u64 10,.i .u64 100,.i .u64 1000,.i .u64 10000,.i .u64 100000,.i .u64 1000000,.i .u64 10000000,.i .u64 100000000,.i .u64 1000000000,.i .u64 10000000000,.i .u64 100000000000,.i .u64 1000000000000,.i .u64 10000000000000,.i .u64 100000000000000,.i .u64 1000000000000000,.i .u64 10000000000000000,.i .u64 100000000000000000,.i .u64 1000000000000000000,.i .u64 10000000000000000000]
 | _=>none
def wZ:List D->Bool|[]=>true|.tt :: r=>wZ r|.ff :: r=>wZ r|.i _ _ :: r=>wZ r|.s _ :: r=>wZ r|_ :: _=>false
def St.get(s:St):Operand->D
 | .tmp t=>match Nat.blt t s.n with|true=>look s.env t|false=>.u
 | .const v=>ofC v
 | .global g=>match glD g with|some cs=>(match wZ cs with|true=>.ep cs|false=>.u)|none=>.u
 | .func f=>.fn f [] []
def St.set(s:St)(t:Nat)(d:D):St:=match s with|⟨env,box,row,n⟩=>⟨(t,d) :: env,box,row,n⟩
def St.know(s:St)(c:Operand)(d:D):St:=match c with|.tmp t=>(match Nat.blt t s.n with|true=>s.set t d|false=>s)|_=>s
def leB(a b:Nat)(p:Prop):Prop:=match Nat.ble a b with|true=>p|false=>False
def sz1(T:Tab)(t:TypeId):Bool:=match T t with|some ti=>(match ti.size with|0=>false|_+1=>true)|none=>false
def pW(T:Tab)(t:TypeId)(cells:List D)(K:D->Prop):Prop:=
 match T t with
 | some ti=>match ti.agg with
  | true=>leB ti.size cells.length (gX (cells.take ti.size) fun cs=>K (.agg cs))
  | false=>match cells with|c :: _=>c.force K|[]=>False
 | none=>False
def jF(k:IntKind)(m:Int)(K:D->Prop):Prop:=∃ n,n=m/\K (.i k n)
def KC(o:BinOp)(k:IntKind)(a b:Int)(K:D->Prop):Prop:=
 match o with
 | .add=>jF k (k.wrap (a+b)) K
 | .sub=>jF k (k.wrap (a - b)) K
 | .mul=>jF k (k.wrap (a*b)) K
 | .quo=>b ≠ 0/\jF k (k.wrap (a.tdiv b)) K
 | .rem=>b ≠ 0/\jF k (a.tmod b) K
 | .and=>jF k (k.wrap (BitVec.ofInt k.bits a &&& BitVec.ofInt k.bits b).toNat) K
 | .or=>jF k (k.wrap (BitVec.ofInt k.bits a ||| BitVec.ofInt k.bits b).toNat) K
 | .xor=>jF k (k.wrap (BitVec.ofInt k.bits a ^^^ BitVec.ofInt k.bits b).toNat) K
 | .andNot=>jF k (k.wrap (BitVec.ofInt k.bits a &&& ~~~(BitVec.ofInt k.bits b)).toNat) K
 | .eql=>K (.b (a=b))
 | .neq=>K (.b (a ≠ b))
 | .lss=>K (.b (a<b))
 | .leq=>K (.b (a<=b))
 | .gtr=>K (.b (b<a))
 | .geq=>K (.b (b<=a))
 | _=>False
def KD(o:BinOp)(a b:List UInt8)(K:D->Prop):Prop:=
 match o with
 | .add=>a.length+b.length<=9223372036854775807/\K (.s (a++b))
 | .eql=>K (.b (a=b))
 | .neq=>K (.b (a ≠ b))
 | .lss=>K (.b (Op.bytesLess a b=true))
 | .leq=>K (.b (Op.bytesLess a b=true\/a=b))
 | .gtr=>K (.b (¬(Op.bytesLess a b=true\/a=b)))
 | .geq=>K (.b (¬Op.bytesLess a b=true))
 | _=>False
def JV(o:BinOp)(p q:Prop)(K:D->Prop):Prop:=
 match o with
 | .eql=>K (.b (p ↔ q))
 | .neq=>K (.b (¬(p ↔ q)))
 | _=>False
def D.plain:D->Bool|.i _ _|.s _=>true|_=>false
def eqD:D->D->Prop|.i _ a,.i _ b=>a=b|.s a,.s b=>a=b|.b p,.b q=>(p ↔ q)|_,_=>False
def dM:List D->List D->Prop
 | [],[]=>True
 | [a],[b]=>eqD a b
 | a :: x,b :: y=>eqD a b/\dM x y
 | _,_=>False
inductive Sh where|i (k:IntKind)|s|b
def sh1(a:Sh)(d:D):Bool:=match a,d with|.i k,.i k' _=>Nat.beq (ikn k') (ikn k)|.s,.s _=>true|.b,.b _=>true|_,_=>false
def shB:List Sh->List D->Bool
 | [],x=>match x with|[]=>true|_ :: _=>false
 | a :: s,x=>match x with|[]=>false|d :: x=>match sh1 a d with|true=>shB s x|false=>false
def lq(d:D)(v:Value):Prop:=match d with|.i k n=>v = .int k n|.s l=>v = .string (bK l)|.b p=>∃ x:Bool,v = .bool x/\(x=true ↔ p)|_=>True
def EqT(P:Program)(t:TypeId)(sh:List Sh):Prop:=
 ∀ (x y:List D) (vs us:Array Value) (w:World),shB sh x=true->shB sh y=true->vs.size=x.length->us.size=y.length ->
  (∀ (j:Nat) v d,vs[j]? = some v->x[j]? = some d->lq d v) ->
  (∀ (j:Nat) v d,us[j]? = some v->y[j]? = some d->lq d v) ->
  ∃ c:Bool,(Op.equal t (.agg vs) (.agg us)).run P w = .ok c w/\(c=true ↔ dM x y)
def jC(b:Bool)(p:Prop):Prop:=match b with|true=>p|false=>False
def KE(P:Program)(o:BinOp)(t:TypeId)(x y:List D)(K:D->Prop):Prop:=
 match o with
 | .eql=>∃ sh,EqT P t sh/\P.eqGuardType P.depth t=false/\jC (shB sh x && shB sh y) (K (.b (dM x y)))
 | .neq=>∃ sh,EqT P t sh/\P.eqGuardType P.depth t=false/\jC (shB sh x && shB sh y) (K (.b (¬dM x y)))
 | _=>False
def TJ(P:Program)(t:TypeId):Bool:=match P.underlying t with|some (.func _ _ _)=>true|_=>false
def TL(P:Program)(t:TypeId):Bool:=match P.underlying t with|some (.interface _)=>true|_=>false
structure IfT(P:Program)(t:TypeId):Prop where
 ok:TL P t=true
structure FnT(P:Program)(t:TypeId):Prop where
 ok:TJ P t=true
def KF(P:Program)(T:Tab)(o:BinOp)(t:TypeId)(x y:D)(K:D->Prop):Prop:=
 match x,y with
 | .i k a,.i k' b=>match o with
  | .shl=>0<=b/\jF k (k.wrap (a*2 ^ (min b.toNat k.bits))) K
  | .shr=>0<=b/\jF k (a.fdiv (2 ^ (min b.toNat k.bits))) K
  | _=>jC (Nat.beq (ikn k) (ikn k')) (KC o k a b K)
 | .s a,.s b=>KD o a b K
 | .agg a,.agg b=>KE P o t a b K
 | .fn _ _ _,.iT=>match o with|.eql=>FnT P t/\K .ff|.neq=>FnT P t/\K .tt|_=>False
 | .ifc _ _,.fG=>match o with|.eql=>IfT P t/\K .ff|.neq=>IfT P t/\K .tt|_=>False
 | x,y=>match x.prop,y.prop with
  | some p,some q=>match T t with|some ⟨_,_,.bool,_⟩=>JV o p q K|_=>False
  | _,_=>False
def Uj(x y:D)(K:D->Prop):Prop:=match x,y with
 | .i k a,.i k' b=>jC (Nat.beq (ikn k) (ikn k')) (jF k (if b > a then b else a) K)
 | _,_=>False
def mx(a b:Int):Int:=if b > a then b else a
def TM(x y z q:D)(K:D->Prop):Prop:=match x,y,z,q with
 | .i .i64 a,.i .i64 b,.i .i64 c,.i .i64 d=>jF .i64 (mx (mx (mx a b) c) d) K
 | _,_,_,_=>False
def unK(o:UnOp)(x:D)(K:D->Prop):Prop:=
 match o,x with
 | .not,.tt=>K .ff
 | .not,.ff=>K .tt
 | .not,.b p=>K (.b (¬p))
 | .neg,.i k n=>jF k (k.wrap (0 - n)) K
 | .xor,.i k n=>jF k (k.wrap (BitVec.ofInt k.bits (if k.signed then -1 else k.max) ^^^ BitVec.ofInt k.bits n).toNat) K
 | _,_=>False
def slK(T:Tab)(t e:TypeId)(p:Prop):Prop:=
 match T t with
 | some ⟨_,_,.slice e',_⟩=>(match Nat.beq e e' with|true=>(match T e with|some _=>p|none=>False)|false=>False)
 | _=>False
def slM(T:Tab)(t e:TypeId)(p:Prop):Prop:=
 match Nat.blt e BIG with
 | true=>slK T t e p
 | false=>match T t with
  | some ⟨_,_,.slice e',_⟩=>(match Nat.beq e (Nat.add e' BIG) with|true=>(match T e' with|some ti=>(match Nat.beq ti.size 1 with|true=>(match T e with|none=>p|some _=>False)|false=>False)|none=>False)|false=>False)
  | _=>False
def xg(T:Tab)(t:TypeId)(p:Prop):Prop:=match T t with|some ⟨_,_,.slice _,_⟩=>p|_=>False
def stK(T:Tab)(t:TypeId)(p:Prop):Prop:=match T t with|some ⟨_,_,.str,_⟩=>p|_=>False
def loP(lo:Option D)(x:Nat):Prop:=match lo with|some (.i _ n)=>n=(x:Int)|none=>0=x|_=>False
def hiP(hi:Option D)(m x:Nat):Prop:=match hi with|some (.i _ n)=>n=(x:Int)|none=>m=x|_=>False
def JG(T:Tab)(s:St)(t:TypeId)(x:D)(lo hi:Option D)(K:D->Prop):Prop:=
 match x with
 | .s l=>stK T t (∃ a b:Nat,loP lo a/\hiP hi l.length b/\a<=b/\b<=l.length/\∃ l',l'=(l.take b).drop a/\K (.s l'))
 | .lst e rows room=>slK T t e (∃ a b:Nat,loP lo a/\hiP hi rows.length b/\a<=b/\b<=rows.length+room.length /\
     ∃ rows' room',rows'=((rows++room).take b).drop a/\room'=(rows++room).drop b/\K (.lst e rows' room'))
 | .own r n=>match s.row[r]? with
     | some (some (e,xs))=>(match lo,hi with
      | some d,none=>slM T t e (∃ a:Nat,loP (some d) a/\a<n/\n<=xs.length/\∃ m,m=n - a/\K (.osl r e a m))
      | lo,hi=>slK T t e (∃ m:Nat,loP lo 0/\hiP hi n m/\m<=xs.length/\K (.own r m)))
     | _=>False
 | _=>False
def Bc(ti:Option TI)(row:Rows)(d:D)(K:D->Prop):Prop:=
 match d with
 | .aO=>match ti with|some ⟨_,_,.slice e,_⟩=>K (.lst e [] [])|_=>K .aO
 | .tt=>K (.b True)
 | .ff=>K (.b False)
 | .own r n=>match row[r]? with
  | some (some (e,xs))=>n<=xs.length/\K (.lst e (xs.take n) (xs.drop n))
  | _=>False
 | .op ..=>False
 | .bp ..=>False
 | .agg _=>False
 | .tup _=>False
 | .fnh ..=>False
 | .osl ..=>False
 | .tie ..=>False
 | d=>d.force K
def fieldAt(fs:List (Nat × TypeId))(j:Nat):Option TypeId:=
 match fs with
 | []=>none
 | (o,t) :: r=>match Nat.beq o j with|true=>some t|false=>fieldAt r j
def uy(T:Tab)(fs:List (Nat × TypeId))(row:Rows):Nat->List D->(List D->Prop)->Prop
 | _,[],K=>K []
 | j,d :: r,K=>Bc ((fieldAt fs j).bind T) row d fun d=>uy T fs row (j+1) r fun r=>K (d :: r)
def iK(T:Tab)(t:TypeId)(row:Rows)(d:D)(K:D->Prop):Prop:=
 match d with
 | .agg cs=>match T t with
  | some ⟨_,_,.struct fs,_⟩=>uy T fs row 0 cs fun cs=>K (.agg cs)
  | _=>uy T [] row 0 cs fun cs=>K (.agg cs)
 | d=>Bc (T t) row d K
def um(T:Tab)(row:Rows)(box:List (List D)):List D->(List D->Prop)->Prop
 | [],K=>K []
 | .agg cs :: ds,K=>uy T [] row 0 cs fun cs=>um T row box ds fun ds=>K (.agg cs :: ds)
 | .bp i 0 :: ds,K=>match box[i]? with
  | some cs=>uy T [] row 0 cs fun cs=>um T row box ds fun ds=>K (.ep cs :: ds)
  | none=>False
 | d :: ds,K=>Bc none row d fun d=>um T row box ds fun ds=>K (d :: ds)
def wO(T:Tab)(row:Rows):List TypeId->List D->(List D->Prop)->Prop
 | t :: ts,d :: ds,K=>iK T t row d fun d=>wO T row ts ds fun ds=>K (d :: ds)
 | [],[],K=>K []
 | _,_,_=>False
def D.ground:D->Bool
 | .i _ _|.b _|.tt|.ff|.s _|.aO|.iq|.mv _|.itv _|.rsl ..|.rnl=>true
 | _=>false
def grounds:List D->Bool
 | []=>true
 | d :: r=>d.ground && grounds r
def D.fM:D->Bool
 | .agg cs|.tup cs=>grounds cs
 | d=>d.ground
abbrev Vw:=Addr->Option Value
inductive RI(sz:TypeId->Nat)(V:Vw):Value->D->Prop
 | i (k n):RI sz V (.int k n) (.i k n)
 | b (x:Bool) (p:Prop) (h:x=true ↔ p):RI sz V (.bool x) (.b p)
 | tt:RI sz V (.bool true) .tt
 | ff:RI sz V (.bool false) .ff
 | s (l):RI sz V (.string (bK l)) (.s l)
 | aO:RI sz V (.slice none 0 0) .aO
 | lst (e rows room) (A:Option Addr) (ad:Addr) (c:Nat) (val:Nat->Nat->Value) (hc:rows.length+room.length<=c) (hm:c<=maxLen)
     (hA:rows++room ≠ []->A=some ad) (hn:A=none->c=0)
     (hl:∀ (i:Nat) row,(rows++room)[i]? = some row->row.length=sz e)
     (hV:∀ (i:Nat) row (j:Nat) d,(rows++room)[i]? = some row->row[j]? = some d->V (ad.add (i*sz e+j))=some (val i j)/\(val i j).oneCell'=true)
     (hR:∀ (i:Nat) row (j:Nat) d,(rows++room)[i]? = some row->row[j]? = some d->RI sz V (val i j) d) :
     RI sz V (.slice A rows.length c) (.lst e rows room)
 | ep (cells) (ad:Addr) (val:Nat->Value)
     (hV:∀ (j:Nat) d,cells[j]? = some d->V (ad.add j)=some (val j)/\(val j).oneCell'=true)
     (hR:∀ (j:Nat) d,cells[j]? = some d->RI sz V (val j) d):RI sz V (.pointer (some ad)) (.ep cells)
 | agg (cs) (vs:Array Value) (hs:vs.size=cs.length) (ho:∀ v ∈ vs.toList,v.oneCell'=true) (hR:∀ (j:Nat) v d,vs[j]? = some v->cs[j]? = some d->RI sz V v d):RI sz V (.agg vs) (.agg cs)
 | tup (cs) (vs:Array Value) (hs:vs.size=cs.length) (hR:∀ (j:Nat) v d,vs[j]? = some v->cs[j]? = some d->RI sz V v d):RI sz V (.tuple vs) (.tup cs)
 | iq:RI sz V (.pointer none) .iq
 | kM (t):RI sz V (.pointer none) (.kM t)
 | fn (f first cap) (vs us:Array Value) (h1:vs.size=first.length) (h2:us.size=cap.length) (hR1:∀ (j:Nat) v d,vs[j]? = some v->first[j]? = some d->RI sz V v d)
     (hR2:∀ (j:Nat) v d,us[j]? = some v->cap[j]? = some d->RI sz V v d):RI sz V (.func (.func f) vs us) (.fn f first cap)
 | yld (l):RI sz V (.func (.yield l) #[] #[]) (.yld l)
 | mv (o):RI sz V (.map o) (.mv o)
 | itv (g):RI sz V (.pointer (some ⟨g,0,none⟩)) (.itv g)
 | rsl (g n c):RI sz V (.slice (some ⟨g,0,none⟩) n c) (.rsl g n c)
 | rnl:RI sz V (.slice none 0 0) .rnl
 | ifc (t) (v:Value) (d) (h:RI sz V v d):RI sz V (.iface t v) (.ifc t d)
 | fG:RI sz V .nilIface .fG
 | iT:RI sz V .nilFunc .iT
 | u (v):RI sz V v .u
inductive RS(sz:TypeId->Nat)(V:Vw)(μ:List Nat)(ω:List Value):Value->D->Prop
 | imm (v d) (h:RI sz V v d):RS sz V μ ω v d
 | own (r n A N c) (h:ω[r]? = some (.slice A N c)) (hn:n<=N):RS sz V μ ω (.slice A n c) (.own r n)
 | op (r e j off g N c) (h:ω[r]? = some (.slice (some ⟨g,0,none⟩) N c)):RS sz V μ ω (.pointer (some ⟨g,j*sz e+off,none⟩)) (.op r e j off)
 | bp (i off g) (h:μ[i]? = some g):RS sz V μ ω (.pointer (some ⟨g,off,none⟩)) (.bp i off)
 | tie (v) (r g n c) (h:ω[r]? = some (.slice (some ⟨g,0,none⟩) n c)):RS sz V μ ω v (.tie r g n c)
 | osl (r e lo n g N c c') (h:ω[r]? = some (.slice (some ⟨g,0,none⟩) N c)) (hn:lo+n<=N):RS sz V μ ω (.slice (some ⟨g,lo*sz e,none⟩) n c') (.osl r e lo n)
 | agg (cs) (vs:Array Value) (hs:vs.size=cs.length) (ho:∀ v ∈ vs.toList,v.oneCell'=true) (hR:∀ (j:Nat) v d,vs[j]? = some v->cs[j]? = some d->RS sz V μ ω v d):RS sz V μ ω (.agg vs) (.agg cs)
 | tup (cs) (vs:Array Value) (hs:vs.size=cs.length) (hR:∀ (j:Nat) v d,vs[j]? = some v->cs[j]? = some d->RS sz V μ ω v d):RS sz V μ ω (.tuple vs) (.tup cs)
 | fnh (f first cap) (vs us:Array Value) (h1:vs.size=first.length) (h2:us.size=cap.length) (hR1:∀ (j:Nat) v d,vs[j]? = some v->first[j]? = some d->RS sz V μ ω v d)
     (hR2:∀ (j:Nat) v d,us[j]? = some v->cap[j]? = some d->RS sz V μ ω v d):RS sz V μ ω (.func (.func f) vs us) (.fnh f first cap)
def VLe(V V':Vw):Prop:=∀ p v,V p=some v->V' p=some v
def rQ:D->Value
 | .tt=>.bool true|.ff=>.bool false|.i k n=>.int k n|.s l=>.string (bK l)|_=>.nilIface
def glV:Vw:=fun p=>match p.spot with
 | none=>match glD p.block with|some cs=>(cs[p.off]?).map rQ|none=>none
 | some _=>none
def GT(w:World):Prop:=∀ g cs,glD g=some cs->cs ≠ []/\∃ a b,w.heap[g]? = some (.cells (cs.map rQ).toArray a b)
def VOk(V:Vw)(w:World):Prop:=(VLe glV V/\GT w)/\∀ p v,V p=some v->w.cell? p=some v
theorem VOk.at0{V:Vw}{w:World}(h:VOk V w){g:Nat}{cs:List D}(hg:glD g=some cs):∃ v,V ⟨g,0,none⟩=some v:=by
 obtain⟨h1,_⟩:=h.1.2 g cs hg
 cases cs with
 | nil=>exact absurd rfl h1
 | cons d l=>exact⟨rQ d,h.1.1 _ _ (by simp[glV,hg])⟩
theorem VOk.gt{V:Vw}{w w':World}(h:VOk V w)(hk:∀ g v,V ⟨g,0,none⟩=some v->w'.heap[g]? = w.heap[g]?):GT w':=fun g cs hg=>by
 obtain⟨v,hv⟩:=h.at0 hg;obtain⟨h1,a,b,h2⟩:=h.1.2 g cs hg;exact⟨h1,a,b,(hk g v hv).trans h2⟩
structure Res(sz:TypeId->Nat)(V V':Vw)(ω:List Value)(row:Rows)(w w':World):Prop where
 below:Below w.heap.size w w'
 le:VLe V V'
 vok:VOk V' w'
 gu:∀ p,p.block<w.heap.size->V' p=V p
 rl:ω.length=row.length
 rows:∀ (r:Nat) (v:Value) (e:TypeId) (xs:List (List D)),ω[r]? = some v->row[r]? = some (some (e,xs))->∃ vals:List Value,iD w' w.heap.size e (sz e) v xs.length vals/\(∀ u ∈ vals,u.oneCell'=true) /\
  (∀ (i:Nat) rw,xs[i]? = some rw->rw.length=sz e)/\(∀ (i:Nat) rw (j:Nat) d,xs[i]? = some rw->rw[j]? = some d->∃ u,vals[i*sz e+j]? = some u/\RI sz V' u d)
 uniq:∀ (r r':Nat) v v' x x' g,ω[r]? = some v->row[r]? = some (some x)->ω[r']? = some v'->row[r']? = some (some x')->v.ownBlock=some g->v'.ownBlock=some g->r=r'
 eF:∀ p u (r:Nat) v x,V' p=some u->ω[r]? = some v->row[r]? = some (some x)->v.ownBlock ≠ some p.block
structure aF(P:Program)(T:Tab)(f:FuncId)(ds:List D)(R:D->Rows->Prop):Prop where
 call:∀ args w,(callFunc f args).run P w = .ok (.enter f args) w
 run:∀ (V:Vw) (w:World) (args:Array Value),VOk V w->args.size=ds.length->(∀ (j:Nat) v d,args[j]? = some v->ds[j]? = some d->RI (ah T) V v d) ->
  Calls P f args w fun e w'=>∃ V' ω row v d,e = .returned v/\R d row/\RS (ah T) V' [] ω v d/\Res (ah T) V V' ω row w w'
def St.gets(s:St)(xs:List Operand):List D:=xs.map s.get
def KG(T:Tab)(s:St)(t:TypeId)(x i:D)(K:D->Prop):Prop:=
 match x,i with
 | .lst e rows _,.i _ n=>slK T t e (0<=n/\∃ row,rows[n.toNat]? = some row/\gX row fun row=>K (.ep row))
 | .own r m,.i _ n=>match s.row[r]? with
  | some (some (e,xs))=>slM T t e (0<=n/\n<m/\m<=xs.length/\K (.op r e n.toNat 0))
  | _=>False
 | .rsl g m _,.i _ n=>∃ t0 r N c,look s.env t0 = .tie r g N c/\m<=N/\(match s.row[r]? with
  | some (some (e,xs))=>slM T t e (0<=n/\n<m/\N<=xs.length/\K (.op r e n.toNat 0))
  | _=>False)
 | .bp b off,.i _ n=>match T t with|some ⟨_,_,.array len e,_⟩=>(match T e with|some ti=>0<=n/\n<len/\∃ m,m=off+n.toNat*ti.size/\K (.bp b m)|none=>False)|_=>False
 | .ep cells,.i _ n=>match T t with|some ⟨_,_,.array len e,_⟩=>(match T e with|some ti=>0<=n/\n<len/\∃ cs,cs=cells.drop (n.toNat*ti.size)/\gX cs fun cs=>K (.ep cs)|none=>False)|_=>False
 | _,_=>False
def JW(T:Tab)(t:TypeId)(x i:D)(K:D->Prop):Prop:=
 match x,i with
 | .s l,.i _ n=>stK T t (0<=n/\∃ c:UInt8,l[n.toNat]? = some c/\∃ m:Int,m=c.toNat/\K (.i .u8 m))
 | .agg cs,.i _ n=>match T t with|some ⟨_,_,.array len e,_⟩=>0<=n/\n<len/\pW T e (cs.drop (n.toNat*ah T e)) K|_=>False
 | _,_=>False
def F9(T:Tab)(s:St)(t:TypeId)(x:D)(K:D->Prop):Prop:=
 match x with
 | .ep cells=>pW T t cells K
 | .bp i off=>match s.box[i]? with|some cs=>pW T t (cs.drop off) K|none=>False
 | .op r e j off=>match s.row[r]? with
  | some (some (e',xs))=>e=e'/\∃ row,xs[j]? = some row/\pW T t (row.drop off) K
  | _=>False
 | _=>False
def DT(T:Tab)(t:TypeId)(f:Nat)(K:Nat->TypeId->Prop):Prop:=
 match T t with
 | some ⟨_,_,.struct fs,_⟩=>match fs[f]? with|some (off,ft)=>K off ft|none=>False
 | _=>False
def KH(T:Tab)(t:TypeId)(x:D)(K:D->Prop):Prop:=
 match x with
 | .s l=>stK T t (K (.i .i64 l.length))
 | .lst _ rows _=>xg T t (K (.i .i64 rows.length))
 | .own _ n=>xg T t (K (.i .i64 n))
 | .rsl _ n _=>xg T t (K (.i .i64 n))
 | .rnl=>xg T t (K (.i .i64 0))
 | .aO=>xg T t (K (.i .i64 0))
 | _=>False
def setCells(cs:List D)(off:Nat)(vs:List D):List D:=cs.take off++(vs++cs.drop (off+vs.length))
def D.yK(d:D)(K:List D->Prop):Prop:=match d with|.agg cs=>K cs|.tup _=>False|.u=>False|.tie ..=>False|d=>K [d]
def yU(fs:Nat->Option (Nat × Nat)):List D->List (Nat × D)->(List D->Prop)->Prop
 | zs,[],K=>gX zs K
 | zs,(i,d) :: r,K=>match fs i with
  | some (off,size)=>d.yK fun ds=>leB ds.length size (leB size ds.length (leB (off+ds.length) zs.length (gX (setCells zs off ds) fun zs=>yU fs zs r K)))
  | none=>False
def BK(T:Tab)(fs:List (Nat × TypeId))(p:Prop):Prop:=
 match fs with
 | []=>p
 | (_,t) :: r=>match T t with|some _=>BK T r p|none=>False
inductive Src where|none|box (i:Nat)|row (r:Nat)|all|reg
def Bd(d:D):Src:=match d with|.bp i _=>.box i|.op r _ _ _=>.row r|_=>.none
def zh(x:D):Src:=match x with|.own r _=>.row r|.osl r _ _ _=>.row r|.rsl ..=>.all|_=>.none
def BL(s:St)(o:Oper):Src:=match o.op with|.load _ x=>Bd (s.get x)|_=>.reg
def nH(s:St)(o:Oper):Src:=match o.op with
 | .store _ x _=>Bd (s.get x)
 | .call { callee:=.builtin .append,args,argTypes:=_ }=>match args.toList with
  | x :: _=>zh (s.get x)
  | []=>.none
 | .call { callee:=.builtin .copy,args,argTypes:=_ }=>match args.toList with
  | x :: _=>zh (s.get x)
  | []=>.none
 | _=>.none
def BM:D->Bool|.own ..|.op ..|.bp ..|.agg _|.tup _|.fnh ..|.osl ..|.tie ..=>false|_=>true
def uJ:List D->Bool|[]=>true|d :: r=>BM d && uJ r
def KI:D->Bool|.agg cs=>uJ cs|d=>BM d
def BN:List D->Bool|[]=>true|d :: r=>KI d && BN r
def fnK(d:D)(K:FuncId->List D->List D->Prop):Prop:=match d with|.fn f x y=>K f x y|.fnh f x y=>K f x y|_=>False
structure lu(P:Program)(m:String)(t:TypeId)(f:FuncId):Prop where
 call:∀ (x:Value) (args:Array Value) (w:World),(callMethod (.iface t x) m args).run P w = .ok (.enter f (#[x]++args)) w
def qop(P:Program)(T:Tab)(s:St)(o:Oper)(K:D->St->Prop):Prop:=
 match o.op with
 | .move x|.assign x=>(s.get x).force fun d=>K d s
 | .pick c a b=>match s.get c with
  | .tt=>(s.get a).force fun d=>K d s
  | .ff=>(s.get b).force fun d=>K d s
  | .b p=>(p->(s.get a).force fun d=>K d (s.know c .tt))/\(¬p->(s.get b).force fun d=>K d (s.know c .ff))
  | _=>False
 | .load t a=>F9 T s t (s.get a) fun d=>K d s
 | .nilCheck x=>match s.get x with
  | .ep c=>K (.ep c) s
  | .bp i o=>K (.bp i o) s
  | .op r e j o=>K (.op r e j o) s
  | _=>False
 | .binOp op t x y _=>KF P T op t (s.get x) (s.get y) fun d=>K d s
 | .unOp op _ x=>unK op (s.get x) fun d=>K d s
 | .convert t b x=>match s.get x,T t,T b with
  | .i _ n,some ⟨_,_,.int _,_⟩,some ⟨_,_,.int k,_⟩=>jF k (k.wrap n) fun d=>K d s
  | .s l,some ⟨_,_,.str,_⟩,some ⟨_,_,.str,_⟩=>K (.s l) s
  | _,_,_=>False
 | .slice t x lo hi none=>JG T s t (s.get x) (lo.map s.get) (hi.map s.get) fun d=>K d s
 | .fieldAddr t x f=>DT T t f fun off ft=>match sz1 T ft with
  | false=>False
  | true=>match s.get x with
   | .ep c=>K (.ep (c.drop off)) s
   | .bp i o=>K (.bp i (o+off)) s
   | .op r e j o=>K (.op r e j (o+off)) s
   | _=>False
 | .field t x f=>DT T t f fun off ft=>match s.get x with
  | .agg cs=>pW T ft (cs.drop off) fun d=>K d s
  | _=>False
 | .indexAddr t x i=>KG T s t (s.get x) (s.get i) fun d=>K d s
 | .index t x i=>JW T t (s.get x) (s.get i) fun d=>K d s
 | .extract x i=>match s.get x with
  | .tup ds=>match ds[i]? with|some d=>d.force fun d=>K d s|none=>False
  | _=>False
 | .build t ps=>match T t with
  | some ⟨_,_,.struct fs,z⟩=>BK T fs <| yU (fun i=>(fs[i]?).map fun x=>(x.1,ah T x.2)) z (ps.toList.map fun x=>(x.1,s.get x.2)) fun cs=>K (.agg cs) s
  | some ⟨_,_,.array _ e,z⟩=>BK T [(0,e)] <| yU (fun i=>some (i*ah T e,ah T e)) z (ps.toList.map fun x=>(x.1,s.get x.2)) fun cs=>K (.agg cs) s
  | _=>False
 | .makeFunc (.func f) first cap=>jC (BN (s.gets first.toList) && BN (s.gets cap.toList)) (gX (s.gets first.toList) fun fs=>gX (s.gets cap.toList) fun cs=>K (.fn f fs cs) s) \/
     gX (s.gets first.toList) fun fs=>gX (s.gets cap.toList) fun cs=>K (.fnh f fs cs) s
 | .call { callee:=.value (.tmp t),args,argTypes }=>fnK (s.get (.tmp t)) fun f first cap=>
  um T s.row s.box first fun fs=>wO T s.row argTypes.toList (s.gets args.toList) fun ds=>um T s.row s.box cap fun cs=>
   ∃ d,aF P T f (fs++ds++cs) (fun d' _=>d'=d)/\d.fM=true/\K d s
 | .call { callee:=.invoke x m,args,argTypes }=>match s.get x with
  | .ifc t d=>wO T s.row argTypes.toList (s.gets args.toList) fun ds=>∃ f,lu P m t f/\∃ d',aF P T f (d :: ds) (fun d'' _=>d''=d')/\d'.fM=true/\K d' s
  | _=>False
 | .typeAssert x _ b true=>match s.get x,T b with
  | .ifc t d,some ⟨_,_,.struct _,_⟩=>(match Nat.beq t b with|true=>K (.tup [d,.tt]) s|false=>K (.tup [.u,.ff]) s)
  | _,_=>False
 | .call { callee:=.builtin .max,args,argTypes:=_ }=>match args.toList with
  | [x,y]=>Uj (s.get x) (s.get y) fun d=>K d s
  | [x,y,z,q]=>TM (s.get x) (s.get y) (s.get z) (s.get q) fun d=>K d s
  | _=>False
 | .call { callee:=.builtin .len,args,argTypes }=>match args.toList,argTypes.toList with
  | [x],[t]=>KH T t (s.get x) fun d=>K d s
  | _,_=>False
 | .call { callee:=.value (.func f),args,argTypes }=>
  wO T s.row argTypes.toList (s.gets args.toList) fun ds=>∃ d,aF P T f ds (fun d' _=>d'=d)/\d.fM=true/\K d s
 | _=>False
def lC(ops:List Oper)(s:St)(g:Option (Nat × Bool))(yes no:St->Prop):Prop:=
 match g with
 | none=>yes s
 | some (j,c)=>match (ops[j]?).bind (·.dst) with
  | none=>False
  | some t=>match (match Nat.blt t s.n with|true=>look s.env t|false=>.u),c with
   | .tt,true=>yes s|.tt,false=>no s|.ff,true=>no s|.ff,false=>yes s
   | .b p,true=>(p->yes (s.set t .tt))/\(¬p->no (s.set t .ff))
   | .b p,false=>(p->no (s.set t .tt))/\(¬p->yes (s.set t .ff))
   | .tup [],_=>no s
   | _,_=>False
def gy(s:St)(dst:Option Nat)(d:D)(K:St->Prop):Prop:=
 match dst with
 | none=>K s
 | some t=>match s with|⟨env,box,row,n⟩=>match Nat.ble (t+1) n with|true=>K ⟨(t,d) :: env,box,row,n⟩|false=>False
def BO(P:Program)(T:Tab)(ops:List Oper):List Oper->St->(St->Prop)->Prop
 | [],s,K=>K s
 | o :: rest,s,K=>lC ops s o.guard
     (fun s=>qop P T s o fun d s=>gy s o.dst d fun s=>BO P T ops rest s K)
     (fun s=>gy s o.dst (.tup []) fun s=>BO P T ops rest s K)
end Go.Vx
namespace Go.Vx
open Go.RowKit
section
variable {sz : TypeId → Nat} {V V' : Vw} {μ μ' : List Nat} {ω ω' : List Value}
theorem RI.mono{v:Value}{d:D}(h:RI sz V v d)(hV:VLe V V'):RI sz V' v d:=by
 induction h with
 | i k n=>exact .i k n
 | b x p h=>exact .b x p h
 | tt=>exact .tt
 | ff=>exact .ff
 | s l=>exact .s l
 | aO=>exact .aO
 | lst e rows room A ad c val hc hm hA hn hl hV1 _ ih=>exact .lst e rows room A ad c val hc hm hA hn hl (fun i row j d h1 h2=>⟨hV _ _ (hV1 i row j d h1 h2).1,(hV1 i row j d h1 h2).2⟩) ih
 | ep cells ad val hV1 _ ih=>exact .ep cells ad val (fun j d h=>⟨hV _ _ (hV1 j d h).1,(hV1 j d h).2⟩) ih
 | agg cs vs hs ho _ ih=>exact .agg cs vs hs ho ih
 | tup cs vs hs _ ih=>exact .tup cs vs hs ih
 | iq=>exact .iq
 | kM t=>exact .kM t
 | fn f first cap vs us h1 h2 _ _ ih1 ih2=>exact .fn f first cap vs us h1 h2 ih1 ih2
 | yld l=>exact .yld l
 | mv x=>exact .mv x
 | itv x=>exact .itv x
 | rsl g n c=>exact .rsl g n c
 | rnl=>exact .rnl
 | ifc t v d _ ih=>exact .ifc t v d ih
 | fG=>exact .fG
 | iT=>exact .iT
 | u v=>exact .u v
def Pre{α:Type}(l l':List α):Prop:=∀ (i:Nat) x,l[i]? = some x->l'[i]? = some x
theorem Pre.refl{α:Type}(l:List α):Pre l l:=fun _ _ h=>h
theorem Pre.append{α:Type}(l m:List α):Pre l (l++m):=fun i x h=>by
 rw[List.getElem?_append_left (by have:=aK.1 h;exact this.1)];exact h
theorem RS.mono{v:Value}{d:D}(h:RS sz V μ ω v d)(hV:VLe V V')(hm:Pre μ μ')(hw:Pre ω ω'):RS sz V' μ' ω' v d:=by
 induction h with
 | imm v d h=>exact .imm v d (h.mono hV)
 | own r n A N c h hn=>exact .own r n A N c (hw _ _ h) hn
 | op r e j off g N c h=>exact .op r e j off g N c (hw _ _ h)
 | bp i off g h=>exact .bp i off g (hm _ _ h)
 | osl r e lo n g N c c' h hn=>exact .osl r e lo n g N c c' (hw _ _ h) hn
 | tie v r g n c h=>exact .tie v r g n c (hw _ _ h)
 | agg cs vs hs ho _ ih=>exact .agg cs vs hs ho ih
 | tup cs vs hs _ ih=>exact .tup cs vs hs ih
 | fnh f first cap vs us h1 h2 _ _ ih1 ih2=>exact .fnh f first cap vs us h1 h2 ih1 ih2
theorem Yl{l l':List UInt8}(h:bK l=bK l'):l=l':=by
 have:=congrArg (fun b:ByteArray=>b.data.toList) h;simpa[bK] using this
theorem OB(s:ByteArray):bK s.data.toList=s:=by cases s;simp[bK]
theorem mZ(l:List UInt8):(bK l).size=l.length:=by simp[bK,ByteArray.size]
theorem sN(l:List UInt8):(bK l).toList=l:=by
 simp[bK]
theorem RI.uniq{v v':Value}{d:D}(h:RI sz V v d)(h':RI sz V' v' d)(hg:d.ground=true):v=v':=by
 cases d<;>simp only[D.ground] at hg<;>try contradiction
 all_goals cases h
 all_goals cases h'
 all_goals try rfl
 rename_i p x h1 y h2;congr 1;cases x<;>cases y<;>simp_all
theorem o7:∀ {cs:List D},grounds cs=true->∀ (j:Nat) d,cs[j]? = some d->d.ground=true
 | [],_,j,d,h=>by simp at h
 | c :: cs,hg,j,d,h=>by
  simp only[grounds,Bool.and_eq_true] at hg
  cases j with
  | zero=>simp at h;subst h;exact hg.1
  | succ j=>exact o7 hg.2 j d (by simpa using h)
theorem RS.ri{v:Value}{d:D}(h:RS sz V μ ω v d)(hg:d.fM=true):RI sz V v d:=by
 cases h with
 | imm _ _ h=>exact h
 | own r n A N c h hn=>simp[D.fM,D.ground] at hg
 | op=>simp[D.fM,D.ground] at hg
 | bp=>simp[D.fM,D.ground] at hg
 | osl=>simp[D.fM,D.ground] at hg
 | tie=>simp[D.fM,D.ground] at hg
 | fnh=>simp[D.fM,D.ground] at hg
 | agg cs vs hs ho hR=>
  refine .agg cs vs hs ho fun j v d h1 h2=>?_
  have hgd:=o7 (by simpa[D.fM] using hg) j d h2;have:=hR j v d h1 h2
  cases this with
  | imm _ _ h=>exact h
  | _=>simp[D.ground] at hgd
 | tup cs vs hs hR=>
  refine .tup cs vs hs fun j v d h1 h2=>?_
  have hgd:=o7 (by simpa[D.fM] using hg) j d h2;have:=hR j v d h1 h2
  cases this with
  | imm _ _ h=>exact h
  | _=>simp[D.ground] at hgd
theorem QV{vs us:Array Value}{n:Nat}(h1:vs.size=n)(h2:us.size=n)(h:∀ (j:Nat) v u,vs[j]? = some v->us[j]? = some u->v=u):vs=us:=by
 apply Array.ext (h1.trans h2.symm);intro j hj hj';exact h j _ _ (Array.getElem?_eq_getElem hj) (Array.getElem?_eq_getElem hj')
theorem RI.TN{v v':Value}{d:D}(h:RI sz V v d)(h':RI sz V' v' d)(hg:d.fM=true):v=v':=by
 by_cases hd:d.ground=true
 . exact h.uniq h' hd
 . cases d<;>simp only[D.fM] at hg<;>first|contradiction|skip
   case agg cs=>
    cases h with
    | agg _ vs hs ho hR=>
     cases h' with
     | agg _ us hs' ho' hR'=>
      congr 1;refine QV hs hs' fun j v u h1 h2=>?_
      have hj:j<cs.length:=by rw[<- hs];exact (Array.getElem?_eq_some_iff.1 h1).1
      exact (hR j v _ h1 (aC hj)).uniq (hR' j u _ h2 (aC hj)) (o7 hg j _ (aC hj))
   case tup cs=>
    cases h with
    | tup _ vs hs hR=>
     cases h' with
     | tup _ us hs' hR'=>
      congr 1;refine QV hs hs' fun j v u h1 h2=>?_
      have hj:j<cs.length:=by rw[<- hs];exact (Array.getElem?_eq_some_iff.1 h1).1
      exact (hR j v _ h1 (aC hj)).uniq (hR' j u _ h2 (aC hj)) (o7 hg j _ (aC hj))
   all_goals exact absurd hg (by simpa[D.ground] using hd)
theorem DU(v:Value):RI sz V v (wM v):=by
 unfold wM;split
 . exact .tt
 . exact .ff
 . exact .i _ _
 . rename_i s
   have:=RI.s (sz:=sz) (V:=V) s.data.toList;rwa [OB] at this
 . exact .aO
 . exact .iq
 . exact .fG
 . exact .iT
 . exact .u _
end
structure Good(P:Program)(t:TypeId)(ti:TI):Prop where
 info:∃ i z,P.info? t=some i/\i.size=ti.size/\i.bytes=ti.bytes/\i.zero=some z/\z.cells.toList.map wM=ti.zero/\z.cells.size=ti.size/\∀ v ∈ z.cells.toList,v.oneCell'=true
 kind:match ti.kind with
  | .bool=>P.underlying t=some .bool
  | .int k=>P.underlying t=some (.int k)
  | .str=>P.underlying t=some .string
  | .slice e=>P.underlying t=some (.slice e)
  | .array n e=>P.underlying t=some (.array n e)
  | .struct fs=>∃ fa,P.underlying t=some (.struct fa)/\fa.toList.map (fun f=>(f.offset,f.type))=fs
  | .ptr e=>P.underlying t=some (.pointer e)
  | .wo e=>P.underlying t=some (.slice e)
  | .other=>True
 agg:∀ w,(isAgg t).run P w = .ok ti.agg w
 small:t<BIG
def TOk(P:Program)(T:Tab):Prop:=∀ t ti,T t=some ti->Good P t ti
theorem Good.size{P:Program}{t:TypeId}{ti:TI}(h:Good P t ti)(w:World):(sizeOf t).run P w = .ok ti.size w:=by
 obtain⟨i,z,h1,h2,_⟩:=h.info;simp[sizeOf,typeInfo,h1,h2]
theorem dF{P:Program}{t:TypeId}{d:TypeDesc}(h:P.underlying t=some d)(w:World):(underlying t).run P w = .ok d w:=by
 simp[underlying,h]
theorem jI{T:Tab}{t:TypeId}{ti:TI}(h:T t=some ti):ah T t=ti.size:=by simp[ah,h]
theorem Ym{P:Program}{T:Tab}(hT:TOk P T){t:TypeId}(h:sz1 T t=true)(w:World):∃ n,(sizeOf t).run P w = .ok (n+1) w:=by
 unfold sz1 at h;split at h
 . rename_i ti hti
   split at h
   . cases h
   . rename_i n hn
     exact⟨n,by rw[(hT t ti hti).size,hn]⟩
 . cases h
theorem PO{T:Tab}{e:TypeId}(hT:T e=none)(h:¬ Nat.blt e BIG=true):ah T e=1:=by
 unfold ah;rw[hT]
 cases hb:Nat.blt e BIG with
 | true=>exact absurd hb h
 | false=>simp[hb]
def Own(μ:List Nat)(ω:List Value)(row:Rows):Nat ⊕ Nat->Nat->Prop
 | .inl i,g=>μ[i]? = some g
 | .inr r,g=>∃ v x,ω[r]? = some v/\row[r]? = some (some x)/\v.ownBlock=some g
structure Fr where
 V:Vw
 gv:Nat->Value
 df:List Deferred
 kp:List (Nat × Obj):=[]
 kc:List (Nat × Obj):=[]
def fB(F:Fr)(n:Nat)(a:Act)(t:Nat):Value:=if t<n then a.tmps.getD t undef else F.gv t
def noC(o:Obj):Prop:=∀ a b c,o ≠ .cells a b c
structure Mem(sz:TypeId->Nat)(w0:World)(V0:Fr)(V:Vw)(μ:List Nat)(ω:List Value)(box:List (List D))(row:Rows)(w:World):Prop where
 below:Below w0.heap.size w0 w
 vok:VOk V w
 vle:VLe V0.V V
 gu:∀ p,p.block<w0.heap.size->V p=V0.V p
 bl:μ.length=box.length
 hbox:∀ (i:Nat) (g:Nat) (cs:List D),μ[i]? = some g->box[i]? = some cs->∃ (vs:Array Value) (t:TypeId),w.heap[g]? = some (.cells vs t (0,0))/\vs.size=cs.length/\(∀ v ∈ vs.toList,v.oneCell'=true) /\
  (∀ (j:Nat) v d,vs[j]? = some v->cs[j]? = some d->RS sz V μ ω v d)/\bTy cs t
 rl:ω.length=row.length
 hrow:∀ (r:Nat) (v:Value) (e:TypeId) (xs:List (List D)),ω[r]? = some v->row[r]? = some (some (e,xs))->∃ vals:List Value,iD w w0.heap.size e (sz e) v xs.length vals/\(∀ u ∈ vals,u.oneCell'=true) /\
  (∀ (i:Nat) rw,xs[i]? = some rw->rw.length=sz e)/\(∀ (i:Nat) rw (j:Nat) d,xs[i]? = some rw->rw[j]? = some d->∃ u,vals[i*sz e+j]? = some u/\RI sz V u d)
 uniq:∀ l l' g,Own μ ω row l g->Own μ ω row l' g->l=l'
 new:∀ l g,Own μ ω row l g->w0.heap.size<=g/\g<w.heap.size
 eF:∀ p u l,V p=some u->¬ Own μ ω row l p.block
 away:∀ x ∈ V0.kc,w.heap[x.1]? = some x.2/\w0.heap.size<=x.1/\(∀ l,¬ Own μ ω row l x.1)/\(∀ p u,V p=some u->p.block ≠ x.1)/\¬ noC x.2
def mkD(D:Nat):Deferred:={ target:=.collected D,args:=#[] }
structure gY(w0:World)(F:Fr)(ds:List Deferred)(w:World):Prop where
 marks:∃ ms:List Nat,ds=ms.map mkD++F.df/\ms.Nodup/\∀ D ∈ ms,w.heap[D]? = some (.deferred (some []))/\w0.heap.size<=D/\∀ x ∈ F.kp,x.1 ≠ D
 kept:∀ x ∈ F.kp,w.heap[x.1]? = some x.2/\noC x.2/\w0.heap.size<=x.1
theorem gY.to{w0 w w':World}{F:Fr}{ds:List Deferred}(h:gY w0 F ds w)(hk:∀ (k:Nat) (o:Obj),w.heap[k]? = some o->noC o->w'.heap[k]? = some o):gY w0 F ds w':=by
 obtain⟨ms,h1,h2,h3⟩:=h.marks;exact⟨⟨ms,h1,h2,fun D hD=>⟨hk _ _ (h3 D hD).1 (fun _ _ _ e=>by cases e),(h3 D hD).2⟩⟩,fun x hx=>⟨hk _ _ (h.kept x hx).1 (h.kept x hx).2.1,(h.kept x hx).2⟩⟩
theorem gY.start{w0 w:World}{V:Vw}{g:Nat->Value}{df:List Deferred}{c:List (Nat × Obj)}:gY w0 ⟨V,g,df,[],c⟩ df w:=
 ⟨⟨[],rfl,List.nodup_nil,sI⟩,sI⟩
theorem gY.grown{w0 w w':World}{F:Fr}{ds:List Deferred}(h:gY w0 F ds w){G:Option Nat}(hg:w.grownBy w' G)(hG:∀ g,G=some g->∃ a b c,w.heap[g]? = some (.cells a b c)):gY w0 F ds w':=
 h.to fun k o ho hn=>by
  rw[hg.block k (Array.getElem?_eq_some_iff.1 ho).1 fun e=>?_]
  . exact ho
  . obtain⟨a,b,c,hc⟩:=hG k e.symm
    rw[ho] at hc;exact hn a b c (Option.some.inj hc)
structure Sim(sz:TypeId->Nat)(w0:World)(V0:Fr)(V:Vw)(μ:List Nat)(ω:List Value)(s:St)(a:Act)(w:World):Prop where
 tmps:a.tmps.size=s.n
 defers:gY w0 V0 a.defers w
 env:∀ t,RS sz V μ ω (fB V0 s.n a t) (look s.env t)
 mem:Mem sz w0 V0 V μ ω s.box s.row w
def Ext(w w':World):Prop:=Below w.heap.size w w'
theorem Ext.refl(w:World):Ext w w:=Below.refl _ _
theorem Ext.trans{a b c:World}(h:Ext a b)(k:Ext b c):Ext a c:=Below.trans h (Below.mono k h.size)
theorem Ext.cell{w w':World}(h:Ext w w'){p:Addr}{v:Value}(hc:w.cell? p=some v):w'.cell? p=some v:=by
 rw[Below.cell h (World.block_lt_of_cell? w p hc)];exact hc
theorem Ext.heap{w w':World}(h:Ext w w'){g:Nat}{o:Obj}(hg:w.heap[g]? = some o):w'.heap[g]? = some o:=by
 rw[h.block g (Array.getElem?_eq_some_iff.1 hg).1];exact hg
theorem VOk.ext{V:Vw}{w w':World}(h:VOk V w)(he:Ext w w'):VOk V w':=⟨⟨h.1.1,fun g cs hg=>let ⟨h1,a,b,h2⟩:=h.1.2 g cs hg;⟨h1,a,b,he.heap h2⟩⟩,fun p v hp=>he.cell (h.2 p v hp)⟩
section
variable {w w' : World} {base : Nat} {e : TypeId} {size : Nat} {v : Value} {n : Nat} {xs : List Value}
theorem iD.of(h:w.ownsRow base e size v n xs):iD w base e size v n xs:=by
 refine⟨h.1,?_⟩;rcases h.2 with h|⟨g,cap,cur,a,b,c,d,e1,f,k⟩
 . exact .inl h
 . exact .inr ⟨g,cap,cur,e,(0,0),a,b,c,d,e1,f,k,.inl ⟨rfl,rfl⟩⟩
theorem iD.plain(h:iD w base e size v n xs)(he:e<BIG):w.ownsRow base e size v n xs:=by
 refine⟨h.1,?_⟩;rcases h.2 with h|⟨g,cap,cur,e',fz,a,b,c,d,e1,f,k,⟨rfl,rfl⟩|⟨hb,_⟩⟩
 . exact .inl h
 . exact .inr ⟨g,cap,cur,a,b,c,d,e1,f,k⟩
 . exact absurd he (Nat.not_lt.2 hb)
theorem iD.lt(h:iD w base e size v n xs):∀ k,v.ownBlock=some k->base<=k/\k<w.heap.size:=by
 intro k hk;rcases h.2 with⟨rfl,_⟩|⟨g,cap,cur,e',fz,rfl,b,c,_⟩
 . simp[Value.ownBlock] at hk
 . simp only[Value.ownBlock,Option.some.injEq] at hk
   subst hk;exact⟨b,(Array.getElem?_eq_some_iff.1 c).1⟩
theorem iD.kept{row:Option Nat}(h:iD w base e size v n xs)(hg:w.grownBy w' row)(hne:v.ownBlock=none\/v.ownBlock ≠ row):iD w' base e size v n xs:=by
 refine⟨h.1,?_⟩;rcases h.2 with hn|⟨g,cap,cur,e',fz,rfl,hb,hgg,rest⟩
 . exact .inl hn
 . refine .inr ⟨g,cap,cur,e',fz,rfl,hb,?_,rest⟩
   rw[hg.block g (Array.getElem?_eq_some_iff.1 hgg).1 (by simpa[Value.ownBlock] using hne)];exact hgg
theorem iD.cells(h:iD w base e size v n xs){g:Nat}(hg:v.ownBlock=some g):∀ j u,xs[j]? = some u->w.cell? ((⟨g,0,none⟩:Addr).add j)=some u:=by
 intro j u hu;rcases h.2 with⟨rfl,_⟩|⟨g',cap,cur,e',fz,rfl,b,c,h5,h6,h7,h8,_⟩
 . simp[Value.ownBlock] at hg
 . simp only[Value.ownBlock,Option.some.injEq] at hg
   subst hg;have ha:(⟨g',0,none⟩:Addr).add j=⟨g',j,none⟩:=by cases j<;>simp[Addr.add]
   rw[ha,cell_of_row w g' j cur e' fz c];have hj:j<n*size:=by rw[<- h.1];exact (aK.1 hu).1
   rw[<- h8,List.getElem?_take_of_lt hj,Array.getElem?_toList] at hu;exact hu
end
theorem Vr{w w':World}{B:Nat}{e:TypeId}{z:Nat}{v:Value}{n:Nat}{xs:List Value}(h:iD w B e z v n xs)(he:Ext w w'):iD w' B e z v n xs:=by
 refine⟨h.1,?_⟩;rcases h.2 with hn|⟨g,cap,cur,e',fz,hv,hb,hg,r⟩
 . exact .inl hn
 . exact .inr ⟨g,cap,cur,e',fz,hv,hb,he.heap hg,r⟩
theorem ownsRow_base{w:World}{B B':Nat}{e:TypeId}{z:Nat}{v:Value}{n:Nat}{xs:List Value}(h:iD w B e z v n xs)(hb:B'<=B):iD w B' e z v n xs:=by
 refine⟨h.1,?_⟩;rcases h.2 with hn|⟨g,cap,cur,e',fz,hv,hg,r⟩
 . exact .inl hn
 . exact .inr ⟨g,cap,cur,e',fz,hv,Nat.le_trans hb hg,r⟩
section
variable {sz : TypeId → Nat} {w0 w w' : World} {V0 : Fr} {V V' : Vw} {μ μ' : List Nat} {ω ω' : List Value} {box : List (List D)} {row : Rows} {s : St} {a : Act}
theorem Mem.ext(h:Mem sz w0 V0 V μ ω box row w)(he:Ext w w'):Mem sz w0 V0 V μ ω box row w' where
 below:=h.below.trans (he.mono h.below.size)
 vok:=h.vok.ext he
 vle:=h.vle
 gu:=h.gu
 bl:=h.bl
 hbox:=fun i g cs h1 h2=>let ⟨vs,t,a,b,c,d⟩:=h.hbox i g cs h1 h2;⟨vs,t,he.heap a,b,c,d⟩
 rl:=h.rl
 hrow:=fun r v e xs h1 h2=>let ⟨vals,a,b,c,d⟩:=h.hrow r v e xs h1 h2;⟨vals,Vr a he,b,c,d⟩
 uniq:=h.uniq
 new:=fun l g hl=>let ⟨a,b⟩:=h.new l g hl;⟨a,Nat.lt_of_lt_of_le b he.size⟩
 eF:=h.eF
 away:=fun x hx=>let ⟨a,b,c,d⟩:=h.away x hx;⟨he.heap a,b,c,d⟩
theorem gY.ext{ds:List Deferred}(h:gY w0 V0 ds w)(he:Ext w w'):gY w0 V0 ds w':=h.to fun _ _ ho _=>he.heap ho
theorem Sim.ext(h:Sim sz w0 V0 V μ ω s a w)(he:Ext w w'):Sim sz w0 V0 V μ ω s a w':=⟨h.tmps,h.defers.ext he,h.env,h.mem.ext he⟩
theorem Yn{sz:TypeId->Nat}{t x:Nat}{d:D}{env:List (Nat × D)}{a:Act}{v:Value}{n:Nat}(hn:a.tmps.size=n)(ht:t<n)
    (hv:RS sz V μ ω v d)(he:∀ t,RS sz V μ ω (fB V0 n a t) (look env t)) :
    RS sz V μ ω (fB V0 n (a.put (some t) v) x) (look ((t,d) :: env) x):=by
 unfold look;by_cases hx:t=x
 . subst hx
   have:Nat.beq t t=true:=Nat.beq_refl t;rw[this];have hts:t<a.tmps.size:=oA;simpa[fB,ht,Act.put,Array.getD,hts] using hv
 . have hb:Nat.beq t x=false:=by
     cases hq:Nat.beq t x with
     | false=>rfl
     | true=>exact absurd (Nat.eq_of_beq_eq_true hq) hx
   rw[hb];have:=he x;unfold fB at this ⊢;split
   . rename_i hxn
     rw[if_pos hxn] at this;have hxs:x<a.tmps.size:=oA;simp only[Act.put,Array.getD,Array.size_setIfInBounds,hxs,dif_pos,Array.getInternal_eq_getElem] at this ⊢;rwa [Array.getElem_setIfInBounds hxs,if_neg hx]
   . rename_i hxn
     rwa [if_neg hxn] at this
theorem Sim.put(h:Sim sz w0 V0 V μ ω s a w){t:Nat}{d:D}{v:Value}(ht:t<s.n)(hv:RS sz V μ ω v d) :
    Sim sz w0 V0 V μ ω ⟨(t,d) :: s.env,s.box,s.row,s.n⟩ (a.put (some t) v) w:=
 ⟨by simpa[Act.put] using h.tmps,h.defers,fun x=>Yn h.tmps ht hv h.env,h.mem⟩
theorem IG{a b:Nat}(h:Nat.blt a b=true):a<b:=by
 unfold Nat.blt at h;rw[Nat.ble_eq] at h;exact h
theorem Sim.slot(h:Sim sz w0 V0 V μ ω s a w){t:Nat}(ht:t<s.n):RS sz V μ ω (a.tmps.getD t undef) (look s.env t):=by
 have:=h.env t;unfold fB at this;rwa [if_pos ht] at this
def Fz:D->Prop|.tt|.ff|.i _ _|.s _=>True|_=>False
theorem Ji:∀ {cs:List D},wZ cs=true->∀ (j:Nat) d,cs[j]? = some d->Fz d
 | [],_,j,d,h=>by simp at h
 | c :: cs,hg,j,d,h=>by
  have h2:Fz c/\wZ cs=true:=by cases c<;>first|exact⟨trivial,hg⟩|cases hg
  cases j with
  | zero=>simp at h;subst h;exact h2.1
  | succ j=>exact Ji h2.2 j d (by simpa using h)
theorem Yo{d:D}(h:Fz d):(rQ d).oneCell'=true:=by cases d<;>first|rfl|exact h.elim
theorem ZN{sz:TypeId->Nat}{V:Vw}{d:D}(h:Fz d):RI sz V (rQ d) d:=by
 cases d<;>first|exact h.elim|skip
 . exact .i _ _
 . exact .tt
 . exact .ff
 . exact .s _
theorem Yp(g j:Nat):(⟨g,0,none⟩:Addr).add j=⟨g,j,none⟩:=by cases j<;>simp[Addr.add]
theorem Sim.get(h:Sim sz w0 V0 V μ ω s a w)(x:Operand):RS sz V μ ω (a.eval x) (s.get x):=by
 cases x with
 | tmp t=>
  simp only[St.get];split
  . rename_i hb;exact h.slot (IG hb)
  . exact .imm _ _ (.u _)
 | const v=>
  refine .imm _ _ ?_;show RI sz V v (ofC v);unfold ofC;split
  . rename_i cs
    split
    . rename_i ho
      refine .agg _ _ sI (fun v hv=>List.all_eq_true.1 ho v hv) fun j v d h1 h2=>?_
      simp only[aN,Array.getElem?_toList,h1,Option.map_some,Option.some.injEq] at h2;subst h2;exact DU v
    . exact .u _
  . exact DU v
 | global g=>
  simp only[St.get];split
  . rename_i cs hcs
    split
    . rename_i hok
      refine .imm _ _ (.ep _ _ (fun j=>rQ (cs.getD j .u)) (fun j d hd=>?_) (fun j d hd=>?_))
      . have hg:glV ((⟨g,0,none⟩:Addr).add j)=some (rQ d):=by
          rw[Yp];simp only[glV,hcs,hd,Option.map_some]
        rw[List.getD_eq_getElem?_getD,hd];exact⟨h.mem.vok.1.1 _ _ hg,Yo (Ji hok j d hd)⟩
      . rw[List.getD_eq_getElem?_getD,hd]
        exact ZN (Ji hok j d hd)
    . exact .imm _ _ (.u _)
  . exact .imm _ _ (.u _)
 | func f=>exact .imm _ _ (.fn f [] [] #[] #[] rfl rfl (fun j v d h=>by simp at h) (fun j v d h=>by simp at h))
def Cells(sz:TypeId->Nat)(V:Vw)(μ:List Nat)(ω:List Value)(w:World)(p:Addr)(ds:List D)(val:Nat->Value):Prop:=
 ∀ (j:Nat) d,ds[j]? = some d->w.cell? (p.add j)=some (val j)/\(val j).oneCell'=true/\RS sz V μ ω (val j) d
theorem add_add(a:Addr)(i j:Nat):(a.add i).add j=a.add (i+j):=by
 unfold Addr.add;by_cases hi:i=0<;>by_cases hj:j=0<;>simp[hi,hj,Nat.add_assoc]
theorem add_lit(g o j:Nat):(⟨g,o,none⟩:Addr).add j=⟨g,o+j,none⟩:=by
 unfold Addr.add;split<;>simp_all
theorem Cells.drop{p:Addr}{ds:List D}{val:Nat->Value}(h:Cells sz V μ ω w p ds val)(off:Nat):Cells sz V μ ω w (p.add off) (ds.drop off) (fun j=>val (off+j)):=by
 intro j d hd;rw[add_add];exact h (off+j) d (by simpa using hd)
theorem ou{a b:Nat}{p:Prop}:leB a b p ↔ a<=b/\p:=by
 unfold leB;by_cases h:a<=b
 . have:Nat.ble a b=true:=by rw[Nat.ble_eq];exact h
   rw[this];simp[h]
 . have:Nat.ble a b=false:=by
     cases hq:Nat.ble a b with
     | false=>rfl
     | true=>exact absurd (by rwa [Nat.ble_eq] at hq) h
   rw[this];simp[h]
def mF(p:Addr)(n:Nat)(w w':World):Prop:=∀ (j:Nat) v,j<n->w.cell? (p.add j)=some v->w'.cell? (p.add j)=some v
theorem Ext.TP(h:Ext w w')(p:Addr)(n:Nat):mF p n w w':=fun _ _ _ hc=>h.cell hc
theorem add_block(p:Addr)(j:Nat):(p.add j).block=p.block:=by unfold Addr.add;split<;>rfl
def iL(V:Vw)(μ:List Nat)(ω:List Value):Src->Addr->Nat->Prop
 | .none,p,n=>∀ j,j<n->∃ v,V (p.add j)=some v
 | .box i,p,_=>μ[i]? = some p.block
 | .row r,p,_=>∃ v,ω[r]? = some v/\v.ownBlock=some p.block
 | .all,_,_=>False
 | .reg,_,n=>n=0
theorem iL.zero(p:Addr):iL V μ ω .reg p 0:=rfl
theorem GY{P:Program}{T:Tab}(hT:TOk P T){t:TypeId}{p:Addr}{ds:List D}{val:Nat->Value}{K:D->Prop}(h:Cells sz V μ ω w p ds val)
    (hk:pW T t ds K):∃ d u,K d/\RS sz V μ ω u d/\∀ w',mF p ds.length w w'->(loadVar t p).run P w' = .ok u w':=by
 unfold pW at hk;split at hk
 case h_2=>exact hk.elim
 rename_i ti hti;have hg:=hT t ti hti
 cases hag:ti.agg with
 | true=>
  rw[hag] at hk;simp only[ou,iQ] at hk;obtain⟨hle,hk⟩:=hk;refine⟨_,.agg ((List.range ti.size).map val).toArray,hk,?_,?_⟩
  . refine .agg _ _ sO ?_ ?_
    . intro v hv
      simp only[List.mem_map,List.mem_range] at hv;obtain⟨j,hj,rfl⟩:=hv;exact (h j _ (aC oA)).2.1
    . intro j v d h1 h2
      simp only[List.getElem?_toArray,aN] at h1;by_cases hj:j<ti.size
      . rw[List.getElem?_range hj] at h1
        simp only[Option.map_some,Option.some.injEq] at h1;subst h1;rw[List.getElem?_take_of_lt hj] at h2;exact (h j d h2).2.2
      . rw[List.getElem?_eq_none sO] at h2
        cases h2
  . intro w' he
    have hl:=run_loadCells (P:=P) w' p ti.size val (fun j hj=>he j _ oA (h j _ (aC oA)).1);simp[loadVar,hg.agg,hag,hg.size,hl]
 | false=>
  rw[hag] at hk
  cases ds with
  | nil=>exact hk.elim
  | cons c r=>
   simp only[D.force_eq] at hk;obtain⟨h1,h2,h3⟩:=h 0 c rfl;refine⟨c,val 0,hk,h3,fun w' he=>?_⟩;have hc:=he 0 _ sI h1;have hz:p.add 0=p:=by simp[Addr.add]
   rw[hz] at hc;simp[loadVar,hg.agg,hag,run_load,hc]
theorem Mem.Yq(h:Mem sz w0 V0 V μ ω box row w){i g:Nat}{cs:List D}(h1:μ[i]? = some g)(h2:box[i]? = some cs) :
    ∃ val,Cells sz V μ ω w ⟨g,0,none⟩ cs val:=by
 obtain⟨vs,t,hh,hs,ho,hR,_⟩:=h.hbox i g cs h1 h2;refine⟨fun j=>vs.getD j undef,fun j d hd=>?_⟩;have hj:j<vs.size:=by rw[hs];exact (aK.1 hd).1
 have hv:vs[j]? = some vs[j]:=Array.getElem?_eq_getElem hj;have hg:vs.getD j undef=vs[j]:=by simp[Array.getD,hj]
 rw[add_lit,Nat.zero_add];show _=some (vs.getD j undef)/\(vs.getD j undef).oneCell'=true/\RS sz V μ ω (vs.getD j undef) d;rw[hg];refine⟨by rw[cell_of_row w g j vs t (0,0) hh];exact hv,ho _ sI,hR j _ d hv hd⟩
theorem Mem.PS(h:Mem sz w0 V0 V μ ω box row w){r:Nat}{A:Option Addr}{N c:Nat}{e:TypeId}{xs:List (List D)}(h1:ω[r]? = some (.slice A N c))(h2:row[r]? = some (some (e,xs)))
    {j:Nat}{rw_:List D}(hj:xs[j]? = some rw_):∃ g val,A=some ⟨g,0,none⟩/\Cells sz V μ ω w ⟨g,j*sz e,none⟩ rw_ val:=by
 obtain⟨vals,hown,ho,hl,hR⟩:=h.hrow r _ e xs h1 h2;have hjl:j<xs.length:=(aK.1 hj).1;have hA:∃ g,A=some ⟨g,0,none⟩:=by
  rcases hown.2 with⟨hv,hn⟩|⟨g,cap,cur,e',fz,hv,_⟩
  . omega
  . injection hv with hv;exact⟨g,hv⟩
 obtain⟨g,rfl⟩:=hA;refine⟨g,fun k=>vals.getD (j*sz e+k) undef,rfl,fun k d hd=>?_⟩;obtain⟨u,hu,hr⟩:=hR j rw_ k d hj hd;have hc:=hown.cells (g:=g) rfl _ _ hu;rw[add_lit,Nat.zero_add] at hc;rw[add_lit];have hgd:vals.getD (j*sz e+k) undef=u:=by simp[List.getD,hu]
 show _=some (vals.getD (j*sz e+k) undef)/\(vals.getD (j*sz e+k) undef).oneCell'=true/\RS sz V μ ω (vals.getD (j*sz e+k) undef) d;rw[hgd];exact⟨hc,ho u (aU hu),.imm _ _ hr⟩
theorem Nq{P:Program}{T:Tab}(hT:TOk P T)(hS:Mem (ah T) w0 V0 V μ ω s.box s.row w){t:TypeId}{x:D}{v:Value}{K:D->Prop}(hv:RS (ah T) V μ ω v x)
    (hk:F9 T s t x K):∃ p n d u,v = .pointer (some p)/\K d/\RS (ah T) V μ ω u d/\iL V μ ω (Bd x) p n/\∀ w',mF p n w w'->(loadVar t p).run P w' = .ok u w':=by
 unfold F9 at hk;split at hk
 . rename_i cells
   cases hv with
   | imm _ _ h=>
    cases h with
    | ep _ ad val hV hR=>
     obtain⟨d,u,h1,h2,h3⟩:=GY (sz:=ah T) (μ:=μ) (ω:=ω) hT (fun j d hd=>⟨hS.vok.2 _ _ (hV j d hd).1,(hV j d hd).2,.imm _ _ (hR j d hd)⟩) hk;exact⟨ad,cells.length,d,u,rfl,h1,h2,fun j hj=>⟨_,(hV j _ (aC hj)).1⟩,h3⟩
 . rename_i i off
   split at hk
   case h_2=>exact hk.elim
   rename_i cs hcs
   cases hv with
   | imm _ _ h=>cases h
   | bp _ _ g hg=>
    obtain⟨val,hc⟩:=hS.Yq hg hcs;have:=hc.drop off;rw[add_lit,Nat.zero_add] at this;obtain⟨d,u,h1,h2,h3⟩:=GY hT this hk;exact⟨_,_,d,u,rfl,h1,h2,hg,h3⟩
 . rename_i r e j off
   split at hk
   case h_2=>exact hk.elim
   rename_i e' xs hxs;obtain⟨rfl,rw_,hj,hk⟩:=hk
   cases hv with
   | imm _ _ h=>cases h
   | op _ _ _ _ g N c hg=>
    obtain⟨g',val,hgg,hc⟩:=hS.PS hg hxs hj;simp only[Option.some.injEq,Addr.mk.injEq,and_true] at hgg;subst hgg;have:=hc.drop off;rw[add_lit] at this;obtain⟨d,u,h1,h2,h3⟩:=GY hT this hk;exact⟨_,_,d,u,rfl,h1,h2,⟨_,hg,rfl⟩,h3⟩
 . exact hk.elim
end
end Go.Vx
namespace Go.Vx
open Go.RowKit
section
variable {sz : TypeId → Nat} {w0 w w' : World} {V0 : Fr} {V : Vw} {μ : List Nat} {ω : List Value} {s : St} {a : Act} {P : Program} {T : Tab}
theorem dO{a b:Nat}(h:Nat.beq a b=true):a=b:=Nat.eq_of_beq_eq_true h
theorem Sim.set(h:Sim sz w0 V0 V μ ω s a w){t:Nat}{d:D}(ht:t<s.n)(hv:RS sz V μ ω (a.tmps.getD t undef) d):Sim sz w0 V0 V μ ω (s.set t d) a w:=by
 obtain⟨env,box,row,n⟩:=s;refine⟨h.tmps,h.defers,fun x=>?_,h.mem⟩;show RS sz V μ ω (fB V0 n a x) (look ((t,d) :: env) x);unfold look
 cases hq:Nat.beq t x with
 | true=>rw[<- dO hq];unfold fB;rw[if_pos ht];exact hv
 | false=>exact h.env x
theorem RS.bool{v:Value}{p:Prop}(h:RS sz V μ ω v (.b p)):∃ x:Bool,v = .bool x/\(x=true ↔ p):=by
 cases h with|imm _ _ h=>cases h with|b x _ h=>exact⟨x,rfl,h⟩
theorem RS.tt_{v:Value}(h:RS sz V μ ω v .tt):v = .bool true:=by cases h with|imm _ _ h=>cases h;rfl
theorem RS.ff_{v:Value}(h:RS sz V μ ω v .ff):v = .bool false:=by cases h with|imm _ _ h=>cases h;rfl
theorem RS.fQ{v:Value}{k:IntKind}{n:Int}(h:RS sz V μ ω v (.i k n)):v = .int k n:=by cases h with|imm _ _ h=>cases h;rfl
theorem RS.nP{v:Value}{l:List UInt8}(h:RS sz V μ ω v (.s l)):v = .string (bK l):=by cases h with|imm _ _ h=>cases h;rfl
theorem RS.iY{v:Value}(h:RS sz V μ ω v .aO):v = .slice none 0 0:=by cases h with|imm _ _ h=>cases h;rfl
theorem RS.jU{v:Value}{cs:List D}(h:RS sz V μ ω v (.agg cs)):∃ vs:Array Value,v = .agg vs/\vs.size=cs.length/\(∀ v ∈ vs.toList,v.oneCell'=true)/\∀ (j:Nat) v d,vs[j]? = some v->cs[j]? = some d->RS sz V μ ω v d:=by
 cases h with
 | imm _ _ h=>cases h with|agg _ vs hs ho hR=>exact⟨vs,rfl,hs,ho,fun j v d h1 h2=>.imm _ _ (hR j v d h1 h2)⟩
 | agg _ vs hs ho hR=>exact⟨vs,rfl,hs,ho,hR⟩
theorem RS.xk{v:Value}{cs:List D}(h:RS sz V μ ω v (.tup cs)):∃ vs:Array Value,v = .tuple vs/\vs.size=cs.length/\∀ (j:Nat) v d,vs[j]? = some v->cs[j]? = some d->RS sz V μ ω v d:=by
 cases h with
 | imm _ _ h=>cases h with|tup _ vs hs hR=>exact⟨vs,rfl,hs,fun j v d h1 h2=>.imm _ _ (hR j v d h1 h2)⟩
 | tup _ vs hs hR=>exact⟨vs,rfl,hs,hR⟩
theorem RS.BP{v:Value}{e:TypeId}{rows room:List (List D)}(h:RS sz V μ ω v (.lst e rows room)):∃ (A:Option Addr) (ad:Addr) (c:Nat) (val:Nat->Nat->Value),v = .slice A rows.length c /\
    rows.length+room.length<=c/\c<=maxLen/\(rows++room ≠ []->A=some ad)/\(A=none->c=0)/\(∀ (i:Nat) row,(rows++room)[i]? = some row->row.length=sz e) /\
    (∀ (i:Nat) row (j:Nat) d,(rows++room)[i]? = some row->row[j]? = some d->V (ad.add (i*sz e+j))=some (val i j)/\(val i j).oneCell'=true) /\
    (∀ (i:Nat) row (j:Nat) d,(rows++room)[i]? = some row->row[j]? = some d->RI sz V (val i j) d):=by
 cases h with|imm _ _ h=>cases h with|lst _ _ _ A ad c val hc hm hA hn hl hV hR=>exact⟨A,ad,c,val,rfl,hc,hm,hA,hn,hl,hV,hR⟩
theorem RS.jd{v:Value}{r n:Nat}(h:RS sz V μ ω v (.own r n)):∃ A N c,ω[r]? = some (.slice A N c)/\n<=N/\v = .slice A n c:=by
 cases h with
 | imm _ _ h=>cases h
 | own _ _ A N c h hn=>exact⟨A,N,c,h,hn,rfl⟩
theorem RS.bp_{v:Value}{i off:Nat}(h:RS sz V μ ω v (.bp i off)):∃ g,μ[i]? = some g/\v = .pointer (some ⟨g,off,none⟩):=by
 cases h with
 | imm _ _ h=>cases h
 | bp _ _ g h=>exact⟨g,h,rfl⟩
theorem RS.op_{v:Value}{r j off:Nat}{e:TypeId}(h:RS sz V μ ω v (.op r e j off)):∃ g N c,ω[r]? = some (.slice (some ⟨g,0,none⟩) N c)/\v = .pointer (some ⟨g,j*sz e+off,none⟩):=by
 cases h with
 | imm _ _ h=>cases h
 | op _ _ _ _ g N c h=>exact⟨g,N,c,h,rfl⟩
theorem RS.zi{v:Value}{r g n c:Nat}(h:RS sz V μ ω v (.tie r g n c)):ω[r]? = some (.slice (some ⟨g,0,none⟩) n c):=by
 cases h with
 | imm _ _ h=>cases h
 | tie _ _ _ _ _ h=>exact h
theorem RS.BQ{v:Value}(h:RS sz V μ ω v .rnl):v = .slice none 0 0:=by
 cases h with|imm _ _ h=>cases h;rfl
theorem RS.BR{v:Value}{g n c:Nat}(h:RS sz V μ ω v (.rsl g n c)):v = .slice (some ⟨g,0,none⟩) n c:=by
 cases h with
 | imm _ _ h=>cases h;rfl
theorem RS.Uk{v:Value}{r lo n:Nat}{e:TypeId}(h:RS sz V μ ω v (.osl r e lo n)):∃ g N c c',ω[r]? = some (.slice (some ⟨g,0,none⟩) N c)/\lo+n<=N/\v = .slice (some ⟨g,lo*sz e,none⟩) n c':=by
 cases h with
 | imm _ _ h=>cases h
 | osl _ _ _ _ g N c c' h hn=>exact⟨g,N,c,c',h,hn,rfl⟩
theorem RS.ep_{v:Value}{cells:List D}(h:RS sz V μ ω v (.ep cells)):∃ (ad:Addr) (val:Nat->Value),v = .pointer (some ad)/\(∀ (j:Nat) d,cells[j]? = some d->V (ad.add j)=some (val j)/\(val j).oneCell'=true) /\
    ∀ (j:Nat) d,cells[j]? = some d->RI sz V (val j) d:=by
 cases h with|imm _ _ h=>cases h with|ep _ ad val hV hR=>exact⟨ad,val,rfl,hV,hR⟩
theorem RS.TQ{v:Value}{d:D}{p:Prop}(h:RS sz V μ ω v d)(hp:d.prop=some p):∃ x:Bool,v = .bool x/\(x=true ↔ p):=by
 cases d<;>simp only[D.prop,Option.some.injEq] at hp<;>try contradiction
 . subst hp;exact h.bool
 . subst hp;exact⟨true,h.tt_,sI⟩
 . subst hp;exact⟨false,h.ff_,sI⟩
theorem Sim.know(h:Sim sz w0 V0 V μ ω s a w)(c:Operand){d:D}(hv:RS sz V μ ω (a.eval c) d):Sim sz w0 V0 V μ ω (s.know c d) a w:=by
 cases c with
 | tmp t=>
  simp only[St.know];split
  . rename_i hb;exact h.set (IG hb) hv
  . exact h
 | _=>exact h
def Qok(P:Program)(sz:TypeId->Nat)(V:Vw)(μ:List Nat)(ω:List Value)(_w:World)(x:Sem Value)(K:D->Prop):Prop:=
 ∃ d v,K d/\RS sz V μ ω v d/\∀ w',True->x.run P w' = .ok v w'
theorem Qok.num{k:IntKind}{m:Int}{K:D->Prop}{x:Sem Value}(h:jF k m K)(hr:∀ w',x.run P w' = .ok (.int k m) w'):Qok P sz V μ ω w x K:=by
 obtain⟨n,rfl,hk⟩:=h;exact⟨_,_,hk,.imm _ _ (.i _ _),fun w' _=>hr w'⟩
theorem Qok.b{p:Prop}{K:D->Prop}{x:Sem Value}{c:Bool}(h:K (.b p))(hc:c=true ↔ p)(hr:∀ w',x.run P w' = .ok (.bool c) w'):Qok P sz V μ ω w x K:=
 ⟨_,_,h,.imm _ _ (.b _ _ hc),fun w' _=>hr w'⟩
theorem V4{o:BinOp}{k:IntKind}{x y:Int}{t:TypeId}{K:D->Prop}(h:KC o k x y K):Qok P sz V μ ω w (binOp o t (.int k x) (.int k y)) K:=by
 cases o<;>simp only[KC] at h
 case add=>exact Qok.num h fun w'=>by simp[binOp,Op.intArith]
 case sub=>exact Qok.num h fun w'=>by simp[binOp,Op.intArith]
 case mul=>exact Qok.num h fun w'=>by simp[binOp,Op.intArith]
 case quo=>exact Qok.num h.2 fun w'=>by simp[binOp,Op.intDiv,h.1]
 case rem=>exact Qok.num h.2 fun w'=>by simp[binOp,Op.intDiv,h.1]
 case and=>exact Qok.num h fun w'=>by simp[binOp,Op.intBits]
 case or=>exact Qok.num h fun w'=>by simp[binOp,Op.intBits]
 case xor=>exact Qok.num h fun w'=>by simp[binOp,Op.intBits]
 case andNot=>exact Qok.num h fun w'=>by simp[binOp,Op.intBits]
 case eql=>exact Qok.b h (c:=x == y) sI fun w'=>by simp[binOp,Op.intCmp]
 case neq=>exact Qok.b h (c:=x != y) sI fun w'=>by simp[binOp,Op.intCmp]
 case lss=>exact Qok.b h (c:=decide (x<y)) sI fun w'=>by simp[binOp,Op.intCmp]
 case leq=>exact Qok.b h (c:=decide (x<=y)) sI fun w'=>by simp[binOp,Op.intCmp]
 case gtr=>exact Qok.b h (c:=decide (x > y)) sI fun w'=>by simp[binOp,Op.intCmp]
 case geq=>exact Qok.b h (c:=decide (x ≥ y)) sI fun w'=>by simp[binOp,Op.intCmp]
theorem Vs(l m:List UInt8):bK l++bK m=bK (l++m):=by
 apply ByteArray.ext;simp[bK,ByteArray.data_append]
theorem V5{o:BinOp}{x y:List UInt8}{t:TypeId}{K:D->Prop}(h:KD o x y K):Qok P sz V μ ω w (binOp o t (.string (bK x)) (.string (bK y))) K:=by
 cases o<;>simp only[KD] at h
 case add=>
  refine⟨_,_,h.2,.imm _ _ (.s _),fun w' _=>?_⟩;have hm:IntKind.i64.max=9223372036854775807:=rfl;have hn:¬ (((bK x).size+(bK y).size:Nat):Int) > IntKind.i64.max:=by rw[hm,mZ,mZ];omega
  simp only[binOp,Op.stringOp,if_neg hn,Vs,Sem.run_pure]
 case eql=>exact Qok.b h (c:=x == y) sI fun w'=>by simp[binOp,Op.stringOp,sN]
 case neq=>exact Qok.b h (c:=!(x == y)) sI fun w'=>by simp[binOp,Op.stringOp,sN]
 case lss=>exact Qok.b h (c:=Op.bytesLess x y) sI fun w'=>by simp[binOp,Op.stringOp,sN]
 case leq=>exact Qok.b h (c:=Op.bytesLess x y || x == y) sI fun w'=>by simp[binOp,Op.stringOp,sN]
 case gtr=>exact Qok.b h (c:=!(Op.bytesLess x y || x == y)) sI fun w'=>by simp[binOp,Op.stringOp,sN]
 case geq=>exact Qok.b h (c:=!(Op.bytesLess x y)) sI fun w'=>by simp[binOp,Op.stringOp,sN]
theorem run_equalIn_bool(d:Nat){t:TypeId}(ht:P.underlying t=some .bool)(x y:Bool)(w:World):(Op.equalIn (d+1) t (.bool x) (.bool y)).run P w = .ok (x == y) w:=by
 simp[Op.equalIn,dF ht]
theorem run_equal_bool{t:TypeId}(ht:P.underlying t=some .bool)(x y:Bool)(w:World):(Op.equal t (.bool x) (.bool y)).run P w = .ok (x == y) w:=
 run_equalIn_bool 9999 ht x y w
theorem Vt{o:BinOp}{x y:Bool}{p q:Prop}{t:TypeId}{K:D->Prop}(ht:P.underlying t=some .bool)(hp:x=true ↔ p)(hq:y=true ↔ q)(h:JV o p q K) :
    Qok P sz V μ ω w (binOp o t (.bool x) (.bool y)) K:=by
 cases o<;>simp only[JV] at h
 case eql=>exact Qok.b h (c:=x == y) (by rw[beq_iff_eq,<- hp,<- hq];exact Bool.eq_iff_iff) fun w'=>by simp only[binOp,Sem.run_bind,run_equal_bool ht,Result.andThen_ok,Sem.run_pure]
 case neq=>exact Qok.b h (c:=!(x == y)) (by rw[Bool.not_eq_true',beq_eq_false_iff_ne,ne_eq,Bool.eq_iff_iff,<- hp,<- hq]) fun w'=>by simp only[binOp,Sem.run_bind,run_equal_bool ht,Result.andThen_ok,Sem.run_pure]
theorem vO{a:Sh}{d:D}(h:sh1 a d=true):(∃ k n,d = .i k n/\a = .i k)\/(∃ l,d = .s l/\a = .s)\/∃ p,d = .b p/\a = .b:=by
 cases a<;>cases d<;>simp only[sh1,Bool.false_eq_true] at h
 . rename_i k k' n
   have:=Ei h;subst this;exact .inl ⟨_,_,rfl,rfl⟩
 . exact .inr (.inl ⟨_,rfl,rfl⟩)
 . exact .inr (.inr ⟨_,rfl,rfl⟩)
theorem qP{a:Sh}{s:List Sh}{x:List D}(h:shB (a :: s) x=true):∃ d r,x=d :: r/\sh1 a d=true/\shB s r=true:=by
 cases x with
 | nil=>simp[shB] at h
 | cons d r=>
  simp only[shB] at h;split at h
  . rename_i hd;exact⟨d,r,rfl,hd,h⟩
  . cases h
theorem vP{x:List D}(h:shB [] x=true):x=[]:=by
 cases x with
 | nil=>rfl
 | cons d r=>simp[shB] at h
theorem Aj:∀ {sh:List Sh} {x:List D},shB sh x=true->∀ (j:Nat) d,x[j]? = some d->(∃ k n,d = .i k n)\/(∃ l,d = .s l)\/∃ p,d = .b p
 | [],x,h,j,d,hd=>by rw[vP h] at hd;simp at hd
 | a :: s,x,h,j,d,hd=>by
  obtain⟨c,r,rfl,h1,h2⟩:=qP h
  cases j with
  | zero=>
   simp at hd;subst hd;rcases vO h1 with⟨k,n,h,_⟩|⟨l,h,_⟩|⟨p,h,_⟩
   . exact .inl ⟨k,n,h⟩
   . exact .inr (.inl ⟨l,h⟩)
   . exact .inr (.inr ⟨p,h⟩)
  | succ j=>exact Aj h2 j d (by simpa using hd)
theorem DV{v:Value}{d:D}(h:RS sz V μ ω v d)(hd:(∃ k n,d = .i k n)\/(∃ l,d = .s l)\/∃ p,d = .b p):lq d v:=by
 rcases hd with⟨k,n,rfl⟩|⟨l,rfl⟩|⟨p,rfl⟩
 . exact h.fQ
 . exact h.nP
 . exact h.bool
theorem jv{b:Bool}{p:Prop}:jC b p ↔ b=true/\p:=by cases b<;>simp[jC]
theorem V6{o:BinOp}{x y:List D}{vs us:Array Value}{t:TypeId}{X Y:Operand}{K:D->Prop}(hx:RS sz V μ ω (.agg vs) (.agg x))(hy:RS sz V μ ω (.agg us) (.agg y))(h:KE P o t x y K) :
    Qok P sz V μ ω w (do eqGuard o t X Y (.agg vs) (.agg us);binOp o t (.agg vs) (.agg us)) K:=by
 obtain⟨vs',e1,hs1,_,hR1⟩:=hx.jU;cases e1;obtain⟨us',e2,hs2,_,hR2⟩:=hy.jU;cases e2;cases o<;>simp only[KE,jv] at h
 case eql=>
  obtain⟨sh,hE,hg,hp,hk⟩:=h;rw[Bool.and_eq_true] at hp;obtain⟨hp1,hp2⟩:=hp;have key:=fun w'=>hE x y vs us w' hp1 hp2 hs1 hs2 (fun j v d h1 h2=>DV (hR1 j v d h1 h2) (Aj hp1 j d h2)) (fun j v d h1 h2=>DV (hR2 j v d h1 h2) (Aj hp2 j d h2))
  obtain⟨c,_,hc⟩:=key w;refine Qok.b hk hc fun w'=>?_
  obtain⟨c',hr,hc'⟩:=key w';have:c'=c:=by rw[Bool.eq_iff_iff];exact hc'.trans hc.symm
  subst this;simp[eqGuard,hg,binOp,hr]
 case neq=>
  obtain⟨sh,hE,hg,hp,hk⟩:=h;rw[Bool.and_eq_true] at hp;obtain⟨hp1,hp2⟩:=hp;have key:=fun w'=>hE x y vs us w' hp1 hp2 hs1 hs2 (fun j v d h1 h2=>DV (hR1 j v d h1 h2) (Aj hp1 j d h2)) (fun j v d h1 h2=>DV (hR2 j v d h1 h2) (Aj hp2 j d h2))
  obtain⟨c,_,hc⟩:=key w;refine Qok.b hk (c:=!c) (by rw[Bool.not_eq_true',<- hc];simp) fun w'=>?_
  obtain⟨c',hr,hc'⟩:=key w';have:c'=c:=by rw[Bool.eq_iff_iff];exact hc'.trans hc.symm
  subst this;simp[eqGuard,hg,binOp,hr]
theorem V7(hT:TOk P T){o:BinOp}{x y:D}{v u:Value}{t:TypeId}{X Y:Operand}{K:D->Prop}(hx:RS sz V μ ω v x)(hy:RS sz V μ ω u y)(h:KF P T o t x y K) :
    Qok P sz V μ ω w (do eqGuard o t X Y v u;binOp o t v u) K:=by
 have Xd:∀ (k k':IntKind) (m n:Int) w',(eqGuard o t X Y (.int k m) (.int k' n)).run P w' = .ok () w':=by intro k k' m n w';cases o<;>simp[eqGuard]
 unfold KF at h;split at h
 . rename_i k m k' n
   have e1:=hx.fQ;have e2:=hy.fQ;subst e1 e2;split at h
   . obtain⟨hn,h⟩:=h
     exact Qok.num h fun w'=>by simp[eqGuard,binOp,Op.shift,show ¬ n<0 by omega]
   . obtain⟨hn,h⟩:=h
     exact Qok.num h fun w'=>by simp[eqGuard,binOp,Op.shift,show ¬ n<0 by omega]
   . rw[jv] at h
     obtain⟨hk,h⟩:=h;have:=Ei hk;subst this;obtain⟨d,v,h1,h2,h3⟩:=V4 (P:=P) (sz:=sz) (V:=V) (μ:=μ) (ω:=ω) (w:=w) (t:=t) h;exact⟨d,v,h1,h2,fun w' he=>by simp only[Sem.run_bind,Xd,Result.andThen_ok];exact h3 w' he⟩
 . rename_i m n
   have e1:=hx.nP;have e2:=hy.nP;subst e1 e2;obtain⟨d,v,h1,h2,h3⟩:=V5 (P:=P) (sz:=sz) (V:=V) (μ:=μ) (ω:=ω) (w:=w) (t:=t) h;refine⟨d,v,h1,h2,fun w' he=>?_⟩;have:(eqGuard o t X Y (.string (bK m)) (.string (bK n))).run P w' = .ok () w':=by cases o<;>simp[eqGuard]
   simp only[Sem.run_bind,this,Result.andThen_ok];exact h3 w' he
 . obtain⟨vs,e1,_⟩:=hx.jU
   obtain⟨us,e2,_⟩:=hy.jU;subst e1 e2;exact V6 hx hy h
 . have hu:u = .nilFunc:=by cases hy with|imm _ _ h=>cases h;rfl
   obtain⟨fn,vs,us,hv⟩:∃ fn vs us,v = .func fn vs us:=by cases hx with|imm _ _ h=>cases h;exact⟨_,_,_,rfl⟩
   subst hu hv;have hE:∀ (hf:FnT P t) w',(Op.equal t (.func fn vs us) .nilFunc).run P w' = .ok false w':=by
    intro hf w';have:=hf.ok;unfold TJ at this;split at this
    . rename_i a b c hu
      unfold Op.equal;rw[show Op.maxDepth=(Op.maxDepth - 1)+1 by decide];generalize Op.maxDepth - 1=k;unfold Op.equalIn;simp only[Sem.run_bind,dF hu,Result.andThen_ok,Sem.run_pure]
    . cases this
   cases o<;>first|exact False.elim h|skip
   . obtain⟨hf,h⟩:=h
     exact⟨.ff,.bool false,h,.imm _ _ .ff,fun w' _=>by simp[eqGuard,binOp,hE hf]⟩
   . obtain⟨hf,h⟩:=h
     exact⟨.tt,.bool true,h,.imm _ _ .tt,fun w' _=>by simp[eqGuard,binOp,hE hf]⟩
 . have hu:u = .nilIface:=by cases hy with|imm _ _ h=>cases h;rfl
   obtain⟨tx,x,hv⟩:∃ tx x,v = .iface tx x:=by cases hx with|imm _ _ h=>cases h;exact⟨_,_,rfl⟩
   subst hu hv;have hE:∀ (hf:IfT P t) w',(Op.equal t (.iface tx x) .nilIface).run P w' = .ok false w':=by
    intro hf w';have:=hf.ok;unfold TL at this;split at this
    . rename_i a hu
      unfold Op.equal;rw[show Op.maxDepth=(Op.maxDepth - 1)+1 by decide];generalize Op.maxDepth - 1=k;unfold Op.equalIn;simp only[Sem.run_bind,dF hu,Result.andThen_ok,Sem.run_pure]
    . cases this
   cases o<;>first|exact False.elim h|skip
   . obtain⟨hf,h⟩:=h
     exact⟨.ff,.bool false,h,.imm _ _ .ff,fun w' _=>by simp[eqGuard,binOp,hE hf]⟩
   . obtain⟨hf,h⟩:=h
     exact⟨.tt,.bool true,h,.imm _ _ .tt,fun w' _=>by simp[eqGuard,binOp,hE hf]⟩
 . split at h
   case h_2=>exact h.elim
   rename_i p q hp hq;split at h
   case h_2=>exact h.elim
   rename_i hti;have hu:=(hT _ _ hti).kind;obtain⟨b1,e1,hb1⟩:=hx.TQ hp;obtain⟨b2,e2,hb2⟩:=hy.TQ hq;subst e1 e2;obtain⟨d,v,h1,h2,h3⟩:=Vt (P:=P) (sz:=sz) (V:=V) (μ:=μ) (ω:=ω) (w:=w) hu hb1 hb2 h;refine⟨d,v,h1,h2,fun w' he=>?_⟩;have:(eqGuard o t X Y (.bool b1) (.bool b2)).run P w' = .ok () w':=by cases o<;>simp[eqGuard]
   simp only[Sem.run_bind,this,Result.andThen_ok];exact h3 w' he
theorem Xe{o:UnOp}{x:D}{v:Value}{K:D->Prop}(hx:RS sz V μ ω v x)(h:unK o x K):Qok P sz V μ ω w (Op.unary o v) K:=by
 unfold unK at h;split at h
 . rw[hx.tt_];exact⟨_,_,h,.imm _ _ .ff,fun w' _=>by simp[Op.unary]⟩
 . rw[hx.ff_];exact⟨_,_,h,.imm _ _ .tt,fun w' _=>by simp[Op.unary]⟩
 . obtain⟨b,rfl,hb⟩:=hx.bool
   exact Qok.b h (c:=!b) (by rw[<- hb];simp) fun w'=>by simp[Op.unary]
 . rw[hx.fQ];exact Qok.num h fun w'=>by simp[Op.unary,Op.intArith]
 . rw[hx.fQ];exact Qok.num h fun w'=>by simp[Op.unary,Op.intBits]
 . exact h.elim
theorem qU(hT:TOk P T){t e:TypeId}{p:Prop}(h:slK T t e p):P.underlying t=some (.slice e)/\(∀ w,(sizeOf e).run P w = .ok (ah T e) w)/\(∃ ti,T e=some ti)/\p:=by
 unfold slK at h;split at h
 case h_2=>exact h.elim
 rename_i e' _ hti;split at h
 case h_2=>exact h.elim
 rename_i hb;have:=dO hb;subst this;split at h
 case h_2=>exact h.elim
 rename_i ti hte;exact⟨(hT _ _ hti).kind,fun w=>by rw[(hT _ _ hte).size,jI hte],⟨ti,hte⟩,h⟩
theorem Em(hT:TOk P T){t e:TypeId}{p:Prop}(h:slM T t e p):∃ e',P.underlying t=some (.slice e')/\(∀ w,(sizeOf e').run P w = .ok (ah T e) w)/\p:=by
 unfold slM at h;split at h
 . obtain⟨a,b,_,d⟩:=qU hT h
   exact⟨e,a,b,d⟩
 rename_i hbig;split at h
 case h_2=>exact h.elim
 rename_i e' z hti;split at h
 case h_2=>exact h.elim
 rename_i hb;split at h
 case h_2=>exact h.elim
 rename_i ti hte;split at h
 case h_2=>exact h.elim
 rename_i h1;split at h
 case h_2=>exact h.elim
 rename_i hn;have h1:=dO h1;refine⟨e',(hT _ _ hti).kind,fun w=>?_,h⟩;rw[(hT _ _ hte).size,h1,PO hn (by rw[hbig];simp)]
theorem zW(hT:TOk P T){t:TypeId}{p:Prop}(h:xg T t p):(∃ e,P.underlying t=some (.slice e))/\p:=by
 unfold xg at h;split at h
 case h_2=>exact h.elim
 rename_i hti;exact⟨⟨_,(hT _ _ hti).kind⟩,h⟩
theorem Jj(hT:TOk P T){t:TypeId}{p:Prop}(h:stK T t p):P.underlying t=some .string/\p:=by
 unfold stK at h;split at h
 case h_2=>exact h.elim
 rename_i hti;exact⟨(hT _ _ hti).kind,h⟩
theorem V8(hT:TOk P T){t ty:TypeId}{x:D}{v:Value}{K:D->Prop}(hx:RS sz V μ ω v x)(h:KH T t x K):Qok P sz V μ ω w (Builtin.len_ #[t] ty #[v]) K:=by
 unfold KH at h;split at h
 . obtain⟨hu,hk⟩:=Jj hT h
   rw[hx.nP];exact⟨_,_,hk,.imm _ _ (.i _ _),fun w' _=>by simp[Builtin.len_,dF hu,mZ,goInt]⟩
 . obtain⟨⟨e,hu⟩,hk⟩:=zW hT h
   obtain⟨A,ad,c,val,rfl,_⟩:=hx.BP;exact⟨_,_,hk,.imm _ _ (.i _ _),fun w' _=>by simp[Builtin.len_,dF hu,goInt]⟩
 . obtain⟨⟨e,hu⟩,hk⟩:=zW hT h
   obtain⟨A,N,c,_,_,rfl⟩:=hx.jd;exact⟨_,_,hk,.imm _ _ (.i _ _),fun w' _=>by simp[Builtin.len_,dF hu,goInt]⟩
 . obtain⟨⟨e,hu⟩,hk⟩:=zW hT h
   rw[hx.BR];exact⟨_,_,hk,.imm _ _ (.i _ _),fun w' _=>by simp[Builtin.len_,dF hu,goInt]⟩
 . obtain⟨⟨e,hu⟩,hk⟩:=zW hT h
   rw[hx.BQ];exact⟨_,_,hk,.imm _ _ (.i _ _),fun w' _=>by simp[Builtin.len_,dF hu,goInt]⟩
 . obtain⟨⟨e,hu⟩,hk⟩:=zW hT h
   rw[hx.iY];exact⟨_,_,hk,.imm _ _ (.i _ _),fun w' _=>by simp[Builtin.len_,dF hu,goInt]⟩
 . exact h.elim
theorem L9(hT:TOk P T){t:TypeId}{f:Nat}{K:Nat->TypeId->Prop}(h:DT T t f K) :
    ∃ fa fd,P.underlying t=some (.struct fa)/\fa[f]? = some fd/\K fd.offset fd.type:=by
 unfold DT at h;split at h
 case h_2=>exact h.elim
 rename_i fs z hti;obtain⟨fa,hu,hf⟩:=(hT _ _ hti).kind;split at h
 case h_2=>exact h.elim
 rename_i off ft hfs;rw[<- hf] at hfs;simp only[aN,Array.getElem?_toList,Option.map_eq_some_iff,Prod.mk.injEq] at hfs;obtain⟨fd,h1,rfl,rfl⟩:=hfs;exact⟨fa,fd,hu,h1,h⟩
end
end Go.Vx
namespace Go.Vx
open Go.RowKit
section
variable {w0 w w' : World} {V0 : Fr} {V : Vw} {μ : List Nat} {ω : List Value} {s : St} {a : Act} {P : Program} {T : Tab}
theorem RI.Xf{sz:TypeId->Nat}{e:TypeId}{rows room:List (List D)}{A:Option Addr}{ad:Addr}{c:Nat}{val:Nat->Nat->Value}(hc:rows.length+room.length<=c)(hm:c<=maxLen)
    (hA:rows++room ≠ []->A=some ad)(hn:A=none->c=0)(hl:∀ (i:Nat) row,(rows++room)[i]? = some row->row.length=sz e)
    (hV:∀ (i:Nat) row (j:Nat) d,(rows++room)[i]? = some row->row[j]? = some d->V (ad.add (i*sz e+j))=some (val i j)/\(val i j).oneCell'=true)
    (hR:∀ (i:Nat) row (j:Nat) d,(rows++room)[i]? = some row->row[j]? = some d->RI sz V (val i j) d){x y:Nat}(hxy:x<=y)(hy:y<=rows.length+room.length) :
    RI sz V (.slice (if c=x then A else A.map (·.add (x*sz e))) (y - x) (c - x)) (.lst e (((rows++room).take y).drop x) ((rows++room).drop y)):=by
 have hlen:(((rows++room).take y).drop x).length=y - x:=by simp;omega
 have nR:((rows++room).take y).drop x++(rows++room).drop y=(rows++room).drop x:=by
  have h1:rows++room=(rows++room).take y++(rows++room).drop y:=(List.take_append_drop y _).symm;have h2:x<=((rows++room).take y).length:=by rw[List.length_take,List.length_append];omega
  calc ((rows++room).take y).drop x++(rows++room).drop y=((rows++room).take y++(rows++room).drop y).drop x:=(List.drop_append_of_le_length h2).symm
   _=(rows++room).drop x:=by rw[<- h1]
 have:=RI.lst (sz:=sz) (V:=V) e (((rows++room).take y).drop x) ((rows++room).drop y) (if c=x then A else A.map (·.add (x*sz e))) (ad.add (x*sz e)) (c - x) (fun i j=>val (x+i) j)
  sO oA (fun hne=>by
   rw[nR] at hne;have hlt:x<(rows++room).length:=by
    rcases Nat.lt_or_ge x (rows++room).length with h|h
    . exact h
    . exact absurd (List.drop_eq_nil_of_le h) hne
   have hcx:c ≠ x:=by simp at hlt;omega
   rw[if_neg hcx,hA (by intro h0;rw[h0] at hlt;simp at hlt)];rfl)
  (fun hno=>by
   split at hno
   . omega
   . rw[Option.map_eq_none_iff] at hno
     have:=hn hno;omega)
  (fun i row h=>hl (x+i) row (by rw[nR] at h;simpa using h))
  (fun i row j d h1 h2=>by
   rw[nR] at h1;have:=hV (x+i) row j d (by simpa using h1) h2;rw[add_add,show x*sz e+(i*sz e+j)=(x+i)*sz e+j by rw[Nat.add_mul];omega];exact this)
  (fun i row j d h1 h2=>by rw[nR] at h1;exact hR (x+i) row j d (by simpa using h1) h2)
 rwa [hlen] at this
theorem Dw{k:IntKind}{x:Int}{n y:Nat}{c:BoundsCode}(hx:x=n)(hn:n<=y):(Instr.sliceBound (.int k x) y c).run P w = .ok n w:=by
 subst hx;simp[Instr.sliceBound,asIntOf,hn]
def Bf(sz:TypeId->Nat)(V:Vw)(μ:List Nat)(ω:List Value):Option D->Option Value->Prop
 | some d,some v=>RS sz V μ ω v d
 | none,none=>True
 | _,_=>False
theorem DW{sz:TypeId->Nat}{lo:Option D}{vlo:Option Value}{x:Nat}(hlo:Bf sz V μ ω lo vlo)(h:loP lo x):(vlo=none/\x=0)\/∃ k n,vlo=some (.int k n)/\n=(x:Int):=by
 unfold loP at h
 cases lo with
 | none=>cases vlo with
  | none=>exact .inl ⟨rfl,h.symm⟩
  | some v=>exact hlo.elim
 | some d=>cases vlo with
  | none=>exact hlo.elim
  | some v=>
   cases d<;>first|exact h.elim|skip
   exact .inr ⟨_,_,congrArg some (RS.fQ hlo),h⟩
theorem DX{sz:TypeId->Nat}{hi:Option D}{vhi:Option Value}{x m:Nat}(hhi:Bf sz V μ ω hi vhi)(h:hiP hi m x):(vhi=none/\m=x)\/∃ k n,vhi=some (.int k n)/\n=(x:Int):=by
 unfold hiP at h
 cases hi with
 | none=>cases vhi with
  | none=>exact .inl ⟨rfl,h⟩
  | some v=>exact hhi.elim
 | some d=>cases vhi with
  | none=>exact hhi.elim
  | some v=>
   cases d<;>first|exact h.elim|skip
   exact .inr ⟨_,_,congrArg some (RS.fQ hhi),h⟩
theorem Dn{isSlice:Bool}{len cap x y:Nat}{vlo vhi:Option Value}(h1:(vlo=none/\x=0)\/∃ k n,vlo=some (.int k n)/\n=(x:Int))(h2:(vhi=none/\len=y)\/∃ k n,vhi=some (.int k n)/\n=(y:Int))
    (hxy:x<=y)(hy:y<=cap):(Instr.sliceBounds isSlice len cap vlo vhi none).run P w = .ok (x,y,cap) w:=by
 rcases h1 with⟨rfl,rfl⟩|⟨k,n,rfl,hn⟩<;>rcases h2 with⟨rfl,rfl⟩|⟨k',n',rfl,hn'⟩
 . simp[Instr.sliceBounds]
 . simp[Instr.sliceBounds,Dw hn' hy]
 . simp[Instr.sliceBounds,Dw hn hxy]
 . simp[Instr.sliceBounds,Dw hn' hy,Dw hn hxy]
theorem Vd(l:List UInt8)(x y:Nat):(bK l).extract x y=bK ((l.take y).drop x):=by
 apply ByteArray.ext;apply Array.ext';simp[bK,ByteArray.data_extract,List.drop_take]
theorem Ve(hT:TOk P T)(hS:Mem (ah T) w0 V0 V μ ω s.box s.row w){t:TypeId}{x:D}{v:Value}{lo hi:Option D}{vlo vhi:Option Value}{K:D->Prop}(hx:RS (ah T) V μ ω v x)
    (hlo:Bf (ah T) V μ ω lo vlo)(hhi:Bf (ah T) V μ ω hi vhi)(h:JG T s t x lo hi K):Qok P (ah T) V μ ω w (Instr.sliceAt t v vlo vhi none) K:=by
 unfold JG at h;split at h
 . rename_i l
   obtain⟨hu,x,y,h1,h2,h3,h4,l',rfl,hk⟩:=Jj hT h;rw[hx.nP];refine⟨_,_,hk,.imm _ _ (.s _),fun w' _=>?_⟩;have hb:=Dn (P:=P) (w:=w') (isSlice:=false) (len:=(bK l).size) (cap:=(bK l).size) (DW hlo h1) (DX hhi (by rw[mZ];exact h2)) h3 (by rw[mZ];exact h4);simp[Instr.sliceAt,Instr.slice,dF hu,hb,Vd]
 . rename_i e rows room
   obtain⟨hu,hz,_,x,y,h1,h2,h3,h4,r1,r2,rfl,rfl,hk⟩:=qU hT h;obtain⟨A,ad,c,val,rfl,hc,hm,hA,hnA,hl,hV,hR⟩:=hx.BP;refine⟨_,_,hk,.imm _ _ (RI.Xf hc hm hA hnA hl hV hR h3 h4),fun w' _=>?_⟩;have hb:=Dn (P:=P) (w:=w') (isSlice:=true) (len:=rows.length) (cap:=c) (DW hlo h1) (DX hhi h2) h3 oA;simp[Instr.sliceAt,Instr.slice,dF hu,hb,hz]
 . rename_i r n
   split at h
   case h_2=>exact h.elim
   rename_i e xs hr;obtain⟨A,N,c,hω,hn,rfl⟩:=hx.jd;obtain⟨vals,hown,_⟩:=hS.hrow r _ e xs hω hr;have hN:N=xs.length/\xs.length<=c:=by
    rcases hown.2 with⟨hv,h0⟩|⟨g,cap,cur,_,_,hv,_,_,h5,_⟩
    . injection hv with _ h5 h6;omega
    . injection hv with _ h5' h6;omega
   split at h
   . rename_i d
     obtain⟨e',hu,hz,m,h1,h2,h3,k,rfl,hk⟩:=Em hT h;obtain⟨g,rfl⟩:∃ g,A=some ⟨g,0,none⟩:=by
      rcases hown.2 with⟨hv,h0⟩|⟨g,cap,cur,_,_,hv,_⟩
      . omega
      . injection hv with h5 _ _;exact⟨g,h5⟩
     have hb:∀ w',(Instr.sliceBounds true n c vlo vhi none).run P w' = .ok (m,n,c) w':=fun w'=>
      Dn (P:=P) (w:=w') (isSlice:=true) (len:=n) (cap:=c) (DW hlo h1) (DX hhi (show hiP none n n from rfl)) oA oA
     have hc:c ≠ 0:=oA;refine⟨_,_,hk,.osl r e m (n - m) g N c (c - m) hω oA,fun w' _=>?_⟩;simp only[Instr.sliceAt,Instr.slice,Sem.run_bind,dF hu,Result.andThen_ok,hb,hz,Sem.run_pure];by_cases h0:m*ah T e=0
     . simp[Addr.add,h0]
     . simp[Addr.add,h0]
       omega
   obtain⟨hu,hz,_,m,h1,h2,h3,hk⟩:=qU hT h;have hadd:(if c=0 then A else A.map (·.add (0*ah T e)))=A:=by
    split
    . rfl
    . cases A<;>simp[Addr.add]
   have hb:∀ w',(Instr.sliceBounds true n c vlo vhi none).run P w' = .ok (0,m,c) w':=fun w'=>
    Dn (P:=P) (w:=w') (isSlice:=true) (len:=n) (cap:=c) (DW hlo h1) (DX hhi h2) (Nat.zero_le _) oA
   refine⟨_,_,hk,.own r m A N c hω oA,fun w' _=>?_⟩;simp only[Instr.sliceAt,Instr.slice,Sem.run_bind,dF hu,Result.andThen_ok,hb,hz,Sem.run_pure,hadd,Nat.sub_zero]
 . exact h.elim
theorem V9(hT:TOk P T)(hS:Mem (ah T) w0 V0 V μ ω s.box s.row w)(henv:∀ t,∃ v,RS (ah T) V μ ω v (look s.env t)){t:TypeId}{x i:D}{v vi:Value}{K:D->Prop}(hx:RS (ah T) V μ ω v x)(hi:RS (ah T) V μ ω vi i)
    (h:KG T s t x i K):Qok P (ah T) V μ ω w (Instr.indexAt t v vi) K:=by
 unfold KG at h;split at h
 . rename_i e rows room k n
   obtain⟨hu,hz,_,h0,row,hr,hk⟩:=qU hT h;rw[iQ] at hk;obtain⟨A,ad,c,val,rfl,hc,hm,hA,hnA,hl,hV,hR⟩:=hx.BP;rw[hi.fQ];have hlt:=(aK.1 hr).1;have hr':(rows++room)[n.toNat]? = some row:=by rw[List.getElem?_append_left hlt];exact hr
   have hAe:=hA (by intro hn;rw[hn] at hr';simp at hr');refine⟨_,.pointer (some (ad.add (n.toNat*ah T e))),hk,.imm _ _ (.ep row _ (fun j=>val n.toNat j) (fun j d hd=>by rw[add_add];exact hV _ row j d hr' hd) (fun j d hd=>hR _ row j d hr' hd)),fun w' _=>?_⟩;have hb:0<=n/\n<(rows.length:Int):=⟨h0,oA⟩;simp[Instr.indexAt,asIntOf,dF hu,hAe,hb,hz]
 . rename_i r m k n
   split at h
   case h_2=>exact h.elim
   rename_i e xs hr;obtain⟨e',hu,hz,h0,h1,h2,hk⟩:=Em hT h;obtain⟨A,N,c,hω,hn,rfl⟩:=hx.jd;rw[hi.fQ];obtain⟨g,val,hA,_⟩:=hS.PS hω hr (j:=0) (aC oA);subst hA;refine⟨_,.pointer (some ⟨g,n.toNat*ah T e+0,none⟩),hk,.op r e n.toNat 0 g N c hω,fun w' _=>?_⟩;have hb:0<=n/\n<(m:Int):=⟨h0,h1⟩;simp[Instr.indexAt,asIntOf,dF hu,hb,hz,add_lit]
 . rename_i g m c0 k n
   obtain⟨t0,r,N,c,ht,hmN,h⟩:=h;split at h
   case h_2=>exact h.elim
   rename_i e xs hr;obtain⟨e',hu,hz,h0,h1,h2,hk⟩:=Em hT h;obtain⟨v0,hv0⟩:=henv t0;rw[ht] at hv0;have hω:=hv0.zi;rw[hi.fQ,hx.BR];refine⟨_,.pointer (some ⟨g,n.toNat*ah T e+0,none⟩),hk,.op r e n.toNat 0 g N c hω,fun w' _=>?_⟩;have hb:0<=n/\n<(m:Int):=⟨h0,h1⟩;simp[Instr.indexAt,asIntOf,dF hu,hb,hz,add_lit]
 . rename_i b off k n
   split at h
   case h_2=>exact h.elim
   rename_i len e z hti;split at h
   case h_2=>exact h.elim
   rename_i ti hte;obtain⟨h0,h1,m,rfl,hk⟩:=h;have hu:=(hT _ _ hti).kind;obtain⟨g,hg,rfl⟩:=hx.bp_;rw[hi.fQ];refine⟨_,.pointer (some ⟨g,off+n.toNat*ti.size,none⟩),hk,.bp _ _ g hg,fun w' _=>?_⟩;simp[Instr.indexAt,asIntOf,dF hu,Instr.sureAddr,h0,h1,(hT _ _ hte).size,add_lit]
 . rename_i cells k n
   split at h
   case h_2=>exact h.elim
   rename_i len e z hti;split at h
   case h_2=>exact h.elim
   rename_i ti hte;obtain⟨h0,h1,cs,rfl,hk⟩:=h;rw[iQ] at hk;have hu:=(hT _ _ hti).kind;obtain⟨ad,val,rfl,hV,hR⟩:=hx.ep_;rw[hi.fQ];refine⟨_,.pointer (some (ad.add (n.toNat*ti.size))),hk,.imm _ _ (.ep _ _ (fun j=>val (n.toNat*ti.size+j)) (fun j d hd=>by rw[add_add];exact hV _ d (by simpa using hd)) (fun j d hd=>hR _ d (by simpa using hd))),fun w' _=>?_⟩;simp[Instr.indexAt,asIntOf,dF hu,Instr.sureAddr,h0,h1,(hT _ _ hte).size]
 . exact h.elim
theorem MP(hT:TOk P T){t:TypeId}{vs:Array Value}{cs:List D}{off:Nat}{K:D->Prop}(hs:vs.size=cs.length)(ho:∀ v ∈ vs.toList,v.oneCell'=true)
    (hR:∀ (j:Nat) v d,vs[j]? = some v->cs[j]? = some d->RS (ah T) V μ ω v d)(h:pW T t (cs.drop off) K):Qok P (ah T) V μ ω w (part t vs off) K:=by
 unfold pW at h;split at h
 case h_2=>exact h.elim
 rename_i ti hti;have hg:=hT t ti hti
 cases hag:ti.agg with
 | true=>
  rw[hag] at h;simp only[ou,iQ,List.length_drop] at h;obtain⟨hle,hk⟩:=h;refine⟨_,.agg (vs.extract off (off+ti.size)),hk,.agg _ _ ?_ ?_ ?_,fun w' _=>?_⟩
  . simp only[Array.size_extract,List.length_take,List.length_drop,hs];omega
  . intro v hv
    rw[Array.toList_extract] at hv;exact ho v (List.mem_of_mem_drop (List.mem_of_mem_take hv))
  . intro j v d h1 h2
    rw[List.getElem?_take] at h2;split at h2
    . rw[List.getElem?_drop] at h2
      rw[Array.getElem?_extract] at h1;split at h1
      . exact hR _ v d h1 h2
      . cases h1
    . cases h2
  . simp[part,hg.agg,hag,hg.size]
 | false=>
  rw[hag] at h
  cases hd:cs.drop off with
  | nil=>rw[hd] at h;exact h.elim
  | cons c r=>
   rw[hd] at h;simp only[D.force_eq] at h;have hc:cs[off]? = some c:=by
    have:=congrArg (fun l=>l[0]?) hd;simpa using this
   have hlt:off<vs.size:=by rw[hs];exact (aK.1 hc).1
   have hv:=Array.getElem?_eq_getElem hlt;exact⟨c,vs[off],h,hR off _ c hv hc,fun w' _=>by simp[part,hg.agg,hag,hv]⟩
theorem Yr(l:List UInt8)(n:Nat):(bK l)[n]? = l[n]?:=by
 rw[getElem?_def];split
 . rename_i h
   have hl:n<l.length:=by rw[<- mZ];exact h
   rw[aC hl];rfl
 . rename_i h
   rw[List.getElem?_eq_none];rw[<- mZ];exact Nat.le_of_not_lt h
theorem Vu(hT:TOk P T){t:TypeId}{x i:D}{v vi:Value}{K:D->Prop}(hx:RS (ah T) V μ ω v x)(hi:RS (ah T) V μ ω vi i)
    (h:JW T t x i K):Qok P (ah T) V μ ω w (Instr.index t v vi) K:=by
 unfold JW at h;split at h
 . rename_i l k n
   obtain⟨hu,h0,c,hc,m,rfl,hk⟩:=Jj hT h;rw[hx.nP,hi.fQ];refine⟨_,_,hk,.imm _ _ (.i _ _),fun w' _=>?_⟩;simp[Instr.index,asIntOf,dF hu,h0,Yr,hc]
 . rename_i cs k n
   split at h
   case h_2=>exact h.elim
   rename_i len e z hti;obtain⟨h0,h1,hk⟩:=h;have hu:=(hT _ _ hti).kind;obtain⟨vs,rfl,hs,ho,hR⟩:=hx.jU;rw[hi.fQ];obtain⟨d,u,h2,h3,h4⟩:=MP (w:=w) hT hs ho hR hk;refine⟨d,u,h2,h3,fun w' he=>?_⟩;have hz:(sizeOf e).run P w' = .ok (ah T e) w':=by
    unfold pW at hk;split at hk
    case h_2=>exact hk.elim
    rename_i ti hte;rw[(hT _ _ hte).size,jI hte]
   simp[Instr.index,asIntOf,dF hu,h0,h1,hz,h4 w' he]
 . exact h.elim
structure gJ(sz:TypeId->Nat)(V:Vw)(μ:List Nat)(ω:List Value)(vs:Array Value)(cs:List D):Prop where
 size:vs.size=cs.length
 one:∀ v ∈ vs.toList,v.oneCell'=true
 rel:∀ (j:Nat) v d,vs[j]? = some v->cs[j]? = some d->RS sz V μ ω v d
theorem CX{sz:TypeId->Nat}{v:Value}{d:D}{K:List D->Prop}(hv:RS sz V μ ω v d)(h:d.yK K):∃ cs,gJ sz V μ ω v.cells cs/\K cs:=by
 have one:∀ (v:Value) (d:D),RS sz V μ ω v d->v.oneCell'=true->v.cells=#[v]->gJ sz V μ ω v.cells [d]:=by
  intro v d h ho he;rw[he];refine⟨rfl,by simpa using ho,fun j u c h1 h2=>?_⟩
  cases j with
  | zero=>simp at h1 h2;subst h1 h2;exact h
  | succ j=>simp at h1
 cases d<;>simp only[D.yK] at h
 case agg cs=>
  obtain⟨vs,rfl,a,b,c⟩:=hv.jU;exact⟨cs,⟨a,b,c⟩,h⟩
 case i k n=>exact⟨_,one v _ hv (by rw[hv.fQ];rfl) (by rw[hv.fQ];rfl),h⟩
 case b p=>obtain⟨x,rfl,_⟩:=hv.bool;exact⟨_,one _ _ hv rfl rfl,h⟩
 case tt=>exact⟨_,one v _ hv (by rw[hv.tt_];rfl) (by rw[hv.tt_];rfl),h⟩
 case ff=>exact⟨_,one v _ hv (by rw[hv.ff_];rfl) (by rw[hv.ff_];rfl),h⟩
 case s l=>exact⟨_,one v _ hv (by rw[hv.nP];rfl) (by rw[hv.nP];rfl),h⟩
 case aO=>exact⟨_,one v _ hv (by rw[hv.iY];rfl) (by rw[hv.iY];rfl),h⟩
 case lst e a b=>obtain⟨_,_,_,_,rfl,_⟩:=hv.BP;exact⟨_,one _ _ hv rfl rfl,h⟩
 case own r n=>obtain⟨_,_,_,_,_,rfl⟩:=hv.jd;exact⟨_,one _ _ hv rfl rfl,h⟩
 case ep c=>obtain⟨_,_,rfl,_⟩:=hv.ep_;exact⟨_,one _ _ hv rfl rfl,h⟩
 case op r e j o=>obtain⟨_,_,_,_,rfl⟩:=hv.op_;exact⟨_,one _ _ hv rfl rfl,h⟩
 case osl r e a m=>obtain⟨_,_,_,_,_,_,rfl⟩:=hv.Uk;exact⟨_,one _ _ hv rfl rfl,h⟩
 case bp i o=>obtain⟨_,_,rfl⟩:=hv.bp_;exact⟨_,one _ _ hv rfl rfl,h⟩
 case iq=>
  have:v = .pointer none:=by cases hv with|imm _ _ h=>cases h;rfl
  subst this;exact⟨_,one _ _ hv rfl rfl,h⟩
 case kM=>
  have:v = .pointer none:=by cases hv with|imm _ _ h=>cases h;rfl
  subst this;exact⟨_,one _ _ hv rfl rfl,h⟩
 case yld l=>
  have:v = .func (.yield l) #[] #[]:=by cases hv with|imm _ _ h=>cases h;rfl
  subst this;exact⟨_,one _ _ hv rfl rfl,h⟩
 case mv o=>
  have:v = .map o:=by cases hv with|imm _ _ h=>cases h;rfl
  subst this;exact⟨_,one _ _ hv rfl rfl,h⟩
 case itv g=>
  have:v = .pointer (some ⟨g,0,none⟩):=by cases hv with|imm _ _ h=>cases h;rfl
  subst this;exact⟨_,one _ _ hv rfl rfl,h⟩
 case rsl g n c=>
  have:v = .slice (some ⟨g,0,none⟩) n c:=by cases hv with|imm _ _ h=>cases h;rfl
  subst this;exact⟨_,one _ _ hv rfl rfl,h⟩
 case rnl=>
  have:v = .slice none 0 0:=by cases hv with|imm _ _ h=>cases h;rfl
  subst this;exact⟨_,one _ _ hv rfl rfl,h⟩
 case ifc t d=>
  obtain⟨x,rfl⟩:∃ x,v = .iface t x:=by cases hv with|imm _ _ h=>cases h;exact⟨_,rfl⟩
  exact⟨_,one _ _ hv rfl rfl,h⟩
 case fG=>
  have:v = .nilIface:=by cases hv with|imm _ _ h=>cases h;rfl
  subst this;exact⟨_,one _ _ hv rfl rfl,h⟩
 case iT=>
  have:v = .nilFunc:=by cases hv with|imm _ _ h=>cases h;rfl
  subst this;exact⟨_,one _ _ hv rfl rfl,h⟩
 case fn f x y=>
  have:∃ vs us,v = .func (.func f) vs us:=by cases hv with|imm _ _ h=>cases h;exact⟨_,_,rfl⟩
  obtain⟨vs,us,rfl⟩:=this;exact⟨_,one _ _ hv rfl rfl,h⟩
 case fnh f x y=>
  have:∃ vs us,v = .func (.func f) vs us:=by
   cases hv with
   | imm _ _ h=>cases h
   | fnh=>exact⟨_,_,rfl⟩
  obtain⟨vs,us,rfl⟩:=this;exact⟨_,one _ _ hv rfl rfl,h⟩
theorem MQ(news:List Value):∀ (off k:Nat) (cs:Array Value),(((news.zipIdx k).foldl (fun cs (x:Value × Nat)=>cs.setIfInBounds (off+x.2) x.1) cs).size=cs.size) /\
    ∀ j,((news.zipIdx k).foldl (fun cs (x:Value × Nat)=>cs.setIfInBounds (off+x.2) x.1) cs)[j]? = if off+k<=j/\j<off+k+news.length/\j<cs.size then news[j - (off+k)]? else cs[j]?:=by
 induction news with
 | nil=>intro off k cs;refine⟨rfl,fun j=>?_⟩;rw[if_neg sO];rfl
 | cons v r ih=>
  intro off k cs;simp only[List.zipIdx_cons,List.foldl_cons];obtain⟨h1,h2⟩:=ih off (k+1) (cs.setIfInBounds (off+k) v);refine⟨by rw[h1];simp,fun j=>?_⟩;rw[h2 j,Array.getElem?_setIfInBounds];simp only[Array.size_setIfInBounds,List.length_cons];by_cases hj:off+k=j
  . subst hj
    rw[if_neg oA,if_pos rfl];by_cases hs:off+k<cs.size
    . rw[if_pos hs,if_pos ⟨oA,oA,hs⟩]
      simp
    . rw[if_neg hs,if_neg oA,Array.getElem?_eq_none oA]
  . rw[if_neg hj]
    by_cases hc:off+(k+1)<=j/\j<off+(k+1)+r.length/\j<cs.size
    . rw[if_pos hc,if_pos ⟨oA,oA,hc.2.2⟩]
      rw[show j - (off+k)=(j - (off+(k+1)))+1 by omega,List.getElem?_cons_succ]
    . rw[if_neg hc,if_neg oA]
theorem gJ.set{sz:TypeId->Nat}{vs us:Array Value}{cs ds:List D}(h:gJ sz V μ ω vs cs)(h':gJ sz V μ ω us ds){off:Nat}(hle:off+ds.length<=cs.length) :
    gJ sz V μ ω (us.zipIdx.foldl (fun cs (x:Value × Nat)=>cs.setIfInBounds (off+x.2) x.1) vs) (setCells cs off ds):=by
 have e:us.zipIdx.foldl (fun cs (x:Value × Nat)=>cs.setIfInBounds (off+x.2) x.1) vs=((us.toList.zipIdx 0).foldl (fun cs (x:Value × Nat)=>cs.setIfInBounds (off+x.2) x.1) vs):=by
  rw[<- Array.foldl_toList,Array.toList_zipIdx]
 obtain⟨h1,h2⟩:=MQ us.toList off 0 vs;rw[e];have hg:∀ j v,((us.toList.zipIdx 0).foldl (fun cs (x:Value × Nat)=>cs.setIfInBounds (off+x.2) x.1) vs)[j]? = some v ->
     (off<=j/\j<off+ds.length/\us[j - off]? = some v)\/(¬(off<=j/\j<off+ds.length)/\vs[j]? = some v):=by
  intro j v hv;rw[h2 j] at hv;split at hv
  . rename_i hc
    refine .inl ⟨oA,by have:=h'.size;simp at hc;omega,by simpa using hv⟩
  . rename_i hc
    refine .inr ⟨fun hc'=>hc ⟨oA,by have:=h'.size;simp;omega,by rw[h.size];omega⟩,hv⟩
 refine⟨?_,fun v hv=>?_,fun j v d hv hd=>?_⟩
 . rw[h1,h.size];simp[setCells];omega
 . obtain⟨j,hj⟩:=List.getElem?_of_mem hv
   rw[Array.getElem?_toList] at hj;rcases hg j v hj with⟨_,_,hu⟩|⟨_,hu⟩
   . exact h'.one v (by have:=Array.mem_of_getElem? hu;simpa using this)
   . exact h.one v (by have:=Array.mem_of_getElem? hu;simpa using this)
 . have hcd:(setCells cs off ds)[j]? = if off<=j/\j<off+ds.length then ds[j - off]? else cs[j]?:=by
     unfold setCells;by_cases hj:j<off
     . rw[List.getElem?_append_left sO,List.getElem?_take_of_lt hj,if_neg oA]
     . rw[List.getElem?_append_right sO,List.length_take,Nat.min_eq_left oA]
       by_cases hj2:j<off+ds.length
       . rw[List.getElem?_append_left oA,if_pos oA]
       . rw[List.getElem?_append_right oA,if_neg oA,List.getElem?_drop]
         congr 1;omega
   rw[hcd] at hd;rcases hg j v hv with⟨ha,hb,hu⟩|⟨hn,hu⟩
   . rw[if_pos ⟨ha,hb⟩] at hd;exact h'.rel _ v d hu hd
   . rw[if_neg hn] at hd;exact h.rel j v d hu hd
theorem MR{sz:TypeId->Nat}{fs:Nat->Option (Nat × Nat)}(ps:List (Nat × D)):∀ (vps:List (Nat × Value)) (zs:List D) (vz:Array Value) (K:List D->Prop),
    gJ sz V μ ω vz zs->vps.length=ps.length->(∀ (j:Nat) i v i' d,vps[j]? = some (i,v)->ps[j]? = some (i',d)->i=i'/\RS sz V μ ω v d)->yU fs zs ps K ->
    ∃ vs cs,Instr.fill fs vz vps=some vs/\gJ sz V μ ω vs cs/\K cs:=by
 induction ps with
 | nil=>
  intro vps zs vz K hz hl _ h;have:vps=[]:=List.eq_nil_of_length_eq_zero hl;subst this;rw[yU,iQ] at h;exact⟨vz,zs,rfl,hz,h⟩
 | cons p r ih=>
  intro vps zs vz K hz hl hr h;obtain⟨i,d⟩:=p
  cases vps with
  | nil=>simp at hl
  | cons q vr=>
   obtain⟨i',v⟩:=q;obtain⟨rfl,hv⟩:=hr 0 i' v i d rfl rfl;simp only[yU] at h;split at h
   case h_2=>exact h.elim
   rename_i off size hfs;obtain⟨ds,hd,h⟩:=CX hv h;simp only[ou,iQ] at h;obtain⟨h1,h2,h3,h⟩:=h;have hsz:v.cells.size=size:=by rw[hd.size];omega
   obtain⟨vs,cs,h4,h5,h6⟩:=ih vr _ _ K (hz.set hd h3) (by simpa using hl) (fun j a b c d e f=>hr (j+1) a b c d (by simpa using e) (by simpa using f)) h;refine⟨vs,cs,?_,h5,h6⟩;simp only[Instr.fill,hfs];rw[if_neg (by simp[hsz,hz.size];omega)];exact h4
def fD(w:World):Vw:=fun p=>w.cell? p
theorem VOk.le{V:Vw}{w:World}(h:VOk V w):VLe V (fD w):=h.2
def zk(w:World):Prop:=VLe glV (fD w)/\GT w
theorem VOk.gl{V:Vw}{w:World}(h:VOk V w):zk w:=⟨fun p v hp=>h.2 p v (h.1.1 p v hp),h.1.2⟩
theorem VOk.heap{w w':World}(h:zk w)(he:Ext w w'):VOk (fD w') w':=⟨⟨fun p v hp=>he.cell (h.1 p v hp),fun g cs hg=>let ⟨h1,a,b,h2⟩:=h.2 g cs hg;⟨h1,a,b,he.heap h2⟩⟩,fun _ _ h=>h⟩
theorem GZ(hS:Mem (ah T) w0 V0 V μ ω s.box s.row w){ti:Option TI}{d:D}{v:Value}{K:D->Prop}(hv:RS (ah T) V μ ω v d)(h:Bc ti s.row d K) :
    ∃ d',K d'/\RI (ah T) (fD w) v d':=by
 have imm:∀ d,K d->RI (ah T) V v d->∃ d',K d'/\RI (ah T) (fD w) v d':=fun d hk hr=>⟨d,hk,hr.mono hS.vok.le⟩
 unfold Bc at h;split at h
 . rw[hv.iY]
   split at h
   . refine⟨_,h,?_⟩
     exact RI.lst _ [] [] none ⟨0,0,none⟩ 0 (fun _ _=>undef) sI (by unfold maxLen;omega) sI sI sI sI sI
   . exact⟨_,h,.aO⟩
 . rw[hv.tt_];exact⟨_,h,.b _ _ sI⟩
 . rw[hv.ff_];exact⟨_,h,.b _ _ sI⟩
 . rename_i r n
   split at h
   case h_2=>exact h.elim
   rename_i e xs hr;obtain⟨hn,h⟩:=h;obtain⟨A,N,c,hω,hnN,rfl⟩:=hv.jd;obtain⟨vals,hown,ho,hl,hR⟩:=hS.hrow r _ e xs hω hr;refine⟨_,h,?_⟩;have hcap:xs.length<=c/\c<=maxLen/\(xs ≠ []->∃ g,A=some ⟨g,0,none⟩)/\(A=none->c=0):=by
    rcases hown.2 with⟨hv,h0⟩|⟨g,cap,cur,_,_,hv,_,_,h5,h6,_⟩
    . injection hv with _ h5 h6
      subst h6;exact⟨oA,by unfold maxLen;omega,fun hx=>absurd (List.eq_nil_of_length_eq_zero h0) hx,fun _=>rfl⟩
    . injection hv with h7 h8 h9
      subst h9;exact⟨h5,h6,fun _=>⟨g,h7⟩,fun hno=>by rw[h7] at hno;cases hno⟩
   obtain⟨hc1,hc2,hc3,hc4⟩:=hcap;by_cases hx:xs=[]
   . subst hx
     have:n=0:=by simpa using hn
     subst this;exact RI.lst e [] [] A ⟨0,0,none⟩ c (fun _ _=>undef) sI hc2 sI hc4 sI sI sI
   . obtain⟨g,rfl⟩:=hc3 hx
     have nR:xs.take n++xs.drop n=xs:=List.take_append_drop n xs;have:=RI.lst (sz:=ah T) (V:=fD w) e (xs.take n) (xs.drop n) (some ⟨g,0,none⟩) ⟨g,0,none⟩ c (fun i j=>vals.getD (i*ah T e+j) undef) sO hc2 (fun _=>rfl) (fun hno=>by cases hno)
      (fun i row h=>hl i row (by rwa [nR] at h))
      (fun i row j d h1 h2=>by
       rw[nR] at h1;obtain⟨u,hu,_⟩:=hR i row j d h1 h2;have hg:vals.getD (i*ah T e+j) undef=u:=by simp[List.getD,hu]
       show w.cell? _=some (vals.getD (i*ah T e+j) undef)/\(vals.getD (i*ah T e+j) undef).oneCell'=true;rw[hg];exact⟨hown.cells (g:=g) rfl _ _ hu,ho u (aU hu)⟩)
      (fun i row j d h1 h2=>by
       rw[nR] at h1;obtain⟨u,hu,hr⟩:=hR i row j d h1 h2;have hg:vals.getD (i*ah T e+j) undef=u:=by simp[List.getD,hu]
       show RI _ _ (vals.getD (i*ah T e+j) undef) d;rw[hg];exact hr.mono hS.vok.le)
     rwa [List.length_take,Nat.min_eq_left hn] at this
 . exact h.elim
 . exact h.elim
 . exact h.elim
 . exact h.elim
 . exact h.elim
 . exact h.elim
 . exact h.elim
 . rename_i h1 h2 h3 h4 h5 h6 h7 h8 h9 h10 h11
   rw[D.force_eq] at h;refine imm d h ?_
   cases hv with
   | imm _ _ hr=>exact hr
   | own=>exact absurd rfl (h4 _ _)
   | op=>exact absurd rfl (h5 _ _ _ _)
   | bp=>exact absurd rfl (h6 _ _)
   | agg=>exact absurd rfl (h7 _)
   | tup=>exact absurd rfl (h8 _)
   | fnh=>exact absurd rfl (h9 _ _ _)
   | osl=>exact absurd rfl (h10 _ _ _ _)
   | tie=>exact absurd rfl (h11 _ _ _ _)
theorem CZ(hS:Mem (ah T) w0 V0 V μ ω s.box s.row w){fs:List (Nat × TypeId)}:∀ (cs:List D) (i:Nat) (vs:List Value) (K:List D->Prop),vs.length=cs.length ->
    (∀ (j:Nat) v d,vs[j]? = some v->cs[j]? = some d->RS (ah T) V μ ω v d)->uy T fs s.row i cs K ->
    ∃ ds,K ds/\ds.length=cs.length/\∀ (j:Nat) v d,vs[j]? = some v->ds[j]? = some d->RI (ah T) (fD w) v d
 | [],i,vs,K,hl,hR,h=>⟨[],h,rfl,fun j v d _ hd=>by simp at hd⟩
 | c :: cs,i,[],K,hl,hR,h=>by simp at hl
 | c :: cs,i,v :: vs,K,hl,hR,h=>by
  simp only[uy] at h;obtain⟨d,h,hd⟩:=GZ hS (hR 0 v c rfl rfl) h;obtain⟨ds,h,hds,hr⟩:=CZ hS cs (i+1) vs _ (by simpa using hl) (fun j v d h1 h2=>hR (j+1) v d (by simpa using h1) (by simpa using h2)) h;refine⟨d :: ds,h,by simp[hds],fun j v' d' h1 h2=>?_⟩
  cases j with
  | zero=>simp at h1 h2;subst h1 h2;exact hd
  | succ j=>exact hr j v' d' (by simpa using h1) (by simpa using h2)
theorem Wh(hS:Mem (ah T) w0 V0 V μ ω s.box s.row w){t:TypeId}{d:D}{v:Value}{K:D->Prop}(hv:RS (ah T) V μ ω v d)(h:iK T t s.row d K) :
    ∃ d',K d'/\RI (ah T) (fD w) v d':=by
 have agg:∀ (fs:List (Nat × TypeId)) (cs:List D),RS (ah T) V μ ω v (.agg cs)->(uy T fs s.row 0 cs fun cs=>K (.agg cs))->∃ d',K d'/\RI (ah T) (fD w) v d':=by
  intro fs cs hv h;obtain⟨vs,rfl,hs,ho,hR⟩:=hv.jU;obtain⟨ds,hk,hl,hr⟩:=CZ hS cs 0 vs.toList _ (by simpa using hs) (fun j v d h1 h2=>hR j v d (by simpa using h1) h2) h;exact⟨_,hk,.agg _ _ (by rw[hs,hl]) ho fun j v d h1 h2=>hr j v d (by simpa using h1) h2⟩
 unfold iK at h;split at h
 . rename_i cs
   split at h
   . exact agg _ cs hv h
   . exact agg _ cs hv h
 . exact GZ hS hv h
theorem xY(hS:Mem (ah T) w0 V0 V μ ω s.box s.row w):∀ (ts:List TypeId) (ds:List D) (vs:List Value) (K:List D->Prop),vs.length=ds.length ->
    (∀ (j:Nat) v d,vs[j]? = some v->ds[j]? = some d->RS (ah T) V μ ω v d)->wO T s.row ts ds K ->
    ∃ es,K es/\es.length=ds.length/\∀ (j:Nat) v d,vs[j]? = some v->es[j]? = some d->RI (ah T) (fD w) v d
 | [],[],vs,K,hl,hR,h=>⟨[],h,rfl,fun j v d _ hd=>by simp at hd⟩
 | t :: ts,[],vs,K,hl,hR,h=>h.elim
 | [],d :: ds,vs,K,hl,hR,h=>h.elim
 | t :: ts,d :: ds,[],K,hl,hR,h=>by simp at hl
 | t :: ts,d :: ds,v :: vs,K,hl,hR,h=>by
  simp only[wO] at h;obtain⟨d',h,hd⟩:=Wh hS (hR 0 v d rfl rfl) h;obtain⟨es,h,hes,hr⟩:=xY hS ts ds vs _ (by simpa using hl) (fun j v d h1 h2=>hR (j+1) v d (by simpa using h1) (by simpa using h2)) h;refine⟨d' :: es,h,by simp[hes],fun j v' e' h1 h2=>?_⟩
  cases j with
  | zero=>simp at h1 h2;subst h1 h2;exact hd
  | succ j=>exact hr j v' e' (by simpa using h1) (by simpa using h2)
theorem GR(hS:Mem (ah T) w0 V0 V μ ω s.box s.row w):∀ (ds:List D) (vs:List Value) (K:List D->Prop),vs.length=ds.length ->
    (∀ (j:Nat) v d,vs[j]? = some v->ds[j]? = some d->RS (ah T) V μ ω v d)->um T s.row s.box ds K ->
    ∃ es,K es/\es.length=ds.length/\∀ (j:Nat) v d,vs[j]? = some v->es[j]? = some d->RI (ah T) (fD w) v d
 | [],vs,K,hl,hR,h=>⟨[],h,rfl,fun j v d _ hd=>by simp at hd⟩
 | d :: ds,[],K,hl,hR,h=>by simp at hl
 | d :: ds,v :: vs,K,hl,hR,h=>by
  have go:(∃ d',(um T s.row s.box ds fun ds=>K (d' :: ds))/\RI (ah T) (fD w) v d')->∃ es,K es/\es.length=(d :: ds).length/\∀ (j:Nat) v' d,(v :: vs)[j]? = some v'->es[j]? = some d->RI (ah T) (fD w) v' d:=by
   rintro⟨d',h,hd⟩;obtain⟨es,h,hes,hr⟩:=GR hS ds vs _ (by simpa using hl) (fun j v d h1 h2=>hR (j+1) v d (by simpa using h1) (by simpa using h2)) h;refine⟨d' :: es,h,by simp[hes],fun j v' e' h1 h2=>?_⟩
   cases j with
   | zero=>simp at h1 h2;subst h1 h2;exact hd
   | succ j=>exact hr j v' e' (by simpa using h1) (by simpa using h2)
  apply go;have hv:=hR 0 v d rfl rfl;unfold um at h;split at h
  . cases ‹_=_›
  . rename_i cs ds' heq
    cases heq;obtain⟨us,rfl,hs,ho,hR'⟩:=hv.jU;obtain⟨es,hk,hl',hr⟩:=CZ hS cs 0 us.toList _ (by simpa using hs) (fun j v d h1 h2=>hR' j v d (by simpa using h1) h2) h;exact⟨_,hk,.agg _ _ (by rw[hs,hl']) ho fun j v d h1 h2=>hr j v d (by simpa using h1) h2⟩
  . rename_i i ds' heq
    cases heq;split at h
    case h_2=>exact h.elim
    rename_i cs hcs;obtain⟨g,rfl,hμ⟩:∃ g,v = .pointer (some ⟨g,0,none⟩)/\μ[i]? = some g:=by
     cases hv with
     | imm _ _ hr=>cases hr
     | bp _ _ g h=>exact⟨g,rfl,h⟩
    obtain⟨us,t,hu,hs,ho,hR',_⟩:=hS.hbox i g cs hμ hcs;obtain⟨es,hk,hl',hr⟩:=CZ hS cs 0 us.toList _ (by simpa using hs) (fun j v d h1 h2=>hR' j v d (by simpa using h1) h2) h;refine⟨_,hk,.ep es ⟨g,0,none⟩ (fun j=>us.getD j undef) (fun j d hj=>?_) (fun j d hj=>?_)⟩
    . have hjl:j<us.size:=by rw[hs,<- hl'];exact (aK.1 hj).1
      have hgd:us.getD j undef=us[j]:=by simp[Array.getD,hjl]
      rw[hgd];refine⟨?_,ho _ sI⟩;have ha:(⟨g,0,none⟩:Addr).add j=⟨g,j,none⟩:=by cases j<;>simp[Addr.add]
      show w.cell? _=_;rw[ha];simp[World.cell?,hu,hjl]
    . have hjl:j<us.size:=by rw[hs,<- hl'];exact (aK.1 hj).1
      have hgd:us.getD j undef=us[j]:=by simp[Array.getD,hjl]
      rw[hgd];exact hr j _ d (by simp[hjl]) hj
  . rename_i d' ds' _ _ heq
    cases heq;exact GZ hS hv h
theorem Ak{sz:TypeId->Nat}{d:D}{v:Value}(hv:RS sz V μ ω v d)(h:BM d=true):RI sz V v d:=by
 cases hv with
 | imm _ _ hr=>exact hr
 | _=>simp[BM] at h
theorem En:∀ {cs:List D},uJ cs=true->∀ (j:Nat) d,cs[j]? = some d->BM d=true
 | [],_,j,d,h=>by simp at h
 | c :: cs,hg,j,d,h=>by
  simp only[uJ,Bool.and_eq_true] at hg
  cases j with
  | zero=>simp at h;subst h;exact hg.1
  | succ j=>exact En hg.2 j d (by simpa using h)
theorem Eo{sz:TypeId->Nat}{d:D}{v:Value}(hv:RS sz V μ ω v d)(h:KI d=true):RI sz V v d:=by
 by_cases ha:∃ cs,d = .agg cs
 . obtain⟨cs,rfl⟩:=ha
   obtain⟨vs,rfl,hs,ho,hR⟩:=hv.jU;exact .agg _ _ hs ho fun j v d h1 h2=>Ak (hR j v d h1 h2) (En h j d h2)
 . refine Ak hv ?_
   cases d<;>first|exact h|exact absurd ⟨_,rfl⟩ ha
theorem Jk:∀ {cs:List D},BN cs=true->∀ (j:Nat) d,cs[j]? = some d->KI d=true
 | [],_,j,d,h=>by simp at h
 | c :: cs,hg,j,d,h=>by
  simp only[BN,Bool.and_eq_true] at hg
  cases j with
  | zero=>simp at h;subst h;exact hg.1
  | succ j=>exact Jk hg.2 j d (by simpa using h)
open Classical in
/-- The value of a datum that is told by it alone. -/
noncomputable def xq:D->Value
 | .i k n=>.int k n|.b p=>.bool (decide p)|.tt=>.bool true|.ff=>.bool false|.s l=>.string (bK l)|.aO=>.slice none 0 0|.iq=>.pointer none|.mv o=>.map o|.itv g=>.pointer (some ⟨g,0,none⟩)|.rsl g n c=>.slice (some ⟨g,0,none⟩) n c|.rnl=>.slice none 0 0|_=>undef
noncomputable def toV:D->Value
 | .agg cs=>.agg (cs.map xq).toArray
 | .tup cs=>.tuple (cs.map xq).toArray
 | d=>xq d
theorem Am{sz:TypeId->Nat}{d:D}(hg:d.ground=true):RI sz V (xq d) d:=by
 cases d<;>simp only[D.ground] at hg<;>try contradiction
 . exact .i _ _
 . exact .b _ _ sI
 . exact .tt
 . exact .ff
 . exact .s _
 . exact .aO
 . exact .iq
 . exact .mv _
 . exact .itv _
 . exact .rsl _ _ _
 . exact .rnl
theorem Yt{d:D}(hg:d.ground=true):(xq d).oneCell'=true:=by
 cases d<;>simp only[D.ground] at hg<;>first|contradiction|rfl
theorem yL{sz:TypeId->Nat}{d:D}(hg:d.fM=true):RI sz V (toV d) d:=by
 cases d
 case agg cs=>
  refine .agg _ _ sI ?_ ?_
  . intro v hv
    simp only[List.mem_map] at hv;obtain⟨c,hc,rfl⟩:=hv;obtain⟨j,hj⟩:=List.getElem?_of_mem hc;exact Yt (o7 hg j c hj)
  . intro j v d h1 h2
    simp only[List.getElem?_toArray,aN,h2,Option.map_some,Option.some.injEq] at h1;subst h1;exact Am (o7 hg j d h2)
 case tup cs=>
  refine .tup _ _ sI ?_;intro j v d h1 h2;simp only[List.getElem?_toArray,aN,h2,Option.map_some,Option.some.injEq] at h1;subst h1;exact Am (o7 hg j d h2)
 all_goals (first|exact Am (by simpa[D.fM] using hg)|(simp[D.fM,D.ground] at hg))
theorem aF.quiet{f:FuncId}{es:List D}{d:D}{args:Array Value}(hgl:zk w)(hf:aF P T f es (fun d' _=>d'=d))(hg:d.fM=true)(hl:args.size=es.length)
    (hr:∀ (j:Nat) v d,args[j]? = some v->es[j]? = some d->RI (ah T) (fD w) v d) :
    ∀ w',Ext w w'->Calls P f args w' fun e w''=>e = .returned (toV d)/\Ext w w'':=by
 intro w' he;refine (hf.run (fD w') w' args (.heap hgl he) hl (fun j v d h1 h2=>(hr j v d h1 h2).mono fun p u hp=>he.cell hp)).mono ?_;rintro e w'' ⟨V',ω',row,v,d',rfl,rfl,hrs,hres⟩;exact⟨by rw[(hrs.ri hg).TN (yL (V:=V') hg) hg],he.trans hres.below⟩
theorem Dx{sz:TypeId->Nat}{v:Value}{d:D}{K:FuncId->List D->List D->Prop}(hv:RS sz V μ ω v d)(h:fnK d K) :
    ∃ f first cap vs us,v = .func (.func f) vs us/\vs.size=first.length/\us.size=cap.length/\(∀ (j:Nat) v d,vs[j]? = some v->first[j]? = some d->RS sz V μ ω v d) /\
     (∀ (j:Nat) v d,us[j]? = some v->cap[j]? = some d->RS sz V μ ω v d)/\K f first cap:=by
 cases d<;>try exact h.elim
 case fn f first cap=>
  cases hv with|imm _ _ hr=>cases hr with|fn _ _ _ vs us h1 h2 hR1 hR2=>exact⟨f,first,cap,vs,us,rfl,h1,h2,fun j v d a b=>.imm _ _ (hR1 j v d a b),fun j v d a b=>.imm _ _ (hR2 j v d a b),h⟩
 case fnh f first cap=>
  cases hv with
  | imm _ _ hr=>cases hr
  | fnh _ _ _ vs us h1 h2 hR1 hR2=>exact⟨f,first,cap,vs,us,rfl,h1,h2,hR1,hR2,h⟩
theorem Ul{R:Value->D->Prop}{v1 v2:List Value}{d1 d2:List D}(h1:∀ (j:Nat) v d,v1[j]? = some v->d1[j]? = some d->R v d)(h2:∀ (j:Nat) v d,v2[j]? = some v->d2[j]? = some d->R v d)
    (hl:v1.length=d1.length):∀ (j:Nat) v d,(v1++v2)[j]? = some v->(d1++d2)[j]? = some d->R v d:=by
 intro j v d hv hd;by_cases hj:j<v1.length
 . rw[List.getElem?_append_left hj] at hv
   rw[List.getElem?_append_left oA] at hd;exact h1 j v d hv hd
 . rw[List.getElem?_append_right oA] at hv
   rw[List.getElem?_append_right oA,<- hl] at hd;exact h2 _ v d hv hd
theorem Gf{R:Value->D->Prop}{v1 v2 v3:List Value}{d1 d2 d3:List D}(h1:∀ (j:Nat) v d,v1[j]? = some v->d1[j]? = some d->R v d)(h2:∀ (j:Nat) v d,v2[j]? = some v->d2[j]? = some d->R v d)
    (h3:∀ (j:Nat) v d,v3[j]? = some v->d3[j]? = some d->R v d)(hl:v1.length=d1.length)(hl2:v2.length=d2.length) :
    ∀ (j:Nat) v d,(v1++v2++v3)[j]? = some v->(d1++d2++d3)[j]? = some d->R v d:=
 Ul (Ul h1 h2 hl) h3 (by simp[hl,hl2])
theorem lu.enter{m:String}{t:TypeId}{f:FuncId}(h:lu P m t f)(x:Value)(args:Array Value)(w:World):(invoke (.fn (.method m) #[]) (#[.iface t x]++args)).run P w = .ok (.enter f (#[x]++args)) w:=by
 have h1:(#[Value.iface t x]++args)[0]? = some (.iface t x):=by simp[Array.getElem?_append]
 have h2:(#[Value.iface t x]++args).extract 1 (#[Value.iface t x]++args).size=args:=by
  apply Array.ext';simp
 simp only[invoke,h1,h2,h.call]
theorem RS.KJ{sz:TypeId->Nat}{v:Value}{t:TypeId}{d:D}(h:RS sz V μ ω v (.ifc t d)):∃ x,v = .iface t x/\RI sz V x d:=by
 cases h with|imm _ _ h=>cases h with|ifc t x d h=>exact⟨x,rfl,h⟩
def QR(o:Oper)(p:Addr)(n:Nat)(w w':World):Prop:=match o.op with|.load _ _=>mF p n w w'|.call { callee:=.value _,args:=_,argTypes:=_ }=>Ext w w'|.call { callee:=.invoke _ _,args:=_,argTypes:=_ }=>Ext w w'|_=>True
theorem QR.ext{o:Oper}{p:Addr}{n:Nat}(h:Ext w w'):QR o p n w w':=by
 unfold QR;split
 . exact h.TP p n
 . exact h
 . exact h
 . trivial
def Qop(P:Program)(T:Tab)(w0:World)(V0:Fr)(V:Vw)(μ:List Nat)(ω:List Value)(s:St)(a:Act)(w:World)(o:Oper)(K:D->St->Prop):Prop:=
 ∃ d v s',K d s'/\RS (ah T) V μ ω v d/\Sim (ah T) w0 V0 V μ ω s' a w/\∃ p n,iL V μ ω (BL s o) p n/\∀ w',QR o p n w w'->o.quietAt P a (Ext w) w' v
theorem Qop.aB{s:St}(hS:Sim (ah T) w0 V0 V μ ω s a w){o:Oper}{x:Sem Value}{K:D->St->Prop}(hx:execOp a.eval o=(do pure (.value (<- x))))(h:Qok P (ah T) V μ ω w x fun d=>K d s)
    (hsrc:BL s o = .reg:=by rfl):Qop P T w0 V0 V μ ω s a w o K:=by
 obtain⟨d,v,h1,h2,h3⟩:=h;refine⟨d,v,s,h1,h2,hS,⟨0,0,none⟩,0,by rw[hsrc];exact iL.zero _,fun w' _=>?_⟩;unfold Oper.quietAt;rw[hx];simp only[Sem.run_bind,h3 w' trivial,Result.andThen_ok,Sem.run_pure];exact⟨rfl,rfl⟩
theorem OC{s:St}(hS:Sim (ah T) w0 V0 V μ ω s a w)(x:Option Operand):Bf (ah T) V μ ω (x.map s.get) (x.map a.eval):=by
 cases x with
 | none=>trivial
 | some x=>exact hS.get x
theorem II:∀ {fs:List (Nat × TypeId)} {p:Prop},BK T fs p->(∀ x ∈ fs,∃ ti,T x.2=some ti)/\p
 | [],p,h=>⟨sI,h⟩
 | (o,t) :: r,p,h=>by
  unfold BK at h;split at h
  case h_2=>exact h.elim
  rename_i ti hti;obtain⟨h1,h2⟩:=II h;refine⟨fun x hx=>?_,h2⟩;rcases List.mem_cons.1 hx with rfl|hx
  . exact⟨ti,hti⟩
  . exact h1 x hx
theorem MS(hT:TOk P T):∀ (fa:List Field) (w:World),(∀ x ∈ fa.map (fun f=>(f.offset,f.type)),∃ ti,T x.2=some ti) ->
    (fa.mapM (fun f=>do pure (f.offset,<- sizeOf f.type):Field->Sem (Nat × Nat))).run P w = .ok (fa.map fun f=>(f.offset,ah T f.type)) w
 | [],w,_=>by simp
 | f :: fa,w,h=>by
  obtain⟨ti,hti⟩:=h (f.offset,f.type) sI;have hz:(sizeOf f.type).run P w = .ok (ah T f.type) w:=by rw[(hT _ _ hti).size,jI hti]
  have ih:=MS hT fa w (fun x hx=>h x (by simp only[List.map_cons,List.mem_cons];exact .inr hx));simp only[List.mapM_cons,Sem.run_bind,hz,Result.andThen_ok,Sem.run_pure,ih,List.map_cons]
theorem run_places(hT:TOk P T)(fa:Array Field)(w:World)(h:∀ x ∈ fa.toList.map (fun f=>(f.offset,f.type)),∃ ti,T x.2=some ti) :
    (fa.mapM (fun f=>do pure (f.offset,<- sizeOf f.type):Field->Sem (Nat × Nat))).run P w = .ok (fa.map fun f=>(f.offset,ah T f.type)) w:=by
 have:=MS hT fa.toList w h;rw[Array.mapM_eq_mapM_toList,Sem.run_map,this];simp only[Result.andThen_ok];congr 1;apply Array.ext';simp
theorem yx(hT:TOk P T)(hS:Sim (ah T) w0 V0 V μ ω s a w){o:Oper}{K:D->St->Prop}(h:qop P T s o K):Qop P T w0 V0 V μ ω s a w o K:=by
 obtain⟨dst,op,type,pos,after,guard⟩:=o;cases op
 case move x=>
  simp only[qop,D.force_eq] at h;exact .aB hS (x:=pure (a.eval _)) (by simp[execOp]) ⟨_,_,h,hS.get _,fun w' _=>rfl⟩
 case assign x=>
  simp only[qop,D.force_eq] at h;exact .aB hS (x:=pure (a.eval _)) (by simp[execOp]) ⟨_,_,h,hS.get _,fun w' _=>rfl⟩
 case pick c x y=>
  simp only[qop] at h;have hc:=hS.get c;split at h
  . rename_i hcc
    rw[hcc] at hc;rw[D.force_eq] at h;refine⟨_,_,s,h,hS.get x,hS,⟨0,0,none⟩,0,iL.zero _,fun w' he=>?_⟩;simp[Oper.quietAt,execOp,hc.tt_,asBool,Oper.quietUpon]
  . rename_i hcc
    rw[hcc] at hc;rw[D.force_eq] at h;refine⟨_,_,s,h,hS.get y,hS,⟨0,0,none⟩,0,iL.zero _,fun w' he=>?_⟩;simp[Oper.quietAt,execOp,hc.ff_,asBool,Oper.quietUpon]
  . rename_i p hcc
    rw[hcc] at hc;obtain⟨b,hb,hbp⟩:=hc.bool;simp only[D.force_eq] at h
    cases b with
    | true=>
     refine⟨_,_,_,h.1 (hbp.1 rfl),hS.get x,hS.know c (d:=.tt) (by rw[hb];exact .imm _ _ .tt),⟨0,0,none⟩,0,iL.zero _,fun w' he=>?_⟩;simp[Oper.quietAt,execOp,hb,asBool,Oper.quietUpon]
    | false=>
     refine⟨_,_,_,h.2 (fun hp=>by simpa using hbp.2 hp),hS.get y,hS.know c (d:=.ff) (by rw[hb];exact .imm _ _ .ff),⟨0,0,none⟩,0,iL.zero _,fun w' he=>?_⟩;simp[Oper.quietAt,execOp,hb,asBool,Oper.quietUpon]
  . exact h.elim
 case load t x=>
  simp only[qop] at h;obtain⟨p,n,d,u,hv,hk,hr,hsp,hl⟩:=Nq hT hS.mem (hS.get x) h;refine⟨d,u,s,hk,hr,hS,p,n,hsp,fun w' he=>?_⟩;have hl':=hl w' he;simp[Oper.quietAt,execOp,Instr.loadAt,hv,Instr.sureAddr,hl',Oper.quietUpon]
 case nilCheck x=>
  simp only[qop] at h;have hx:=hS.get x;split at h
  . rename_i hc
    rw[hc] at hx;obtain⟨ad,val,hv,_⟩:=hx.ep_;refine⟨_,_,s,h,hx,hS,⟨0,0,none⟩,0,iL.zero _,fun w' he=>?_⟩;simp[Oper.quietAt,execOp,hv,Oper.quietUpon]
  . rename_i hc
    rw[hc] at hx;obtain⟨g,_,hv⟩:=hx.bp_;refine⟨_,_,s,h,hx,hS,⟨0,0,none⟩,0,iL.zero _,fun w' he=>?_⟩;simp[Oper.quietAt,execOp,hv,Oper.quietUpon]
  . rename_i hc
    rw[hc] at hx;obtain⟨g,_,_,_,hv⟩:=hx.op_;refine⟨_,_,s,h,hx,hS,⟨0,0,none⟩,0,iL.zero _,fun w' he=>?_⟩;simp[Oper.quietAt,execOp,hv,Oper.quietUpon]
  . exact h.elim
 case binOp bo t x y t'=>
  simp only[qop] at h;exact .aB hS (x:=do eqGuard bo t x y (a.eval x) (a.eval y);binOp bo t (a.eval x) (a.eval y)) (by simp[execOp]) (V7 hT (hS.get x) (hS.get y) h)
 case unOp uo t x=>
  simp only[qop] at h;exact .aB hS (x:=Op.unary uo (a.eval x)) (by simp[execOp]) (Xe (hS.get x) h)
 case convert t1 t2 x=>
  simp only[qop] at h;have hx:=hS.get x;split at h
  . rename_i k n h1 h2 k2 h3 h4 h5 h6
    have u1:=(hT _ _ h5).kind;have u2:=(hT _ _ h6).kind;rw[h4] at hx;refine .aB hS (x:=convert t1 t2 (a.eval x)) (by simp[execOp]) (Qok.num h fun w'=>?_);simp[hx.fQ,convert,dF u1,dF u2,Conv.intToInt]
  . rename_i l h1 h2 h3 h4 h5 h6 h7
    have u1:P.underlying t1=some .string:=(hT _ _ h6).kind;have u2:P.underlying t2=some .string:=(hT _ _ h7).kind;rw[h5] at hx;refine .aB hS (x:=convert t1 t2 (a.eval x)) (by simp[execOp]) ⟨_,_,h,hx,fun w' _=>?_⟩;simp[hx.nP,convert,dF u1,dF u2]
  . exact h.elim
 case slice t x lo hi mx=>
  cases mx with
  | some m=>simp only[qop] at h
  | none=>
  simp only[qop] at h;exact .aB hS (x:=Instr.sliceAt t (a.eval x) (lo.map a.eval) (hi.map a.eval) none) (by simp[execOp]) (Ve hT hS.mem (hS.get x) (OC hS lo) (OC hS hi) h)
 case fieldAddr t x f=>
  simp only[qop] at h;obtain⟨fa,fd,hu,hf,h⟩:=L9 hT h;split at h
  . exact h.elim
  rename_i hm;have hx:=hS.get x;have hfp:∀ (p:Addr) w',(Instr.fieldAt t (.pointer (some p)) f).run P w' = .ok (.pointer (some (p.add fd.offset))) w':=by
   intro p w';obtain⟨m,hz⟩:=Ym hT hm w';simp[Instr.fieldAt,dF hu,hf,Instr.sureAddr,fieldPlace,hz]
  split at h
  . rename_i cs hc
    rw[hc] at hx;obtain⟨ad,val,hv,hV,hR⟩:=hx.ep_;exact .aB hS (x:=Instr.fieldAt t (a.eval x) f) (by simp[execOp]) ⟨_,.pointer (some (ad.add fd.offset)),h,.imm _ _ (.ep _ _ (fun j=>val (fd.offset+j)) (fun j d hd=>by rw[add_add];exact hV _ d (by simpa using hd)) (fun j d hd=>hR _ d (by simpa using hd))),fun w' _=>by rw[hv,hfp]⟩
  . rename_i i off hc
    rw[hc] at hx;obtain⟨g,hg,hv⟩:=hx.bp_;exact .aB hS (x:=Instr.fieldAt t (a.eval x) f) (by simp[execOp]) ⟨_,.pointer (some ⟨g,off+fd.offset,none⟩),h,.bp _ _ g hg,fun w' _=>by rw[hv,hfp,add_lit]⟩
  . rename_i r e j off hc
    rw[hc] at hx;obtain⟨g,N,c,hg,hv⟩:=hx.op_;refine .aB hS (x:=Instr.fieldAt t (a.eval x) f) (by simp[execOp]) ⟨_,.pointer (some ⟨g,j*ah T e+(off+fd.offset),none⟩),h,.op _ _ _ _ g N c hg,fun w' _=>?_⟩;rw[hv,hfp,add_lit,Nat.add_assoc]
  . exact h.elim
 case field t x f=>
  simp only[qop] at h;obtain⟨fa,fd,hu,hf,h⟩:=L9 hT h;have hx:=hS.get x;split at h
  case h_2=>exact h.elim
  rename_i cs hc;rw[hc] at hx;obtain⟨vs,hv,hs,ho,hR⟩:=hx.jU;obtain⟨d,u,h1,h2,h3⟩:=MP (w:=w) hT hs ho hR h;exact .aB hS (x:=Instr.field t (a.eval x) f) (by simp[execOp]) ⟨d,u,h1,h2,fun w' he=>by simp[Instr.field,dF hu,hf,hv,asAgg,h3 w' he]⟩
 case indexAddr t x i=>
  simp only[qop] at h;exact .aB hS (x:=Instr.indexAt t (a.eval x) (a.eval i)) (by simp[execOp]) (V9 hT hS.mem (fun t=>⟨_,hS.env t⟩) (hS.get x) (hS.get i) h)
 case index t x i=>
  simp only[qop] at h;exact .aB hS (x:=Instr.index t (a.eval x) (a.eval i)) (by simp[execOp]) (Vu hT (hS.get x) (hS.get i) h)
 case extract x i=>
  simp only[qop] at h;have hx:=hS.get x;split at h
  case h_2=>exact h.elim
  rename_i ds hc;rw[hc] at hx;split at h
  case h_2=>exact h.elim
  rename_i d hd;rw[D.force_eq] at h;obtain⟨vs,hv,hs,hR⟩:=hx.xk;have hi:i<vs.size:=by rw[hs];exact (aK.1 hd).1
  have hvi:=Array.getElem?_eq_getElem hi;exact .aB hS (x:=Instr.extract (a.eval x) i) (by simp[execOp]) ⟨d,vs[i],h,hR i _ d hvi hd,fun w' _=>by simp[Instr.extract,hv,hvi]⟩
 case build t ps=>
  simp only[qop] at h;have hps:∀ (j:Nat) i v i' d,(ps.toList.map fun x=>(x.1,a.eval x.2))[j]? = some (i,v)->(ps.toList.map fun x=>(x.1,s.get x.2))[j]? = some (i',d)->i=i'/\RS (ah T) V μ ω v d:=by
   intro j i v i' d h1 h2;simp only[aN,Option.map_eq_some_iff,Prod.mk.injEq] at h1 h2;obtain⟨x,hx,rfl,rfl⟩:=h1;obtain⟨y,hy,rfl,rfl⟩:=h2;rw[hx] at hy;cases hy;exact⟨rfl,hS.get _⟩
  have hzero:∀ ti,T t=some ti->∃ z,(∀ w',(zeroValue t).run P w' = .ok z w')/\gJ (ah T) V μ ω z.cells ti.zero:=by
   intro ti hti;obtain⟨i,z,h1,h2,h3,h4,h5,h6,h7⟩:=(hT _ _ hti).info;refine⟨z,fun w'=>by simp[zeroValue,typeInfo,h1,h4],⟨by rw[<- h5];simp,h7,fun j v d hv hd=>?_⟩⟩;rw[<- h5] at hd;simp only[aN,Array.getElem?_toList,hv,Option.map_some,Option.some.injEq] at hd;subst hd;exact .imm _ _ (DU v)
  split at h
  . rename_i fs z hti
    obtain⟨z',hz,hag⟩:=hzero _ hti;obtain⟨fa,hu,hfa⟩:=(hT _ _ hti).kind;obtain⟨hall,h⟩:=II h;obtain⟨vs,cs,JX,hag',hk⟩:=MR _ _ _ _ _ hag sI hps h;refine .aB hS (x:=Instr.build t (ps.map fun x=>(x.1,a.eval x.2))) (by simp[execOp]) ⟨_,.agg vs,hk,.agg _ _ hag'.size hag'.one hag'.rel,fun w' _=>?_⟩;have hpl:=run_places (P:=P) hT fa w' (by rw[hfa];exact hall);have hfe:(fun (i:Nat)=>(fa.map fun f=>(f.offset,ah T f.type))[i]?)=fun (i:Nat)=>(fs[i]?).map fun (x:Nat × TypeId)=>(x.1,ah T x.2):=by
     funext i
     rw[<- hfa];simp[Function.comp_def]
    simp only[Instr.build,Sem.run_bind,hz,Result.andThen_ok,dF hu,hpl];rw[hfe];simp[JX]
  . rename_i n e z hti
    obtain⟨z',hz,hag⟩:=hzero _ hti;have hu:=(hT _ _ hti).kind;obtain⟨hall,h⟩:=II h;obtain⟨vs,cs,JX,hag',hk⟩:=MR _ _ _ _ _ hag sI hps h;refine .aB hS (x:=Instr.build t (ps.map fun x=>(x.1,a.eval x.2))) (by simp[execOp]) ⟨_,.agg vs,hk,.agg _ _ hag'.size hag'.one hag'.rel,fun w' _=>?_⟩;obtain⟨te,hte⟩:=hall (0,e) sI;have hze:(sizeOf e).run P w' = .ok (ah T e) w':=by rw[(hT _ _ hte).size,jI hte]
    simp[Instr.build,hz,dF hu,hze,JX]
  . exact h.elim
 case typeAssert x xt b ok=>
  cases ok<;>first|exact h.elim|skip
  simp only[qop] at h;have hr:=hS.get x;split at h
  case h_2=>exact h.elim
  rename_i t d _ _ fs z hd hti;rw[hd] at hr;obtain⟨v,hx,hxr⟩:=hr.KJ;obtain⟨i,z',h1,h2,h3,h4,h5,h6,h7⟩:=(hT _ _ hti).info;obtain⟨fa,hu,hfa⟩:=(hT _ _ hti).kind;have hz:∀ w',(zeroValue b).run P w' = .ok z' w':=fun w'=>by simp[zeroValue,typeInfo,h1,h4]
  split at h
  . rename_i hb
    have:=dO hb;subst this;refine .aB hS (x:=Instr.typeAssert (a.eval x) xt t true) (by simp[execOp]) ⟨_,.tuple #[v,.bool true],h,.tup _ _ sI (fun j u e hu he=>?_),fun w' _=>?_⟩
    . match j with
      | 0=>simp at hu he;subst hu he;exact .imm _ _ hxr
      | 1=>simp at hu he;subst hu he;exact .imm _ _ .tt
      | j+2=>simp at he
    . simp[Instr.typeAssert,dF hu,hx]
  . rename_i hb
    have hne:¬ t=b:=fun e=>by subst e;simp at hb
    refine .aB hS (x:=Instr.typeAssert (a.eval x) xt b true) (by simp[execOp]) ⟨_,.tuple #[z',.bool false],h,.tup _ _ sI (fun j u e hu he=>?_),fun w' _=>?_⟩
    . match j with
      | 0=>simp at hu he;subst hu he;exact .imm _ _ (.u _)
      | 1=>simp at hu he;subst hu he;exact .imm _ _ .ff
      | j+2=>simp at he
    . simp[Instr.typeAssert,dF hu,hx,hne,hz]
 case makeFunc fn first cap=>
  cases fn<;>first|exact h.elim|skip
  rename_i f;simp only[qop] at h;have yV:∀ (xs:Array Operand) (j:Nat) v d,(xs.map a.eval)[j]? = some v->(s.gets xs.toList)[j]? = some d->RS (ah T) V μ ω v d:=fun xs j v d h1 h2=>by
   simp only[St.gets,aN,Array.getElem?_map,Option.map_eq_some_iff,Array.getElem?_toList] at h1 h2;obtain⟨x,hx,rfl⟩:=h1;obtain⟨y,hy,rfl⟩:=h2;rw[hx] at hy;cases hy;exact hS.get x
  rcases h with h|h
  . unfold jC at h
    split at h
    case h_2=>exact h.elim
    rename_i hi;simp only[Bool.and_eq_true] at hi;simp only[iQ] at h;exact⟨_,_,s,h,.imm _ _ (.fn f _ _ (first.map a.eval) (cap.map a.eval) (by simp[St.gets]) (by simp[St.gets])
     (fun j v d h1 h2=>Eo (yV first j v d h1 h2) (Jk hi.1 j d h2)) (fun j v d h1 h2=>Eo (yV cap j v d h1 h2) (Jk hi.2 j d h2))),hS,⟨0,0,none⟩,0,iL.zero _,fun w' he=>by
      simp[Oper.quietAt,execOp,Instr.makeFunc,Oper.quietUpon]⟩
  . simp only[iQ] at h
    exact⟨_,_,s,h,.fnh f _ _ (first.map a.eval) (cap.map a.eval) (by simp[St.gets]) (by simp[St.gets]) (yV first) (yV cap),hS,⟨0,0,none⟩,0,iL.zero _,fun w' he=>by
        simp[Oper.quietAt,execOp,Instr.makeFunc,Oper.quietUpon]⟩
 case call c=>
  obtain⟨callee,args,argTypes⟩:=c
  cases callee with
  | invoke r m=>
   simp only[qop] at h;split at h
   case h_2=>exact h.elim
   rename_i t d hd;have hr:=hS.get r;rw[hd] at hr;obtain⟨x,hx,hxr⟩:=hr.KJ;obtain⟨es,⟨f,hm,d',hf,hg,hk⟩,hes,hr2⟩:=xY hS.mem argTypes.toList (s.gets args.toList) (args.toList.map a.eval) _ (by simp[St.gets]) (fun j v d h1 h2=>by
    simp only[St.gets,aN,Option.map_eq_some_iff] at h1 h2;obtain⟨x,hx,rfl⟩:=h1;obtain⟨y,hy,rfl⟩:=h2;rw[hx] at hy;cases hy;exact hS.get x) h
   refine⟨d',toV d',s,hk,.imm _ _ (yL hg),hS,⟨0,0,none⟩,0,iL.zero _,fun w' he=>?_⟩;have hq:=hf.quiet hS.mem.vok.gl (args:=#[x]++args.map a.eval) hg (by
    have:es.length=args.size:=by simpa[St.gets] using hes
    rw[Array.size_append,List.length_cons,this];simp;omega) (fun j v d h1 h2=>by
    cases j with
    | zero=>
     rw[Array.getElem?_append_left sI] at h1;simp at h1 h2;subst h1 h2;exact hxr.mono fun p v hp=>hS.mem.vok.2 p v hp
    | succ j=>
     rw[Array.getElem?_append_right sI] at h1;exact hr2 j v d (by simpa using h1) (by simpa using h2)) w' he
   simp only[Oper.quietAt,execOp,resolve,hx,Sem.run_bind,Sem.run_pure,Result.andThen_ok];rw[hm.enter];exact⟨rfl,hq⟩
  | builtin b=>
   cases b<;>first|exact h.elim|skip
   case max=>
    simp only[qop] at h;split at h
    case h_3=>exact h.elim
    case h_2=>
     rename_i x y z u ha;obtain⟨args⟩:=args;dsimp only at ha;subst ha;unfold TM at h;split at h
     case h_2=>exact h.elim
     rename_i k m n o hx hy hz hu;have e1:=hS.get x;rw[hx] at e1;have e2:=hS.get y;rw[hy] at e2;have e3:=hS.get z;rw[hz] at e3;have e4:=hS.get u;rw[hu] at e4;exact .aB hS (x:=Builtin.max_ argTypes type #[a.eval x,a.eval y,a.eval z,a.eval u]) (by simp[execOp,resolve,invoke,builtin]) (Qok.num h fun w'=>by simp[Builtin.max_,e1.fQ,e2.fQ,e3.fQ,e4.fQ,Builtin.max2,mx])
    rename_i x y ha;obtain⟨args⟩:=args;dsimp only at ha;subst ha;unfold Uj at h;split at h
    case h_2=>exact h.elim
    rename_i k m k' n hx hy;rw[jv] at h;obtain⟨hk,h⟩:=h;have:=Ei hk;subst this;have e1:=hS.get x;rw[hx] at e1;have e2:=hS.get y;rw[hy] at e2;exact .aB hS (x:=Builtin.max_ argTypes type #[a.eval x,a.eval y]) (by simp[execOp,resolve,invoke,builtin]) (Qok.num h fun w'=>by simp[Builtin.max_,e1.fQ,e2.fQ,Builtin.max2])
   simp only[qop] at h;split at h
   case h_2=>exact h.elim
   rename_i x t ha ht;obtain⟨args⟩:=args;obtain⟨argTypes⟩:=argTypes;dsimp only at ha ht;subst ha ht;exact .aB hS (x:=Builtin.len_ #[t] type #[a.eval x]) (by simp[execOp,resolve,invoke,builtin]) (V8 hT (hS.get x) h)
  | value f=>
   cases f<;>first|exact h.elim|skip
   . rename_i t
     simp only[qop] at h;have ht:=hS.get (.tmp t);have yV:∀ (j:Nat) v d,(args.toList.map a.eval)[j]? = some v->(s.gets args.toList)[j]? = some d->RS (ah T) V μ ω v d:=fun j v d h1 h2=>by
      simp only[St.gets,aN,Option.map_eq_some_iff] at h1 h2;obtain⟨x,hx,rfl⟩:=h1;obtain⟨y,hy,rfl⟩:=h2;rw[hx] at hy;cases hy;exact hS.get x
     obtain⟨f,first,cap,vs,us,hv,hs1,hs2,hr1,hr2,h⟩:=Dx ht h;obtain⟨es1,h,hl1,hq1⟩:=GR hS.mem first vs.toList _ (by simpa using hs1) (fun j v d h1 h2=>hr1 j v d (by simpa using h1) h2) h
     obtain⟨es2,h,hl2,hq2⟩:=xY hS.mem argTypes.toList (s.gets args.toList) (args.toList.map a.eval) _ (by simp[St.gets]) yV h;obtain⟨es3,⟨d,hf,hg,hk⟩,hl3,hq3⟩:=GR hS.mem cap us.toList _ (by simpa using hs2) (fun j v d h1 h2=>hr2 j v d (by simpa using h1) h2) h;refine⟨d,toV d,s,hk,.imm _ _ (yL hg),hS,⟨0,0,none⟩,0,iL.zero _,fun w' he=>?_⟩;have hlen1:es1.length=vs.size:=by rw[hl1,hs1]
     have hlen2:es2.length=args.size:=by rw[hl2];simp[St.gets]
     have hlen3:es3.length=us.size:=by rw[hl3,hs2]
     have hq:=hf.quiet hS.mem.vok.gl (args:=(vs++args.map a.eval)++us) hg sO (fun j v d h1 h2=>by
      have h1':(vs.toList++args.toList.map a.eval++us.toList)[j]? = some v:=by
       rw[<- h1];simp[<- Array.getElem?_toList]
      refine Gf (fun i v d=>hq1 i v d) (fun i v d=>hq2 i v d) (fun i v d=>hq3 i v d) (by simp[hlen1]) (by simp[hlen2]) j v d h1' h2) w' he
     simp only[Oper.quietAt,execOp,resolve,hv,Deferred.ofValue,invoke,Sem.run_bind,Sem.run_pure,Result.andThen_ok];rw[hf.call];exact⟨rfl,hq⟩
   rename_i f;simp only[qop] at h;obtain⟨es,⟨d,hf,hg,hk⟩,hes,hr⟩:=xY hS.mem argTypes.toList (s.gets args.toList) (args.toList.map a.eval) _ (by simp[St.gets]) (fun j v d h1 h2=>by
    simp only[St.gets,aN,Option.map_eq_some_iff] at h1 h2;obtain⟨x,hx,rfl⟩:=h1;obtain⟨y,hy,rfl⟩:=h2;rw[hx] at hy;cases hy;exact hS.get x) h
   refine⟨d,toV d,s,hk,.imm _ _ (yL hg),hS,⟨0,0,none⟩,0,iL.zero _,fun w' he=>?_⟩;have hq:=hf.quiet hS.mem.vok.gl (args:=args.map a.eval) hg (by simpa[St.gets] using hes.symm) (fun j v d h1 h2=>hr j v d (by simpa using h1) h2) w' he;simp only[Oper.quietAt,execOp,resolve,Act.eval,Deferred.ofValue,invoke,Sem.run_bind,Sem.run_pure,Result.andThen_ok];rw[show (#[]++args.map a.eval)++#[]=args.map a.eval by simp,hf.call];exact⟨rfl,hq⟩
 all_goals exact h.elim
end
end Go.Vx
namespace Go.Vx
open Go.RowKit
section
variable {w0 w w' : World} {V0 : Fr} {V : Vw} {μ : List Nat} {ω : List Value} {s : St} {a : Act} {P : Program} {T : Tab}
theorem Yu{a:Act}{t:Nat}{b:Bool}(h:a.tmps.getD t undef = .bool b):a.tmps[t]? = some (.bool b):=by
 by_cases ht:t<a.tmps.size
 . rw[Array.getElem?_eq_getElem ht];simpa[Array.getD,ht] using h
 . simp[Array.getD,ht,undef] at h
theorem mY(hS:Sim (ah T) w0 V0 V μ ω s a w){ops:List Oper}{o:Oper}{yes no:St->Prop}(h:lC ops s o.guard yes no) :
    (Region.wanted o (yielded ops.toArray a.tmps)=true/\∃ s',yes s'/\Sim (ah T) w0 V0 V μ ω s' a w)\/(Region.wanted o (yielded ops.toArray a.tmps)=false/\∃ s',no s'/\Sim (ah T) w0 V0 V μ ω s' a w):=by
 unfold lC at h;split at h
 . rename_i hg
   exact .inl ⟨by simp[Region.wanted,hg],s,h,hS⟩
 . rename_i j c hg
   split at h
   . exact h.elim
   rename_i t ht;have hy:∀ b,a.tmps.getD t undef = .bool b->yielded ops.toArray a.tmps j=some b:=by
    intro b hb;simp[yielded,ht,Yu hb]
   have hw:∀ b,a.tmps.getD t undef = .bool b->Region.wanted o (yielded ops.toArray a.tmps)=(b == c):=by
    intro b hb;simp[Region.wanted,hg,hy b hb]
   cases hb:Nat.blt t s.n with
   | false=>rw[hb] at h;exact h.elim
   | true => 
   rw[hb] at h;dsimp only at h;have htn:=IG hb;have hl:=hS.slot htn;split at h
   . rename_i hd;rw[hd] at hl;exact .inl ⟨by rw[hw _ hl.tt_];rfl,s,h,hS⟩
   . rename_i hd;rw[hd] at hl;exact .inr ⟨by rw[hw _ hl.tt_];rfl,s,h,hS⟩
   . rename_i hd;rw[hd] at hl;exact .inr ⟨by rw[hw _ hl.ff_];rfl,s,h,hS⟩
   . rename_i hd;rw[hd] at hl;exact .inl ⟨by rw[hw _ hl.ff_];rfl,s,h,hS⟩
   . rename_i p hd
     rw[hd] at hl;obtain⟨b,hb,hbp⟩:=hl.bool
     cases b with
     | true=>exact .inl ⟨by rw[hw _ hb];rfl,_,h.1 (hbp.1 rfl),hS.set htn (by rw[hb];exact .imm _ _ .tt)⟩
     | false=>exact .inr ⟨by rw[hw _ hb];rfl,_,h.2 (fun hp=>by simpa using hbp.2 hp),hS.set htn (by rw[hb];exact .imm _ _ .ff)⟩
   . rename_i p hd
     rw[hd] at hl;obtain⟨b,hb,hbp⟩:=hl.bool
     cases b with
     | true=>exact .inr ⟨by rw[hw _ hb];rfl,_,h.1 (hbp.1 rfl),hS.set htn (by rw[hb];exact .imm _ _ .tt)⟩
     | false=>exact .inl ⟨by rw[hw _ hb];rfl,_,h.2 (fun hp=>by simpa using hbp.2 hp),hS.set htn (by rw[hb];exact .imm _ _ .ff)⟩
   . rename_i hd
     rw[hd] at hl;obtain⟨vs,hv,hvs,_⟩:=hl.xk;obtain rfl:vs=#[]:=Array.eq_empty_of_size_eq_zero (by simpa using hvs);have hn:yielded ops.toArray a.tmps j=none:=by
      have hlt:t<a.tmps.size:=by rw[hS.tmps];exact htn
      have:a.tmps[t]? = some (.tuple #[]):=by
       rw[Array.getElem?_eq_getElem hlt];simp only[Array.getD,hlt,dite_true] at hv;exact congrArg some hv
      simp[yielded,ht,this]
     exact .inr ⟨by simp[Region.wanted,hg,hn],s,h,hS⟩
   . exact h.elim
theorem gV(hS:Sim (ah T) w0 V0 V μ ω s a w){dst:Option Nat}{d:D}{v:Value}{K:St->Prop}(hv:RS (ah T) V μ ω v d)(h:gy s dst d K) :
    ∃ s',K s'/\Sim (ah T) w0 V0 V μ ω s' (a.put dst v) w:=by
 unfold gy at h
 cases dst with
 | none=>exact⟨s,h,hS⟩
 | some t=>
  obtain⟨env,box,row,n⟩:=s;dsimp only at h
  cases hb:Nat.ble (t+1) n with
  | false=>rw[hb] at h;exact h.elim
  | true=>
   rw[hb] at h;exact⟨_,h,hS.put (by rw[Nat.ble_eq] at hb;exact hb) hv⟩
theorem Hr(hT:TOk P T){ops:List Oper}:∀ (rest:List Oper) (s:St) (a:Act) (K:St->Prop),Sim (ah T) w0 V0 V μ ω s a w->BO P T ops rest s K ->
    wpQuiet P ops.toArray (Ext w) (fun a'=>∃ s',K s'/\Sim (ah T) w0 V0 V μ ω s' a' w) rest a
 | [],s,a,K,hS,h=>⟨s,h,hS⟩
 | o :: rest,s,a,K,hS,h=>by
  simp only[BO] at h;rcases mY hS h with⟨hw,s1,h,hS⟩|⟨hw,s1,h,hS⟩
  . refine wpQuiet_step fun K' hK'=>?_
    rw[if_pos hw];obtain⟨d,v,s2,h,hr,hS,_,_,_,hq⟩:=yx hT hS h;refine⟨v,fun w' he=>hq w' (QR.ext he),hK' _ ?_⟩;obtain⟨s3,h,hS⟩:=gV hS hr h;exact Hr hT rest s3 _ K hS h
  . refine wpQuiet_step fun K' hK'=>?_
    rw[if_neg (by rw[hw];simp)];refine hK' _ ?_;obtain⟨s3,h,hS⟩:=gV hS (v:=undef) (d:=.tup []) (RS.tup [] #[] rfl (fun j v d h=>by simp at h)) h;exact Hr hT rest s3 _ K hS h
end
theorem GL{P:Program}{ops:Array Oper}{C:World->Prop}{Q Q':Act->Prop}(hq:∀ a,Q a->Q' a):∀ (l:List Oper) (a:Act),wpQuiet P ops C Q l a->wpQuiet P ops C Q' l a
 | [],a,h=>hq a h
 | o :: l,a,h=>by
  unfold wpQuiet at h ⊢;split
  . rename_i hw
    rw[if_pos hw] at h;exact Oper.quiet_mono (fun a' h'=>GL hq l a' h') h
  . rename_i hw
    rw[if_neg hw] at h;exact GL hq l _ h
theorem Ht{P:Program}{Q:Exit->Act->World->Prop}{c:Code}(J:Nat->Act->World->Prop)
    (round:∀ n a w,J n a w->c.wp P (Exit.then (fun a' w'=>∃ n',n' < n/\J n' a' w') Q) a w){n:Nat}{a:Act}{w:World}(h0:J n a w):(Code.loop c).wp P Q a w:=by
 intro b k cs;have key:∀ n a w,J n a w->∃ e a' w',Q e a' w'/\Arrives P (lone (b.at a (.code c :: .inLoop c :: k)) cs w) b k cs e a' w':=by
  intro n
  induction n using Nat.strongRecOn with
  | _ n ih=>
   intro a w hJ;obtain⟨e,a₁,w₁,hq,harr⟩:=round n a w hJ b (.inLoop c :: k) cs
   cases e with
   | normal=>
    obtain⟨n',hlt,hJ'⟩:=hq;obtain⟨e₂,a₂,w₂,hq₂,harr₂⟩:=ih n' hlt a₁ w₁ hJ';exact⟨e₂,a₂,w₂,hq₂,.of_steps (Steps.trans harr (.one step_inLoop)) harr₂⟩
   | exit id=>exact⟨_,a₁,w₁,hq,.pass (x:=.inLoop c) rfl (fun _ _=>.inl sI) harr⟩
   | goto l=>exact⟨_,a₁,w₁,hq,.pass (x:=.inLoop c) rfl (fun _ _=>.inl sI) harr⟩
   | ret=>exact⟨_,a₁,w₁,hq,.pass (x:=.inLoop c) rfl (fun _ _=>.inl sI) harr⟩
   | panic ch=>exact⟨_,a₁,w₁,hq,.pass (x:=.inLoop c) rfl (fun _ _=>.inl sI) harr⟩
   | outgrown=>exact⟨_,a₁,w₁,hq,.pass (x:=.inLoop c) rfl (fun _ _=>.inl sI) harr⟩
 obtain⟨e,a',w',hq,harr⟩:=key n a w h0;exact⟨e,a',w',hq,.of_steps (.one step_loop) harr⟩
structure Ok(P:Program)(T:Tab)(c:Code)(Q:Exit->St->Prop)(s:St):Prop where
 run:∀ (w0:World) (V0:Fr) (V:Vw) (μ:List Nat) (ω:List Value) (a:Act) (w:World),Sim (ah T) w0 V0 V μ ω s a w ->
  c.wp P (fun e a' w'=>∃ s' V' μ' ω',Q e s'/\Sim (ah T) w0 V0 V' μ' ω' s' a' w') a w
section
variable {P : Program} {T : Tab} {s : St} {Q : Exit → St → Prop}
theorem Ok.bH(hT:TOk P T)(hm:P.follows .mixedOrders=true){id:Nat}{l:List Oper}(hB:Region.lexB .any l.toArray=true)(h:BO P T l l s (Q .normal)) :
    Ok P T (.region id l.toArray true) Q s:=by
 refine⟨fun w0 V0 V μ ω a w hS=>?_⟩;have hd:Ext w { w with drawn:=w.drawn+1 }:=(Below.refl w.heap.size w).drew;refine wp_region_quiet (C:=Ext w) hm hB hd ?_;have hq:=Hr hT l s a _ hS h;refine GL ?_ _ _ hq;rintro a' ⟨s',hk,hS'⟩ w' he;exact⟨s',V,μ,ω,hk,hS'.ext he⟩
theorem Ok.mono{c:Code}{Q':Exit->St->Prop}(h:Ok P T c Q s)(hq:∀ e s,Q e s->Q' e s):Ok P T c Q' s:=by
 refine⟨fun w0 V0 V μ ω a w hS=>?_⟩;refine wp_mono (h.run w0 V0 V μ ω a w hS) ?_;rintro e a' w' ⟨s',V',μ',ω',hk,hS'⟩;exact⟨s',V',μ',ω',hq _ _ hk,hS'⟩
def Bg(N:St->Prop)(Q:Exit->St->Prop):Exit->St->Prop
 | .normal,s=>N s
 | e,s=>Q e s
theorem Ok.seq{x y:Code}(h:Ok P T x (Bg (Ok P T y Q) Q) s):Ok P T (.seq x y) Q s:=by
 refine⟨fun w0 V0 V μ ω a w hS=>?_⟩;refine wp_seq (wp_mono (h.run w0 V0 V μ ω a w hS) ?_);rintro e a' w' ⟨s',V',μ',ω',hk,hS'⟩
 cases e with
 | normal=>exact Ok.run hk w0 V0 V' μ' ω' a' w' hS'
 | _=>exact⟨s',V',μ',ω',hk,hS'⟩
theorem Ok.skip(h:Q .normal s):Ok P T .skip Q s:=⟨fun _ _ V μ ω _ _ hS=>wp_skip ⟨s,V,μ,ω,h,hS⟩⟩
theorem Ok.ret(h:Q .ret s):Ok P T .ret Q s:=⟨fun _ _ V μ ω _ _ hS=>wp_ret ⟨s,V,μ,ω,h,hS⟩⟩
theorem Ok.exit{id:Nat}(h:Q (.exit id) s):Ok P T (.exit id) Q s:=⟨fun _ _ V μ ω _ _ hS=>wp_exit ⟨s,V,μ,ω,h,hS⟩⟩
def SH(id:Nat)(Q:Exit->St->Prop):Exit->St->Prop
 | .exit id',s=>match Nat.beq id' id with|true=>Q .normal s|false=>Q (.exit id') s
 | e,s=>Q e s
theorem Ok.block{id:Nat}{c:Code}(h:Ok P T c (SH id Q) s):Ok P T (.block id c) Q s:=by
 refine⟨fun w0 V0 V μ ω a w hS=>?_⟩;refine wp_block (wp_mono (h.run w0 V0 V μ ω a w hS) ?_);rintro e a' w' ⟨s',V',μ',ω',hk,hS'⟩
 cases e with
 | exit id'=>
  simp only[SH] at hk;simp only[Exit.inBlock];split at hk
  . rename_i hb
    rw[if_pos (dO hb)];exact⟨s',V',μ',ω',hk,hS'⟩
  . rename_i hb
    rw[if_neg (by rintro rfl;rw[Nat.beq_refl] at hb;cases hb)];exact⟨s',V',μ',ω',hk,hS'⟩
 | _=>exact⟨s',V',μ',ω',hk,hS'⟩
def yX(s:St)(c:Operand)(X Y:St->Prop):Prop:=
 match s.get c with
 | .tt=>X s
 | .ff=>Y s
 | .b p=>(p->X (s.know c .tt))/\(¬p->Y (s.know c .ff))
 | _=>False
theorem Ok.cond{c:Operand}{x y:Code}(h:yX s c (Ok P T x Q) (Ok P T y Q)):Ok P T (.cond c x y) Q s:=by
 refine⟨fun w0 V0 V μ ω a w hS=>?_⟩;have hc:=hS.get c;unfold yX at h;split at h
 . rename_i hd;rw[hd] at hc;exact wp_cond_true hc.tt_ (h.run w0 V0 V μ ω a w hS)
 . rename_i hd;rw[hd] at hc;exact wp_cond_false hc.ff_ (h.run w0 V0 V μ ω a w hS)
 . rename_i p hd
   rw[hd] at hc;obtain⟨b,hb,hbp⟩:=hc.bool
   cases b with
   | true=>exact wp_cond_true hb ((h.1 (hbp.1 rfl)).run w0 V0 V μ ω a w (hS.know c (by rw[hb];exact .imm _ _ .tt)))
   | false=>exact wp_cond_false hb ((h.2 (fun hp=>by simpa using hbp.2 hp)).run w0 V0 V μ ω a w (hS.know c (by rw[hb];exact .imm _ _ .ff)))
 . exact h.elim
end
end Go.Vx
namespace Go.Vx
open Go.RowKit
def gZ{α:Type}:List α->α->(List α->Prop)->Prop
 | [],x,K=>K [x]
 | y :: r,x,K=>gZ r x fun r=>K (y :: r)
theorem kY{α:Type}(l:List α)(x:α):∀ K:List α->Prop,gZ l x K=K (l++[x]):=by
 induction l with
 | nil=>intro K;rfl
 | cons y r ih=>intro K;simp only[gZ,ih,List.cons_append]
def fH{α:Type}:List α->Nat->α->(List α->Prop)->Prop
 | [],_,_,_=>False
 | _ :: r,0,x,K=>K (x :: r)
 | y :: r,i+1,x,K=>fH r i x fun r=>K (y :: r)
theorem gW{α:Type}(l:List α)(x:α):∀ (i:Nat) (K:List α->Prop),fH l i x K->i<l.length/\K (l.set i x):=by
 induction l with
 | nil=>intro i K h;exact h.elim
 | cons y r ih=>
  intro i K h
  cases i with
  | zero=>exact⟨sI,h⟩
  | succ i=>obtain⟨h1,h2⟩:=ih i _ h;exact⟨by simpa using h1,h2⟩
def natLit(n:Nat)(K:Nat->Prop):Prop:=
 match n with
 | 0=>K 0|1=>K 1|2=>K 2|3=>K 3|4=>K 4|5=>K 5|6=>K 6|7=>K 7|8=>K 8|9=>K 9|10=>K 10|11=>K 11|12=>K 12|13=>K 13|14=>K 14
 | 15=>K 15|16=>K 16|17=>K 17|18=>K 18|19=>K 19|20=>K 20|21=>K 21|22=>K 22|23=>K 23|24=>K 24|n=>K n
theorem kW(n:Nat)(K:Nat->Prop):natLit n K=K n:=by
 unfold natLit;split<;>rfl
def eqN(a b:Nat)(p:Prop):Prop:=match Nat.beq a b with|true=>p|false=>False
theorem jJ{a b:Nat}{p:Prop}(h:eqN a b p):a=b/\p:=by
 unfold eqN at h;split at h
 . rename_i hb;exact⟨dO hb,h⟩
 . exact h.elim
def zl(r:Nat)(f:Nat->D)(d:D)(K:D->Prop):Prop:=
 match d with
 | .own q m=>match Nat.beq q r with|true=>(f m).force K|false=>K (.own q m)
 | .op q e j o=>match Nat.beq q r with|true=>K .u|false=>K (.op q e j o)
 | .osl q e a m=>match Nat.beq q r with|true=>K .u|false=>K (.osl q e a m)
 | .tie q a b c=>match Nat.beq q r with|true=>K .u|false=>K (.tie q a b c)
 | .agg _=>K .u
 | .tup _=>K .u
 | .fnh ..=>K .u
 | d=>d.force K
def Bh(r:Nat)(f:Nat->D):List D->(List D->Prop)->Prop
 | [],K=>K []
 | d :: ds,K=>zl r f d fun d=>Bh r f ds fun ds=>K (d :: ds)
def lN(r:Nat)(f:Nat->D)(d:D)(K:D->Prop):Prop:=
 match d with
 | .own q m=>match Nat.beq q r with|true=>(f m).force K|false=>K (.own q m)
 | .op q e j o=>match Nat.beq q r with|true=>K .u|false=>K (.op q e j o)
 | .osl q e a m=>match Nat.beq q r with|true=>K .u|false=>K (.osl q e a m)
 | .tie q a b c=>match Nat.beq q r with|true=>K .u|false=>K (.tie q a b c)
 | .agg _=>K .u
 | .tup _=>K .u
 | .fnh q x y=>Bh r f x fun x=>Bh r f y fun y=>K (.fnh q x y)
 | d=>d.force K
def BU(r:Nat)(f:Nat->D):List D->(List D->Prop)->Prop
 | [],K=>K []
 | d :: ds,K=>lN r f d fun d=>BU r f ds fun ds=>K (d :: ds)
def xu(r:Nat)(f:Nat->D)(d:D)(K:D->Prop):Prop:=
 match d with
 | .agg cs=>BU r f cs fun cs=>K (.agg cs)
 | d=>lN r f d K
def Gg(r:Nat)(f:Nat->D):List D->(List D->Prop)->Prop
 | [],K=>K []
 | d :: ds,K=>xu r f d fun d=>Gg r f ds fun ds=>K (d :: ds)
def Gh(r:Nat)(f:Nat->D)(d:D)(K:D->Prop):Prop:=
 match d with
 | .tup cs=>Gg r f cs fun cs=>K (.tup cs)
 | d=>xu r f d K
def nS(r:Nat)(f:Nat->D):List (Nat × D)->(List (Nat × D)->Prop)->Prop
 | [],K=>K []
 | (t,d) :: ds,K=>Gh r f d fun d=>nS r f ds fun ds=>K ((t,d) :: ds)
def nT(r:Nat)(f:Nat->D):List (List D)->(List (List D)->Prop)->Prop
 | [],K=>K []
 | c :: cs,K=>BU r f c fun c=>nT r f cs fun cs=>K (c :: cs)
def pX(r:Nat)(f:Nat->D):D->D
 | .own q m=>if q=r then f m else .own q m
 | .op q e j o=>if q=r then .u else .op q e j o
 | .osl q e a m=>if q=r then .u else .osl q e a m
 | .tie q a b c=>if q=r then .u else .tie q a b c
 | .agg _=>.u
 | .tup _=>.u
 | .fnh ..=>.u
 | d=>d
def gq(r:Nat)(f:Nat->D):D->D
 | .own q m=>if q=r then f m else .own q m
 | .op q e j o=>if q=r then .u else .op q e j o
 | .osl q e a m=>if q=r then .u else .osl q e a m
 | .tie q a b c=>if q=r then .u else .tie q a b c
 | .agg _=>.u
 | .tup _=>.u
 | .fnh q x y=>.fnh q (x.map (pX r f)) (y.map (pX r f))
 | d=>d
def yY(r:Nat)(f:Nat->D):D->D
 | .agg cs=>.agg (cs.map (gq r f))
 | d=>gq r f d
def jM(r:Nat)(f:Nat->D):D->D
 | .tup cs=>.tup (cs.map (yY r f))
 | d=>yY r f d
theorem tV{r:Nat}{f:Nat->D}(hf:∀ m,noB [f m]=true){cs:List D}{t:TypeId}(h:bTy cs t):bTy (cs.map (gq r f)) t:=by
 cases cs with
 | nil=>exact h
 | cons c rest=>
  cases c<;>first|trivial|exact h|skip
  . rename_i q m
    simp only[List.map_cons,gq];split
    . exact E5 (cs:=f m :: rest.map (gq r f)) (by have:=hf m;revert this;cases f m<;>simp[noB]) t
    . trivial
  . simp only[List.map_cons,gq]
    split<;>trivial
  . simp only[List.map_cons,gq]
    split<;>trivial
  . simp only[List.map_cons,gq]
    split<;>trivial
theorem ZO(r:Nat)(f:Nat->D)(d:D)(K:D->Prop):zl r f d K=K (pX r f d):=by
 cases d<;>simp only[zl,pX,D.force_eq]
 . rename_i q m
   by_cases h:q=r
   . subst h;simp[Nat.beq_refl]
   . have:Nat.beq q r=false:=by
       cases hq:Nat.beq q r with
       | false=>rfl
       | true=>exact absurd (dO hq) h
     simp[this,h]
 . rename_i q e j o
   by_cases h:q=r
   . subst h;simp[Nat.beq_refl]
   . have:Nat.beq q r=false:=by
       cases hq:Nat.beq q r with
       | false=>rfl
       | true=>exact absurd (dO hq) h
     simp[this,h]
 . rename_i q e j o
   by_cases h:q=r
   . subst h;simp[Nat.beq_refl]
   . have:Nat.beq q r=false:=by
       cases hq:Nat.beq q r with
       | false=>rfl
       | true=>exact absurd (dO hq) h
     simp[this,h]
 . rename_i q e j o
   by_cases h:q=r
   . subst h;simp[Nat.beq_refl]
   . have:Nat.beq q r=false:=by
       cases hq:Nat.beq q r with
       | false=>rfl
       | true=>exact absurd (dO hq) h
     simp[this,h]
theorem Yv(r:Nat)(f:Nat->D)(l:List D):∀ K:List D->Prop,Bh r f l K=K (l.map (pX r f)):=by
 induction l with
 | nil=>intro K;rfl
 | cons d l ih=>intro K;simp only[Bh,ZO,ih,List.map_cons]
theorem QW(r:Nat)(f:Nat->D)(d:D)(K:D->Prop):lN r f d K=K (gq r f d):=by
 cases d<;>simp only[lN,gq,D.force_eq,Yv]
 . rename_i q m
   by_cases h:q=r
   . subst h;simp[Nat.beq_refl]
   . have:Nat.beq q r=false:=by
       cases hq:Nat.beq q r with
       | false=>rfl
       | true=>exact absurd (dO hq) h
     simp[this,h]
 . rename_i q e j o
   by_cases h:q=r
   . subst h;simp[Nat.beq_refl]
   . have:Nat.beq q r=false:=by
       cases hq:Nat.beq q r with
       | false=>rfl
       | true=>exact absurd (dO hq) h
     simp[this,h]
 . rename_i q e j o
   by_cases h:q=r
   . subst h;simp[Nat.beq_refl]
   . have:Nat.beq q r=false:=by
       cases hq:Nat.beq q r with
       | false=>rfl
       | true=>exact absurd (dO hq) h
     simp[this,h]
 . rename_i q e j o
   by_cases h:q=r
   . subst h;simp[Nat.beq_refl]
   . have:Nat.beq q r=false:=by
       cases hq:Nat.beq q r with
       | false=>rfl
       | true=>exact absurd (dO hq) h
     simp[this,h]
theorem QX(r:Nat)(f:Nat->D)(l:List D):∀ K:List D->Prop,BU r f l K=K (l.map (gq r f)):=by
 induction l with
 | nil=>intro K;rfl
 | cons d l ih=>intro K;simp only[BU,QW,ih,List.map_cons]
theorem QY(r:Nat)(f:Nat->D)(d:D)(K:D->Prop):xu r f d K=K (yY r f d):=by
 cases d<;>simp only[xu,yY,QX,QW]
theorem ZP(r:Nat)(f:Nat->D)(l:List D):∀ K:List D->Prop,Gg r f l K=K (l.map (yY r f)):=by
 induction l with
 | nil=>intro K;rfl
 | cons d l ih=>intro K;simp only[Gg,QY,ih,List.map_cons]
theorem QZ(r:Nat)(f:Nat->D)(d:D)(K:D->Prop):Gh r f d K=K (jM r f d):=by
 cases d<;>simp only[Gh,jM,ZP,QY]
theorem tX(r:Nat)(f:Nat->D)(l:List (Nat × D)):∀ K:List (Nat × D)->Prop,nS r f l K=K (l.map fun x=>(x.1,jM r f x.2)):=by
 induction l with
 | nil=>intro K;rfl
 | cons d l ih=>intro K;obtain⟨t,d⟩:=d;simp only[nS,QZ,ih,List.map_cons]
theorem tY(r:Nat)(f:Nat->D)(l:List (List D)):∀ K:List (List D)->Prop,nT r f l K=K (l.map fun c=>c.map (gq r f)):=by
 induction l with
 | nil=>intro K;rfl
 | cons d l ih=>intro K;simp only[nT,QX,ih,List.map_cons]
theorem tq(r:Nat)(f:Nat->D)(env:List (Nat × D))(t:Nat):look (env.map fun x=>(x.1,jM r f x.2)) t=jM r f (look env t):=by
 induction env with
 | nil=>rfl
 | cons x env ih=>
  obtain⟨q,d⟩:=x;simp only[List.map_cons,look];split
  . rfl
  . exact ih
def owns:List D->Option Nat
 | []=>none
 | .own r _ :: _=>some r
 | _ :: ds=>owns ds
def abR:D->Option Nat
 | .own r _=>some r
 | .agg cs=>owns cs
 | .tup cs=>owns cs
 | _=>none
def SK:List D->Option Nat
 | []=>none
 | d :: ds=>match abR d with|some r=>some r|none=>SK ds
def rU(r:Nat)(s:St)(ds:List D)(K:List D->St->Prop):Prop:=
 match s with
 | ⟨env,box,row,n⟩=>match row[r]? with
  | some (some (e,xs))=>nS r (fun m=>.lst e (xs.take m) (xs.drop m)) env fun env=>nT r (fun m=>.lst e (xs.take m) (xs.drop m)) box fun box=>
      fH row r none fun row=>(match ds with
       | []=>K [] ⟨env,box,row,n⟩
       | ds=>FB r (fun m=>.lst e (xs.take m) (xs.drop m)) ds fun ds=>K ds ⟨env,box,row,n⟩)
  | _=>False
where
 FB (r:Nat) (f:Nat->D):List D->(List D->Prop)->Prop
 | [],K=>K []
 | d :: ds,K=>Gh r f d fun d=>FB r f ds fun ds=>K (d :: ds)
theorem rU.Yw(r:Nat)(f:Nat->D)(l:List D):∀ K:List D->Prop,rU.FB r f l K=K (l.map (jM r f)):=by
 induction l with
 | nil=>intro K;rfl
 | cons d l ih=>intro K;simp only[rU.FB,QZ,ih,List.map_cons]
def mJ:Nat->St->List D->(List D->St->Prop)->Prop
 | 0,_,_,_=>False
 | k+1,s,ds,K=>match SK ds with
  | none=>K ds s
  | some r=>rU r s ds fun ds s=>mJ k s ds K
section
variable {w0 w w' : World} {V0 : Fr} {V : Vw} {μ : List Nat} {ω : List Value} {box : List (List D)} {row : Rows} {s : St} {a : Act} {P : Program} {T : Tab} {sz : TypeId → Nat}
theorem RS.zl{r:Nat}{f:Nat->D}{V':Vw}{ω':List Value}{v:Value}{d:D}(h:RS sz V μ ω v d)(hV:VLe V V')(hω:∀ q v,q ≠ r->ω[q]? = some v->ω'[q]? = some v)
    (hf:∀ m v,RS sz V μ ω v (.own r m)->RS sz V' μ ω' v (f m)):RS sz V' μ ω' v (pX r f d):=by
 cases h with
 | imm _ _ hi=>cases hi<;>first|exact .imm _ _ (.u _)|exact .imm _ _ (RI.mono aS hV)|skip
               case i=>exact .imm _ _ (.i _ _)
               case b x p hx=>exact .imm _ _ (.b _ _ hx)
               case tt=>exact .imm _ _ .tt
               case ff=>exact .imm _ _ .ff
               case s=>exact .imm _ _ (.s _)
               case aO=>exact .imm _ _ .aO
               case iq=>exact .imm _ _ .iq
               case kM t=>exact .imm _ _ (.kM t)
               case yld l=>exact .imm _ _ (.yld l)
               case mv x=>exact .imm _ _ (.mv x)
               case itv x=>exact .imm _ _ (.itv x)
               case rsl g n c=>exact .imm _ _ (.rsl g n c)
               case rnl=>exact .imm _ _ .rnl
               case ifc t v d h=>exact .imm _ _ (.ifc t v d (h.mono hV))
               case fG=>exact .imm _ _ .fG
               case iT=>exact .imm _ _ .iT
               case lst e rows room A ad c val hc hm hA hn hl hV1 hR=>exact .imm _ _ (RI.mono (.lst e rows room A ad c val hc hm hA hn hl hV1 hR) hV)
               case ep cells ad val hV1 hR=>exact .imm _ _ (RI.mono (.ep cells ad val hV1 hR) hV)
               case fn f x y vs us h1 h2 hR1 hR2=>exact .imm _ _ (RI.mono (.fn f x y vs us h1 h2 hR1 hR2) hV)
 | own q m A N c hq hm=>
  simp only[pX];split
  . rename_i he;subst he;exact hf m _ (.own q m A N c hq hm)
  . rename_i hne;exact .own q m A N c (hω q _ hne hq) hm
 | op q e j off g N c hq=>
  simp only[pX];split
  . exact .imm _ _ (.u _)
  . rename_i hne;exact .op q e j off g N c (hω q _ hne hq)
 | osl q e lo n g N c c' hq hn=>
  simp only[pX];split
  . exact .imm _ _ (.u _)
  . rename_i hne;exact .osl q e lo n g N c c' (hω q _ hne hq) hn
 | tie v q g n c hq=>
  simp only[pX];split
  . exact .imm _ _ (.u _)
  . rename_i hne;exact .tie v q g n c (hω q _ hne hq)
 | bp i off g hg=>exact .bp i off g hg
 | agg cs=>exact .imm _ _ (.u _)
 | tup cs=>exact .imm _ _ (.u _)
 | fnh=>exact .imm _ _ (.u _)
theorem RS.lN{r:Nat}{f:Nat->D}{V':Vw}{ω':List Value}{v:Value}{d:D}(h:RS sz V μ ω v d)(hV:VLe V V')(hω:∀ q v,q ≠ r->ω[q]? = some v->ω'[q]? = some v)
    (hf:∀ m v,RS sz V μ ω v (.own r m)->RS sz V' μ ω' v (f m)):RS sz V' μ ω' v (gq r f d):=by
 cases h with
 | imm _ _ hi=>cases hi<;>first|exact .imm _ _ (.u _)|exact .imm _ _ (RI.mono aS hV)|skip
               case i=>exact .imm _ _ (.i _ _)
               case b x p hx=>exact .imm _ _ (.b _ _ hx)
               case tt=>exact .imm _ _ .tt
               case ff=>exact .imm _ _ .ff
               case s=>exact .imm _ _ (.s _)
               case aO=>exact .imm _ _ .aO
               case iq=>exact .imm _ _ .iq
               case kM t=>exact .imm _ _ (.kM t)
               case yld l=>exact .imm _ _ (.yld l)
               case mv x=>exact .imm _ _ (.mv x)
               case itv x=>exact .imm _ _ (.itv x)
               case rsl g n c=>exact .imm _ _ (.rsl g n c)
               case rnl=>exact .imm _ _ .rnl
               case ifc t v d h=>exact .imm _ _ (.ifc t v d (h.mono hV))
               case fG=>exact .imm _ _ .fG
               case iT=>exact .imm _ _ .iT
               case lst e rows room A ad c val hc hm hA hn hl hV1 hR=>exact .imm _ _ (RI.mono (.lst e rows room A ad c val hc hm hA hn hl hV1 hR) hV)
               case ep cells ad val hV1 hR=>exact .imm _ _ (RI.mono (.ep cells ad val hV1 hR) hV)
               case fn f x y vs us h1 h2 hR1 hR2=>exact .imm _ _ (RI.mono (.fn f x y vs us h1 h2 hR1 hR2) hV)
 | own q m A N c hq hm=>
  simp only[gq];split
  . rename_i he;subst he;exact hf m _ (.own q m A N c hq hm)
  . rename_i hne;exact .own q m A N c (hω q _ hne hq) hm
 | op q e j off g N c hq=>
  simp only[gq];split
  . exact .imm _ _ (.u _)
  . rename_i hne;exact .op q e j off g N c (hω q _ hne hq)
 | osl q e lo n g N c c' hq hn=>
  simp only[gq];split
  . exact .imm _ _ (.u _)
  . rename_i hne;exact .osl q e lo n g N c c' (hω q _ hne hq) hn
 | tie v q g n c hq=>
  simp only[gq];split
  . exact .imm _ _ (.u _)
  . rename_i hne;exact .tie v q g n c (hω q _ hne hq)
 | bp i off g hg=>exact .bp i off g hg
 | agg cs=>exact .imm _ _ (.u _)
 | tup cs=>exact .imm _ _ (.u _)
 | fnh q x y vs us h1 h2 hR1 hR2=>
  refine .fnh q _ _ vs us (by simpa using h1) (by simpa using h2) (fun j v d a b=>?_) (fun j v d a b=>?_)
  . simp only[aN,Option.map_eq_some_iff] at b
    obtain⟨c,hc,rfl⟩:=b;exact (hR1 j v c a hc).zl hV hω hf
  . simp only[aN,Option.map_eq_some_iff] at b
    obtain⟨c,hc,rfl⟩:=b;exact (hR2 j v c a hc).zl hV hω hf
theorem RS.xu{r:Nat}{f:Nat->D}{V':Vw}{ω':List Value}{v:Value}{d:D}(h:RS sz V μ ω v d)(hV:VLe V V')(hω:∀ q v,q ≠ r->ω[q]? = some v->ω'[q]? = some v)
    (hf:∀ m v,RS sz V μ ω v (.own r m)->RS sz V' μ ω' v (f m)):RS sz V' μ ω' v (yY r f d):=by
 cases d with
 | agg cs=>
  obtain⟨vs,rfl,hs,ho,hR⟩:=h.jU;refine .agg _ vs (by simpa using hs) ho fun j v d h1 h2=>?_
  simp only[aN,Option.map_eq_some_iff] at h2;obtain⟨c,hc,rfl⟩:=h2;exact (hR j v c h1 hc).lN hV hω hf
 | _=>exact h.lN hV hω hf
theorem RS.sub{r:Nat}{f:Nat->D}{V':Vw}{ω':List Value}{v:Value}{d:D}(h:RS sz V μ ω v d)(hV:VLe V V')(hω:∀ q v,q ≠ r->ω[q]? = some v->ω'[q]? = some v)
    (hf:∀ m v,RS sz V μ ω v (.own r m)->RS sz V' μ ω' v (f m)):RS sz V' μ ω' v (jM r f d):=by
 cases d with
 | tup cs=>
  obtain⟨vs,rfl,hs,hR⟩:=h.xk;refine .tup _ vs (by simpa using hs) fun j v d h1 h2=>?_
  simp only[aN,Option.map_eq_some_iff] at h2;obtain⟨c,hc,rfl⟩:=h2;exact (hR j v c h1 hc).xu hV hω hf
 | _=>exact h.xu hV hω hf
theorem VLe.refl(V:Vw):VLe V V:=fun _ _ h=>h
theorem zC{α:Type}{l:List α}{x y:α}{i:Nat}(h:(l++[x])[i]? = some y):l[i]? = some y\/(i=l.length/\y=x):=by
 rcases Nat.lt_or_ge i l.length with hi|hi
 . rw[List.getElem?_append_left hi] at h;exact .inl h
 . rw[List.getElem?_append_right hi] at h
   cases hk:i - l.length with
   | zero=>rw[hk] at h;simp at h;exact .inr ⟨oA,h.symm⟩
   | succ k=>rw[hk] at h;simp at h
theorem Mem.aa9(h:Mem sz w0 V0 V μ ω box row w){vs:Array Value}{cs:List D}{t:TypeId}(ha:gJ sz V μ ω vs cs)(hty:bTy cs t) :
    Mem sz w0 V0 V (μ++[w.heap.size]) ω (box++[cs]) row (w.alloc (.cells vs t)):=by
 have he:Ext w (w.alloc (.cells vs t)):=(Below.refl _ _).alloc (Nat.le_refl _) _;have h':=h.ext he;have hpre:Pre μ (μ++[w.heap.size]):=.append _ _;have own:∀ l g,Own (μ++[w.heap.size]) ω row l g->Own μ ω row l g\/(l = .inl μ.length/\g=w.heap.size):=by
  intro l g hl
  cases l with
  | inl i=>
   rcases zC hl with h1|⟨rfl,rfl⟩
   . exact .inl h1
   . exact .inr ⟨rfl,rfl⟩
  | inr r=>exact .inl hl
 refine⟨h'.below,h'.vok,h'.vle,h'.gu,by simp[h.bl],?_,h.rl,h'.hrow,?_,?_,?_,fun x hx=>?away⟩
 case away=>
  obtain⟨a,b,c,d⟩:=h'.away x hx;have:=(Array.getElem?_eq_some_iff.1 (h.away x hx).1).1;refine⟨a,b,fun l hl=>?_,d⟩;rcases own l _ hl with hl|⟨_,e⟩
  . exact c l hl
  . omega
 . intro i g c h1 h2
   rcases zC h2 with h2|⟨rfl,rfl⟩
   . have hi:i<μ.length:=by rw[h.bl];exact (aK.1 h2).1
     rw[List.getElem?_append_left hi] at h1;obtain⟨us,t',a,b,c',d,ty⟩:=h'.hbox i g c h1 h2;exact⟨us,t',a,b,c',fun j v d' e f=>(d j v d' e f).mono (.refl V) hpre (.refl ω),ty⟩
   . rw[<- h.bl,List.getElem?_append_right (Nat.le_refl _),Nat.sub_self] at h1
     simp at h1;subst h1;exact⟨vs,t,heap_alloc_new w _,ha.size,ha.one,fun j v d e f=>(ha.rel j v d e f).mono (.refl V) hpre (.refl ω),hty⟩
 . intro l l' g h1 h2
   rcases own l g h1 with h3|⟨e1,e2⟩<;>rcases own l' _ h2 with h4|⟨e3,e4⟩
   . exact h.uniq l l' g h3 h4
   . have:=(h.new _ _ h3).2;omega
   . have:=(h.new _ _ h4).2;omega
   . rw[e1,e3]
 . intro l g h1
   rcases own l g h1 with h1|⟨rfl,rfl⟩
   . exact h'.new l g h1
   . exact⟨h.below.size,sI⟩
 . intro p u l hp h1
   rcases own l _ h1 with h1|⟨rfl,h2⟩
   . exact h.eF p u l hp h1
   . have:=World.block_lt_of_cell? w p (h.vok.2 p u hp);omega
theorem Mem.PU(h:Mem sz w0 V0 V μ ω box row w){G:Option Nat}(hg:w.grownBy w' G)(hG:∀ g,G=some g->∃ l,Own μ ω row l g):Below w0.heap.size w0 w'/\VOk V w':=by
 refine⟨h.below.grown hg h.below.size (fun k hk=>let ⟨l,hl⟩:=hG k hk;(h.new l k hl).1),⟨h.vok.1.1,h.vok.gt fun g v hv=>hg.block g (World.block_lt_of_cell? w _ (h.vok.2 _ _ hv)) fun e=>let ⟨l,hl⟩:=hG g e.symm;h.eF _ _ l hv hl⟩,fun p v hp=>?_⟩;exact hg.cell (h.vok.2 p v hp) (fun e=>let ⟨l,hl⟩:=hG p.block e.symm;h.eF p v l hp hl)
theorem Mem.abb(h:Mem sz w0 V0 V μ ω box row w){i g:Nat}{cs:List D}{vs:Array Value}(hi:μ[i]? = some g)(hil:i<box.length)(ha:gJ sz V μ ω vs cs)(hty:∀ t,bTy cs t) :
    Mem sz w0 V0 V μ ω (box.set i cs) row (w.setRow g vs):=by
 have hg:w.grownBy (w.setRow g vs) (some g):=⟨rfl,rfl,rfl,sI,fun k _ hk=>setRow_other w g k _ (fun e=>hk (by simp[e]))⟩;have hG:∀ g',some g=some g'->∃ l,Own μ ω row l g':=fun g' e=>by cases e;exact⟨.inl i,hi⟩
 obtain⟨hb,hv⟩:=h.PU hg hG;obtain⟨us,t,hh,_⟩:=h.hbox i g _ hi (aC hil);refine⟨hb,hv,h.vle,h.gu,by simp[h.bl],?_,h.rl,?_,h.uniq,fun l g' hl=>?_,h.eF,fun x hx=>let ⟨a,b,c,d⟩:=h.away x hx;⟨by rw[setRow_other w g x.1 vs fun e=>c (.inl i) (by rw[e];exact hi)];exact a,b,c,d⟩⟩
 . intro j g' c h1 h2
   by_cases hj:j=i
   . subst hj
     rw[hi] at h1;cases h1;rw[List.getElem?_set_self hil] at h2;cases h2;exact⟨vs,t,setRow_heap w g us vs t (0,0) hh,ha.size,ha.one,ha.rel,hty t⟩
   . rw[List.getElem?_set_ne (Ne.symm hj)] at h2
     obtain⟨us',t',a,b⟩:=h.hbox j g' c h1 h2;have hne:g' ≠ g:=by
      rintro rfl;have:=h.uniq (.inl j) (.inl i) g' h1 hi;simp at this;exact hj this
     exact⟨us',t',by rw[setRow_other w g g' vs hne];exact a,b⟩
 . intro r v e xs h1 h2
   obtain⟨vals,hown,b⟩:=h.hrow r v e xs h1 h2;refine⟨vals,hown.kept hg ?_,b⟩;by_cases hv:v.ownBlock=none
   . exact .inl hv
   . refine .inr fun e'=>?_
     have:=h.uniq (.inr r) (.inl i) g ⟨v,_,h1,h2,e'⟩ hi;simp at this
 . obtain⟨a,b⟩:=h.new l g' hl
   exact⟨a,by simpa using b⟩
structure fU(sz:TypeId->Nat)(V:Vw)(e:TypeId)(vals:List Value)(xs:List (List D)):Prop where
 one:∀ u ∈ vals,u.oneCell'=true
 len:∀ (i:Nat) rw,xs[i]? = some rw->rw.length=sz e
 rel:∀ (i:Nat) rw (j:Nat) d,xs[i]? = some rw->rw[j]? = some d->∃ u,vals[i*sz e+j]? = some u/\RI sz V u d
theorem Own.pG{ω':List Value}{row':Rows}{v:Value}{x:Option (TypeId × List (List D))}(hω:ω'=ω++[v])(hr:row'=row++[x])(hl:ω.length=row.length){l:Nat ⊕ Nat}{g:Nat}(h:Own μ ω' row' l g) :
    Own μ ω row l g\/(l = .inr ω.length/\v.ownBlock=some g):=by
 subst hω hr
 cases l with
 | inl i=>exact .inl h
 | inr r=>
  obtain⟨u,y,h1,h2,h3⟩:=h;rcases zC h1 with h1|⟨rfl,rfl⟩
  . have hi:r<row.length:=by rw[<- hl];exact (aK.1 h1).1
    rw[List.getElem?_append_left hi] at h2;exact .inl ⟨u,y,h1,h2,h3⟩
  . exact .inr ⟨rfl,h3⟩
theorem Mem.Q5(h:Mem sz w0 V0 V μ ω box row w)(he:Ext w w'){v:Value}{e:TypeId}{xs:List (List D)}{vals:List Value}(hown:iD w' w0.heap.size e (sz e) v xs.length vals)(hr:fU sz V e vals xs)
    (hb:∀ g,v.ownBlock=some g->w.heap.size<=g):Mem sz w0 V0 V μ (ω++[v]) box (row++[some (e,xs)]) w':=by
 have h':=h.ext he;have hpre:Pre ω (ω++[v]):=.append _ _;have hblk:∀ g,v.ownBlock=some g->g<w'.heap.size:=fun g hg=>(hown.lt g hg).2
 refine⟨h'.below,h'.vok,h'.vle,h'.gu,h'.bl,?_,by simp[h.rl],?_,?_,?_,?_,fun x hx=>?away⟩
 case away=>
  obtain⟨a,b,c,d⟩:=h'.away x hx;have:=(Array.getElem?_eq_some_iff.1 (h.away x hx).1).1;refine⟨a,b,fun l hl=>?_,d⟩;rcases Own.pG rfl rfl h.rl hl with hl|⟨_,e⟩
  . exact c l hl
  . have:=hb _ e
    omega
 . intro i g c h1 h2
   obtain⟨us,t',a,b,c',d,ty⟩:=h'.hbox i g c h1 h2;exact⟨us,t',a,b,c',fun j v d' e f=>(d j v d' e f).mono (.refl V) (.refl μ) hpre,ty⟩
 . intro r u e' ys h1 h2
   rcases zC h2 with h2|⟨rfl,h5⟩
   . have hi:r<ω.length:=by rw[h.rl];exact (aK.1 h2).1
     rw[List.getElem?_append_left hi] at h1;exact h'.hrow r u e' ys h1 h2
   . rw[<- h.rl,List.getElem?_append_right (Nat.le_refl _),Nat.sub_self] at h1
     simp at h1;subst h1;cases h5;exact⟨vals,hown,hr.one,hr.len,hr.rel⟩
 . intro l l' g h1 h2
   rcases Own.pG rfl rfl h.rl h1 with h3|⟨e1,e2⟩<;>rcases Own.pG rfl rfl h.rl h2 with h4|⟨e3,e4⟩
   . exact h.uniq l l' g h3 h4
   . have:=(h.new _ _ h3).2;have:=hb g e4;omega
   . have:=(h.new _ _ h4).2;have:=hb g e2;omega
   . rw[e1,e3]
 . intro l g h1
   rcases Own.pG rfl rfl h.rl h1 with h1|⟨rfl,h2⟩
   . exact h'.new l g h1
   . exact⟨Nat.le_trans h.below.size (hb g h2),hblk g h2⟩
 . intro p u l hp h1
   rcases Own.pG rfl rfl h.rl h1 with h1|⟨rfl,h2⟩
   . exact h.eF p u l hp h1
   . have:=World.block_lt_of_cell? w p (h.vok.2 p u hp);have:=hb _ h2;omega
theorem Mem.newRow(h:Mem sz w0 V0 V μ ω box row w)(he:Ext w w'){v:Value}{e:TypeId}{xs:List (List D)}{vals:List Value}(hown:w'.ownsRow w0.heap.size e (sz e) v xs.length vals)(hr:fU sz V e vals xs)
    (hb:∀ g,v.ownBlock=some g->w.heap.size<=g):Mem sz w0 V0 V μ (ω++[v]) box (row++[some (e,xs)]) w':=h.Q5 he (.of hown) hr hb
theorem Mem.Jl(h:Mem sz w0 V0 V μ ω box row w){r:Nat}{v v':Value}{e:TypeId}{xs ys:List (List D)}{vals:List Value}(hω:ω[r]? = some v)(hr:row[r]? = some (some (e,xs)))
    (hg:w.grownBy w' v.ownBlock)(hown:iD w' w0.heap.size e (sz e) v' ys.length vals)(hR:fU sz V e vals ys)(hb:v'.ownBlock=v.ownBlock\/∃ g,v'.ownBlock=some g/\w.heap.size<=g)
    {eU:List (List D)}(hbl:eU.length=box.length)
    (hbox:∀ (i:Nat) cs cs',box[i]? = some cs->eU[i]? = some cs'->cs'.length=cs.length/\∀ (j:Nat) u d d',cs[j]? = some d->cs'[j]? = some d'->RS sz V μ ω u d->RS sz V μ (ω.set r v') u d')
    (KL:∀ (i:Nat) cs cs',box[i]? = some cs->eU[i]? = some cs'->∀ t,bTy cs t->bTy cs' t) :
    Mem sz w0 V0 V μ (ω.set r v') eU (row.set r (some (e,ys))) w':=by
 have hrl:r<ω.length:=(aK.1 hω).1;have hrr:r<row.length:=(aK.1 hr).1;have hG:∀ g,v.ownBlock=some g->∃ l,Own μ ω row l g:=fun g hg=>⟨.inr r,v,_,hω,hr,hg⟩
 obtain⟨acn,hv⟩:=h.PU hg hG;have own:∀ l g,Own μ (ω.set r v') (row.set r (some (e,ys))) l g->(Own μ ω row l g/\l ≠ .inr r)\/(l = .inr r/\v'.ownBlock=some g):=by
  intro l g hl
  cases l with
  | inl i=>exact .inl ⟨hl,sI⟩
  | inr q=>
   obtain⟨u,y,h1,h2,h3⟩:=hl;by_cases hq:q=r
   . subst hq
     rw[List.getElem?_set_self hrl] at h1;cases h1;exact .inr ⟨rfl,h3⟩
   . rw[List.getElem?_set_ne (Ne.symm hq)] at h1 h2
     exact .inl ⟨⟨u,y,h1,h2,h3⟩,by simpa using hq⟩
 have cross:∀ l g,Own μ ω row l g->l ≠ .inr r->v'.ownBlock=some g->False:=by
  intro l g hl hne hv';rcases hb with hb|⟨g',hg',hs⟩
  . exact hne (h.uniq l (.inr r) g hl ⟨v,_,hω,hr,by rw[<- hb];exact hv'⟩)
  . rw[hv'] at hg'
    cases hg';have:=(h.new _ _ hl).2;omega
 refine⟨acn,hv,h.vle,h.gu,by rw[h.bl,hbl],?_,by simp[h.rl],?_,?_,?_,?_,fun x hx=>?away⟩
 case away=>
  obtain⟨a,b,c,d⟩:=h.away x hx;have hlt:=(Array.getElem?_eq_some_iff.1 a).1;have hne:v.ownBlock ≠ some x.1:=fun e=>c (.inr r) ⟨v,_,hω,hr,e⟩
  refine⟨by rw[hg.block x.1 hlt (Ne.symm hne)];exact a,b,fun l hl=>?_,d⟩;rcases own l _ hl with⟨hl,_⟩|⟨_,e⟩
  . exact c l hl
  . rcases hb with hb|⟨g',hg',hs⟩
    . exact hne (hb ▸ e)
    . rw[e] at hg'
      cases hg';omega
 . intro i g c h1 h2
   have hi:i<box.length:=by rw[<- hbl];exact (aK.1 h2).1
   have h3:=aC hi;obtain⟨us,t',a,b,c',d,ty⟩:=h.hbox i g _ h1 h3;obtain⟨hl,hd⟩:=hbox i _ c h3 h2;have hne:some g ≠ v.ownBlock:=by
    intro e';have:=h.uniq (.inl i) (.inr r) g h1 ⟨v,_,hω,hr,e'.symm⟩;simp at this
   refine⟨us,t',by rw[hg.block g (Array.getElem?_eq_some_iff.1 a).1 hne];exact a,by rw[b,hl],c',fun j u d' e1 e2=>?_,KL i _ c h3 h2 _ ty⟩;have hj:j<box[i].length:=by rw[<- hl];exact (aK.1 e2).1
   exact hd j u _ d' (aC hj) e2 (d j u _ e1 (aC hj))
 . intro q u e' zs h1 h2
   by_cases hq:q=r
   . subst hq
     rw[List.getElem?_set_self hrl] at h1;rw[List.getElem?_set_self hrr] at h2;cases h1;cases h2;exact⟨vals,hown,hR.one,hR.len,hR.rel⟩
   . rw[List.getElem?_set_ne (Ne.symm hq)] at h1 h2
     obtain⟨vals',hown',b⟩:=h.hrow q u e' zs h1 h2;refine⟨vals',hown'.kept hg ?_,b⟩;by_cases hu:u.ownBlock=none
     . exact .inl hu
     . refine .inr fun e1=>?_
       cases hub:u.ownBlock with
       | none=>exact hu hub
       | some g=>
        have:=h.uniq (.inr q) (.inr r) g ⟨u,_,h1,h2,hub⟩ ⟨v,_,hω,hr,by rw[<- e1];exact hub⟩;simp at this;exact hq this
 . intro l l' g h1 h2
   rcases own l g h1 with⟨h3,n3⟩|⟨e1,e2⟩<;>rcases own l' g h2 with⟨h4,n4⟩|⟨e3,e4⟩
   . exact h.uniq l l' g h3 h4
   . exact (cross l g h3 n3 e4).elim
   . exact (cross l' g h4 n4 e2).elim
   . rw[e1,e3]
 . intro l g h1
   rcases own l g h1 with⟨h3,_⟩|⟨e1,e2⟩
   . obtain⟨a,b⟩:=h.new l g h3
     exact⟨a,Nat.lt_of_lt_of_le b hg.size⟩
   . exact hown.lt g e2
 . intro p u l hp h1
   rcases own l _ h1 with⟨h3,_⟩|⟨e1,e2⟩
   . exact h.eF p u l hp h3
   . rcases hb with hb|⟨g',hg',hs⟩
     . exact h.eF p u (.inr r) hp ⟨v,_,hω,hr,by rw[<- hb];exact e2⟩
     . rw[e2] at hg'
       cases hg';have:=World.block_lt_of_cell? w p (h.vok.2 p u hp);omega
theorem Mem.Ap(h:Mem sz w0 V0 V μ ω box row w){r:Nat}{v v':Value}{e:TypeId}{xs ys:List (List D)}{vals:List Value}(hω:ω[r]? = some v)(hr:row[r]? = some (some (e,xs)))
    (hg:w.grownBy w' v.ownBlock)(hown:w'.ownsRow w0.heap.size e (sz e) v' ys.length vals)(hR:fU sz V e vals ys)(hb:v'.ownBlock=v.ownBlock\/∃ g,v'.ownBlock=some g/\w.heap.size<=g)
    {eU:List (List D)}(hbl:eU.length=box.length)
    (hbox:∀ (i:Nat) cs cs',box[i]? = some cs->eU[i]? = some cs'->cs'.length=cs.length/\∀ (j:Nat) u d d',cs[j]? = some d->cs'[j]? = some d'->RS sz V μ ω u d->RS sz V μ (ω.set r v') u d')
    (KL:∀ (i:Nat) cs cs',box[i]? = some cs->eU[i]? = some cs'->∀ t,bTy cs t->bTy cs' t) :
    Mem sz w0 V0 V μ (ω.set r v') eU (row.set r (some (e,ys))) w':=
 h.Jl hω hr hg (.of hown) hR hb hbl hbox KL
end
end Go.Vx
namespace Go.Vx
open Go.RowKit
def Bj(ti:Option TI)(d:D)(K:D->Prop):Prop:=
 match d with
 | .aO=>match ti with|some ⟨_,_,.slice e,_⟩=>K (.lst e [] [])|_=>K .aO
 | .tt=>K (.b True)
 | .ff=>K (.b False)
 | .own ..=>False
 | .op ..=>False
 | .bp ..=>False
 | .agg _=>False
 | .tup _=>False
 | .fnh ..=>False
 | .osl ..=>False
 | .tie ..=>False
 | .u=>False
 | d=>d.force K
def SL(T:Tab)(e:TypeId)(j:Nat):Option TI:=
 match T e with
 | some ⟨_,_,.struct fs,_⟩=>(fieldAt fs j).bind T
 | ti=>ti
def wP(T:Tab)(e:TypeId):Nat->List D->(List D->Prop)->Prop
 | _,[],K=>K []
 | j,d :: r,K=>Bj (SL T e j) d fun d=>wP T e (j+1) r fun r=>K (d :: r)
def AL(T:Tab)(e sz:Nat):Nat->List D->(List (List D)->Prop)->Prop
 | _,[],K=>K []
 | i,d :: r,K=>d.yK fun ds=>eqN ds.length sz <| wP T e 0 ds fun ds=>AL T e sz (i+1) r fun rs=>K (ds :: rs)
def uK:Nat->List Nat->Prop->Prop
 | _,[],p=>p
 | i,j :: r,p=>eqN i j (uK (i+1) r p)
def rowsOf(row:Rows)(y:D)(K:TypeId->List (List D)->Prop):Prop:=
 match y with
 | .lst e rows _=>K e rows
 | .own r m=>match row[r]? with
  | some (some (e,xs))=>m<=xs.length/\∃ ys,(m=xs.length/\ys=xs\/ys=xs.take m)/\K e ys
  | _=>False
 | _=>False
def rH(T:Tab)(e:TypeId)(p:Prop):Prop:=match T e with|some ti=>leB 1 ti.size (leB ti.bytes 65536 p)|none=>False
def JY(T:Tab)(e:TypeId)(p:Prop):Prop:=match Nat.blt e BIG with|true=>rH T e p|false=>match T e with|none=>p|some _=>False
def KN(T:Tab)(e:TypeId)(p:Prop):Prop:=match T e with|none=>p|some _=>False
def s1K(T:Tab)(e:TypeId)(p:Prop):Prop:=match Nat.beq (ah T e) 1 with|true=>p|false=>False
theorem Q7{T:Tab}{e:TypeId}{p:Prop}(h:s1K T e p):ah T e=1/\p:=by
 unfold s1K at h;split at h
 . rename_i hb;exact⟨dO hb,h⟩
 . exact h.elim
def KO(x b:Nat)(p:Prop):Prop:=match Nat.beq x b with|true=>p|false=>False
theorem PV{x b:Nat}{p:Prop}(h:KO x b p):x=b/\p:=by
 unfold KO at h;split at h
 . rename_i hb;exact⟨dO hb,h⟩
 . exact h.elim
def KP(a x b:Nat)(p:Prop):Prop:=match Nat.beq a b with|true=>p|false=>KO x b p
theorem Yx{a x b:Nat}{p:Prop}(h:KP a x b p):(a=b\/x=b)/\p:=by
 unfold KP at h;split at h
 . rename_i hb;exact⟨.inl (dO hb),h⟩
 . exact⟨.inr (PV h).1,(PV h).2⟩
def eqM(a b:Nat)(p:Prop):Prop:=KP a (Nat.add a BIG) b p
theorem ZQ{a b:Nat}{p:Prop}(h:eqM a b p):(a=b\/Nat.add a BIG=b)/\p:=Yx h
def wu(k:Nat)(d:D)(K:D->Prop):Prop:=
 match d with
 | .own r m=>natLit (r+k) fun r=>K (.own r m)
 | .op ..=>False
 | .bp ..=>False
 | .agg _=>False
 | .tup _=>False
 | .fnh ..=>False
 | .osl ..=>False
 | .tie ..=>False
 | d=>d.force K
def E8(k:Nat):List D->(List D->Prop)->Prop
 | [],K=>K []
 | d :: r,K=>wu k d fun d=>E8 k r fun r=>K (d :: r)
def Fa(k:Nat)(d:D)(K:D->Prop):Prop:=match d with|.agg cs=>E8 k cs fun cs=>K (.agg cs)|d=>wu k d K
def Fb(k:Nat):List D->(List D->Prop)->Prop
 | [],K=>K []
 | d :: r,K=>Fa k d fun d=>Fb k r fun r=>K (d :: r)
def uq(k:Nat)(d:D)(K:D->Prop):Prop:=match d with|.tup cs=>Fb k cs fun cs=>K (.tup cs)|d=>Fa k d K
def nU{α:Type}:List α->List α->(List α->Prop)->Prop
 | [],m,K=>K m
 | x :: l,m,K=>nU l m fun r=>K (x :: r)
theorem oz{α:Type}(l m:List α):∀ K:List α->Prop,nU l m K=K (l++m):=by
 induction l with
 | nil=>intro K;rfl
 | cons x l ih=>intro K;simp only[nU,ih,List.cons_append]
def slE(T:Tab)(t:TypeId)(p:Prop):Prop:=match T t with|some ⟨_,_,.slice e,_⟩=>(match T e with|some _=>p|none=>False)|_=>False
def bT(b:UInt8):List D:=[.i .u8 (b.toNat:Int)]
inductive bU(p q:Prop):Prop where
 | l (h:p)|r (h:q)
def u8K(T:Tab)(e:TypeId)(p:Prop):Prop:=match T e with|some ⟨1,_,.int .u8,_⟩=>p|_=>False
def TR(P:Program)(e:TypeId):Prop:=(P.info? e).map (fun i=>(i.zero,i.size,i.bytes))=some (some (.int .u8 0),1,1)
def KQ(P:Program)(T:Tab)(s:St)(t:TypeId)(x y:D)(K:D->St->Prop):Prop:=
 match s with
 | ⟨env,box,row,n⟩=>match x,y with
  | .own r m,.s l=>match row[r]? with
   | some (some (e,xs))=>slK T t e <| u8K T e <| TR P e/\m=xs.length/\xs.length+l.length<=2147483648/\∃ zs k,zs=xs++l.map bT/\k=zs.length /\
       nS r (fun _=>.u) env fun env=>nT r (fun _=>.u) box fun box=>fH row r (some (e,zs)) fun row=>K (.own r k) ⟨env,box,row,n⟩
   | _=>False
  | _,_=>False
def JH(row:Rows)(q:Nat)(e:TypeId):Prop:=match row[q]? with|some (some (e',_))=>eqN e e' True|_=>False
def Bl(T:Tab)(s:St)(t:TypeId)(x y:D)(K:D->St->Prop):Prop:=
 match s with
 | ⟨env,box,row,n⟩=>match x,y with
  | .aO,.aO=>slE T t (K .aO ⟨env,box,row,n⟩)
  | .own r m,.aO=>slE T t (match row[r]? with|some (some _)=>K (.own r m) ⟨env,box,row,n⟩|_=>False)
  | .aO,y=>rowsOf row y fun e ys=>slK T t e <| rH T e <| ys.length<=2147483648/\∃ zs m,zs=ys/\m=zs.length/\gZ row (some (e,zs)) fun row'=>natLit row.length fun r=>K (.own r m) ⟨env,box,row',n⟩
  | .rnl,y=>∃ t1,rowsOf row y fun e ys=>slK T t e <| rH T e <| ys.length<=2147483648/\0<ys.length/\∃ zs m,zs=ys/\m=zs.length/\∀ g' c':Nat,m<=c'->gZ row (some (e,zs)) fun row'=>natLit row.length fun q=>K (.rsl g' m c') ⟨(t1,.tie q g' m c') :: env,box,row',n⟩
  | .own r m,y=>match row[r]? with
   | some (some (e,xs))=>slK T t e <| rH T e <| bU (m=xs.length/\rowsOf row y fun e' ys=>eqN e e' <| xs.length+ys.length<=2147483648/\∃ zs k,zs=xs++ys/\k=zs.length /\
       nS r (fun _=>.u) env fun env=>nT r (fun _=>.u) box fun box=>fH row r (some (e,zs)) fun row=>K (.own r k) ⟨env,box,row,n⟩)
    (m<xs.length/\rowsOf row y fun e' ys=>eqN e e' <| ∃ y0,ys=[y0]/\∃ zs k,zs=xs.set m y0/\k=m+1/\fH row r (some (e,zs)) fun row=>K (.own r k) ⟨env,box,row,n⟩)
   | _=>False
  | .rsl g m c,y=>∃ t0 t1 r,look env t0 = .tie r g m c/\(match row[r]? with
   | some (some (e,xs))=>slK T t e <| rH T e <| m=xs.length/\(rowsOf row y fun e' ys=>eqN e e' <| xs.length+ys.length<=2147483648/\0<ys.length/\∃ zs k,zs=xs++ys/\k=zs.length /\
       (k<=c->nS r (fun _=>.u) env fun env=>nT r (fun _=>.u) box fun box=>fH row r (some (e,zs)) fun row=>K (.rsl g k c) ⟨(t0,.tie r g k c) :: env,box,row,n⟩) /\
       (c<k->∃ q,JH row q e/\∀ g' c':Nat,k<=c'->nS q (fun _=>.u) env fun env=>nT q (fun _=>.u) box fun box=>fH row q (some (e,zs)) fun row=>K (.rsl g' k c') ⟨(t1,.tie q g' k c') :: env,box,row,n⟩))
   | _=>False)
  | _,_=>False
def KR(T:Tab)(s:St)(t:TypeId)(x y:D)(K:D->St->Prop):Prop:=
 match x,y with
 | .aO,.rsl g m c=>∃ t0 r N,(match s with|⟨env,_,_,_⟩=>look env t0 = .tie r g N c)/\m<=N/\Bl T s t .aO (.own r m) K
 | .aO,.rnl=>Bl T s t .aO .aO K
 | x,y=>Bl T s t x y K
def KT(T:Tab)(s:St)(t:TypeId)(x y:D)(K:D->St->Prop):Prop:=
 match s with
 | ⟨env,box,row,n⟩=>match x,y with
  | .osl r e lo m,.s l=>match row[r]? with
   | some (some (e',xs))=>eqN e e' <| slM T t e <| s1K T e <| l.length<=m/\∃ xs',xs'=xs.take lo++l.map bT++xs.drop (lo+l.length)/\∃ k:Nat,k=l.length/\fH row r (some (e,xs')) fun row=>K (.i .i64 (k:Int)) ⟨env,box,row,n⟩
   | _=>False
  | _,_=>False
def FC(T:Tab)(t:TypeId)(d:D)(K:D->Prop):Prop:=match d with|.agg cs=>wP T t 0 cs fun cs=>K (.agg cs)|d=>Bj (T t) d K
def pK(T:Tab):List TypeId->List D->(List D->Prop)->Prop
 | t :: ts,d :: ds,K=>FC T t d fun d=>pK T ts ds fun ds=>K (d :: ds)
 | [],[],K=>K []
 | _,_,_=>False
def uM(T:Tab)(s:St):List ResultVar->(List D->Prop)->Prop
 | [],K=>K []
 | .tmp t :: r,K=>(s.get (.tmp t)).force fun d=>uM T s r fun ds=>K (d :: ds)
 | .cell p t :: r,K=>F9 T s t (s.get (.tmp p)) fun d=>uM T s r fun ds=>K (d :: ds)
def iE:List D->D
 | [d]=>d
 | ds=>.tup ds
def fO:Nat->List D->List (Nat × D)
 | _,[]=>[]
 | k,d :: ds=>(k,d) :: fO (k+1) ds
def JI(n:Nat)(K:Nat->Prop):Prop:=match n with|0=>K 0|k+1=>K (k+1)
theorem OD(n:Nat)(K:Nat->Prop):JI n K=K n:=by cases n<;>rfl
def shE(k:Nat):List (Nat × D)->(List (Nat × D)->Prop)->Prop
 | [],K=>K []
 | (t,d) :: r,K=>JI (t+k) fun t=>shE k r fun r=>K ((t,d) :: r)
def unE(k:Nat):List (Nat × D)->(List (Nat × D)->Prop)->Prop
 | [],K=>K []
 | (t,d) :: r,K=>match Nat.ble k t with|true=>JI (t - k) fun t=>unE k r fun r=>K ((t,d) :: r)|false=>unE k r K
def rV(T:Tab)(fn:Func)(n:Nat)(K:D->St->Prop)(s:St):Prop:=
 match s with
 | ⟨env,box,row,m⟩=>eqN m fn.ntmps <| uM T ⟨env,box,row,m⟩ fn.results.toList fun ds=>unE fn.ntmps env fun env=>K (iE ds) ⟨env,box,row,n⟩
def Um(T:Tab)(fn:Func)(n:Nat)(K:D->St->Prop):Exit->St->Prop
 | .normal,s=>rV T fn n K s
 | .ret,s=>rV T fn n K s
 | _,_=>False
def KU(P:Program)(T:Tab)(s:St)(f:FuncId)(ds:List D)(K:D->St->Prop):Prop:=
 ∃ fn c,P.funcs[f]? = some fn/\fn.body=some c/\(∀ args w,(callFunc f args).run P w = .ok (.enter f args) w) /\
  leB ds.length fn.ntmps (match s with|⟨env,box,row,n⟩=>shE fn.ntmps env fun env=>nU (fO 0 ds) env fun env=>Ok P T c (Um T fn n K) ⟨env,box,row,fn.ntmps⟩)
def iy:Rows->Prop
 | []=>True
 | some (_,xs) :: r=>(∀ x ∈ xs,grounds x=true)/\iy r
 | none :: r=>iy r
def D.wz:D->Bool|.own _ _=>true|d=>d.ground
def Ep:List D->Bool|[]=>true|d :: r=>d.wz && Ep r
def D.vS:D->Bool|.agg cs=>Ep cs|d=>d.wz
def Es:List D->Bool|[]=>true|d :: r=>d.vS && Es r
def D.vT:D->Bool|.tup cs=>Es cs|d=>d.vS
def Et(P:Program)(T:Tab)(s:St)(f:FuncId)(ts:List TypeId)(ds:List D)(K:D->St->Prop):Prop:=
 wO T s.row ts ds fun es=>∃ R,aF P T f es R/\∀ d rows,R d rows->iy rows/\jC d.vT (match s with
  | ⟨env,box,row,n⟩=>uq row.length d fun d=>nU row rows fun row=>K d ⟨env,box,row,n⟩)
structure bW(P:Program)(T:Tab)(s:St)(f:FuncId)(ds:List D)(K:D->St->Prop):Prop where
 call:∀ args w,(callFunc f args).run P w = .ok (.enter f args) w
 run:∀ (w0:World) (V0:Fr) (V:Vw) (μ:List Nat) (ω:List Value) (a:Act) (w:World) (vs:List Value),Sim (ah T) w0 V0 V μ ω s a w->vs.length=ds.length ->
  (∀ (j:Nat) v d,vs[j]? = some v->ds[j]? = some d->RS (ah T) V μ ω v d) ->
  Calls P f vs.toArray w fun e w'=>∃ v d s' V' μ' ω',e = .returned v/\K d s'/\RS (ah T) V' μ' ω' v d/\Sim (ah T) w0 V0 V' μ' ω' s' a w'/\VLe V V'/\Pre μ μ'/\Pre ω ω'/\∀ q v,w.cell? q=some v->w'.cell? q=some v
structure Conc(P:Program)(t:TypeId):Prop where
 ok:P.concrete t=true
structure mV(P:Program)(T:Tab)(s:St)(f:FuncId)(ds:List D)(K:D->St->Prop):Prop where
 call:∀ args w,(callFunc f args).run P w = .ok (.enter f args) w
 run:∀ (w0:World) (V0:Fr) (V:Vw) (μ:List Nat) (ω:List Value) (a:Act) (w:World) (vs:List Value),Sim (ah T) w0 V0 V μ ω s a w->vs.length=ds.length ->
  (∀ (j:Nat) v d,vs[j]? = some v->ds[j]? = some d->RS (ah T) V μ ω v d) ->
  Calls P f vs.toArray w fun e w'=>∃ v d s' V' μ' ω',e = .returned v/\K d s'/\RS (ah T) V' μ' ω' v d/\Sim (ah T) w0 V0 V' μ' ω' s' a w'
def vop(P:Program)(T:Tab)(s:St)(o:Oper)(K:D->St->Prop):Prop:=
 match o.op with
 | .alloc t=>match T t with
  | some ti=>jC (noB ti.zero) <| (match s with|⟨env,box,row,n⟩=>gX (vZ t ti.zero) fun z=>gZ box z fun eU=>natLit box.length fun i=>K (.bp i 0) ⟨env,eU,row,n⟩)
  | none=>False
 | .box _ x=>(s.get x).yK fun cs=>gX cs fun cs=>jC (noB cs) <| match s with
  | ⟨env,box,row,n⟩=>gZ box cs fun eU=>natLit box.length fun i=>K (.bp i 0) ⟨env,eU,row,n⟩
 | .store t x y=>(s.get y).yK fun ds=>match T t with
  | none=>False
  | some ti=>eqN ti.size ds.length <| match s.get x with
   | .bp i off=>match s with|⟨env,box,row,n⟩=>match box[i]? with
    | some cs=>leB (off+ds.length) cs.length <| gX (setCells cs off ds) fun cs=>jC (noB cs) <| fH box i cs fun box=>K .u ⟨env,box,row,n⟩
    | none=>False
   | .op r e j off=>match s.row[r]? with
    | some (some (e',_))=>eqN e e' <| JY T e <| mJ 8 s ds fun ds s=>match s with
     | ⟨env,box,row,n⟩=>wP T e off ds fun ds=>match row[r]? with
      | some (some (e',xs))=>eqN e e' <| ∃ rw,xs[j]? = some rw/\off+ds.length<=rw.length/\∃ xs',xs'=xs.set j (setCells rw off ds)/\fH row r (some (e,xs')) fun row=>K .u ⟨env,box,row,n⟩
      | _=>False
    | _=>False
   | _=>False
 | .buildSlice t len ps=>match T t with
  | some ⟨_,_,.slice e,_⟩=>rH T e <| uK 0 (ps.toList.map (·.1)) <| eqN len (ps.toList.map (·.1)).length <| leB (len*ah T e) 16777216 <| mJ 8 s (s.gets (ps.toList.map (·.2))) fun ds s=>match s with
   | ⟨env,box,row,n⟩=>AL T e (ah T e) 0 ds fun rows=>gZ row (some (e,rows)) fun row'=>natLit row.length fun r=>K (.own r len) ⟨env,box,row',n⟩
  | some ⟨_,_,.wo e,_⟩=>rH T e <| uK 0 (ps.toList.map (·.1)) <| eqN len (ps.toList.map (·.1)).length <| leB (len*ah T e) 16777216 <| ∃ t1:Nat,mJ 8 s (s.gets (ps.toList.map (·.2))) fun ds s=>match s with
   | ⟨env,box,row,n⟩=>AL T e (ah T e) 0 ds fun rows=>gZ row (some (e,rows)) fun row'=>natLit row.length fun r=>∀ g:Nat,K (.rsl g len len) ⟨(t1,.tie r g len len) :: env,box,row',n⟩
  | _=>False
 | .makeSlice t x y=>match s.get x,s.get y,T t with
  | .i _ a,.i _ b,some ⟨_,_,.slice e,_⟩=>(match T e with
   | some ti=>leB 1 ti.size <| leB ti.bytes 65536 <| ∃ l c:Nat,a=l/\b=c/\l<=c/\c<=2147483648/\wP T e 0 ti.zero fun z=>∃ zs,zs=List.replicate l z/\(match s with
    | ⟨env,box,row,n⟩=>gZ row (some (e,zs)) fun row'=>natLit row.length fun r=>K (.own r l) ⟨env,box,row',n⟩)
   | none=>False)
  | _,_,_=>False
 | .call { callee:=.builtin .append,args,argTypes }=>match args.toList,argTypes.toList with
  | [x,y],[t,t']=>(match T t' with|some ⟨_,_,.str,_⟩=>KQ P T s t (s.get x) (s.get y) K|_=>eqN t t' <| KR T s t (s.get x) (s.get y) K)
  | _,_=>False
 | .call { callee:=.builtin .copy,args,argTypes }=>match args.toList,argTypes.toList with
  | [x,y],[t,_]=>KT T s t (s.get x) (s.get y) K
  | _,_=>False
 | .convert t b x=>match s.get x,T t,T b with
  | .own r m,some ⟨_,_,.slice e,_⟩,some ⟨_,_,.str,_⟩=>u8K T e (match s.row[r]? with|some (some (e',xs))=>eqM e e' (m<=xs.length/\∃ l:List UInt8,xs.take m=l.map bT/\s1K T e' (K (.s l) s))|_=>False)
  | .s l,some ⟨_,_,.str,_⟩,some ⟨_,_,.slice e,_⟩=>u8K T e (l.length<=9223372036854775807/\KN T (Nat.add e BIG) (match s with
      | ⟨env,box,row,n⟩=>gZ row (some (Nat.add e BIG,l.map bT)) fun row'=>natLit row.length fun r=>K (.own r l.length) ⟨env,box,row',n⟩))
  | _,_,_=>qop P T s o K
 | .call { callee:=.value (.func f),args,argTypes }=>
  qop P T s o K\/(mJ 8 s (s.gets args.toList) fun ds s=>pK T argTypes.toList ds fun ds=>∃ R,aF P T f ds R/\∀ d rows,R d rows->(match s with
   | ⟨env,box,row,n⟩=>uq row.length d fun d=>nU row rows fun row=>K d ⟨env,box,row,n⟩)) \/
  (gX (s.gets args.toList) fun ds=>KU P T s f ds K)\/Et P T s f argTypes.toList (s.gets args.toList) K\/(gX (s.gets args.toList) fun ds=>mV P T s f ds K)
 | .makeInterface t x=>FC T t (s.get x) fun d=>Conc P t/\K (.ifc t d) s
 | .call { callee:=.invoke x m,args,argTypes }=>
  qop P T s o K\/match s.get x with
   | .ifc t d=>∃ f,lu P m t f/\(mJ 8 s (s.gets args.toList) fun ds s=>pK T argTypes.toList ds fun ds=>∃ R,aF P T f (d :: ds) R/\∀ d rows,R d rows->(match s with
    | ⟨env,box,row,n⟩=>uq row.length d fun d=>nU row rows fun row=>K d ⟨env,box,row,n⟩))
   | _=>False
 | .call { callee:=.value (.tmp t),args,argTypes:=_ }=>
  qop P T s o K\/fnK (s.get (.tmp t)) fun f first cap=>gX (first++s.gets args.toList++cap) fun ds=>KU P T s f ds K
 | _=>qop P T s o K
def BX(P:Program)(T:Tab)(ops:List Oper):List Oper->St->(St->Prop)->Prop
 | [],s,K=>K s
 | o :: rest,s,K=>lC ops s o.guard
     (fun s=>vop P T s o fun d s=>gy s o.dst d fun s=>BX P T ops rest s K)
     (fun s=>gy s o.dst (.tup []) fun s=>BX P T ops rest s K)
section
variable {w0 w w' : World} {V0 : Fr} {V : Vw} {μ : List Nat} {ω : List Value} {box : List (List D)} {row : Rows} {s : St} {a : Act} {P : Program} {T : Tab}
def Hit(μ:List Nat)(ω:List Value):Src->Nat->Prop
 | .none,_=>False
 | .reg,_=>False
 | .box i,g=>μ[i]? = some g
 | .row r,g=>∃ v,ω[r]? = some v/\v.ownBlock=some g
 | .all,_=>True
structure Step(E:Src)(V:Vw)(μ:List Nat)(ω:List Value)(w:World)(V':Vw)(μ':List Nat)(ω':List Value)(w':World):Prop where
 vle:VLe V V'
 pre:Pre μ μ'
 row:∀ (r:Nat) v,E ≠ .row r->E ≠ .all->ω[r]? = some v->ω'[r]? = some v
 foot:∀ q v,w.cell? q=some v->¬ Hit μ ω E q.block->w'.cell? q=some v
theorem Step.ext{E:Src}{V':Vw}{μ':List Nat}{ω':List Value}(hV:VLe V V')(hm:Pre μ μ')(hω:Pre ω ω')(he:Ext w w'):Step E V μ ω w V' μ' ω' w':=
 ⟨hV,hm,fun r v _ _ h=>hω r v h,fun _ _ hc _=>he.cell hc⟩
def Q8(o:Oper):Bool:=match o.op with|.call { callee:=.value _,args:=_,argTypes:=_ }=>true|.call { callee:=.invoke _ _,args:=_,argTypes:=_ }=>true|_=>false
def Vok(P:Program)(T:Tab)(w0:World)(V0:Fr)(E:Src)(V:Vw)(μ:List Nat)(ω:List Value)(a:Act)(w:World)(o:Oper)(K:D->St->Prop):Prop:=
 ∀ (next:Act->World->Prop) (Q:Exit->Act->World->Prop),
  (∀ d v s V' μ' ω' w',K d s->RS (ah T) V' μ' ω' v d->Sim (ah T) w0 V0 V' μ' ω' s a w'->(Q8 o=false->Step E V μ ω w V' μ' ω' w')->next (a.put o.dst v) w')->o.wp P a w next Q
theorem Vok.ng{E:Src}(hT:TOk P T)(hS:Sim (ah T) w0 V0 V μ ω s a w){o:Oper}{K:D->St->Prop}(h:qop P T s o K):Vok P T w0 V0 E V μ ω a w o K:=by
 intro next Q hn
 obtain⟨d,v,s',hk,hr,hS',_,_,_,hq⟩:=yx hT hS h;exact Oper.wp_of_quiet (C:=Ext w) (K:=fun a'=>∀ w',Ext w w'->next a' w') (Ext.refl w) (fun a' w' he h=>h w' he) ⟨v,fun w' he=>hq w' (QR.ext he),fun w' he=>hn d v s' V μ ω w' hk hr (hS'.ext he) fun _=>.ext (fun _ _ h=>h) (.refl _) (.refl _) he⟩
theorem Vok.value{E:Src}{o:Oper}{K:D->St->Prop}{v:Value}{d:D}{V':Vw}{μ':List Nat}{ω':List Value}{s':St}(hr:(execOp a.eval o).run P w = .ok (.value v) w')
    (hk:K d s')(hv:RS (ah T) V' μ' ω' v d)(hS:Sim (ah T) w0 V0 V' μ' ω' s' a w')(hst:Step E V μ ω w V' μ' ω' w'):Vok P T w0 V0 E V μ ω a w o K:=by
 intro next Q hn
 unfold Oper.wp;rw[hr];exact hn d v s' V' μ' ω' w' hk hv hS fun _=>hst
theorem Vok.skip{E:Src}{o:Oper}{K:D->St->Prop}{V':Vw}{μ':List Nat}{ω':List Value}{s':St}(hr:(execOp a.eval o).run P w = .ok .skip w')
    (hk:K .u s')(hS:Sim (ah T) w0 V0 V' μ' ω' s' a w')(hst:Step E V μ ω w V' μ' ω' w'):Vok P T w0 V0 E V μ ω a w o K:=by
 intro next Q hn
 unfold Oper.wp;rw[hr];exact hn .u undef s' V' μ' ω' w' hk (.imm _ _ (.u _)) hS fun _=>hst
theorem Mem.qL(h:Mem (ah T) w0 V0 V μ ω box row w){r:Nat}{v:Value}{e:TypeId}{xs:List (List D)}(hω:ω[r]? = some v)(hr:row[r]? = some (some (e,xs))) :
    ∃ A c vals,v = .slice A xs.length c/\xs.length<=c/\c<=maxLen/\(A=none->c=0/\xs=[])/\(∀ ad,A=some ad->ad.off=0/\ad.spot=none) /\
     iD w w0.heap.size e (ah T e) v xs.length vals/\fU (ah T) V e vals xs:=by
 obtain⟨vals,hown,ho,hl,hR⟩:=h.hrow r v e xs hω hr;rcases hown.2 with⟨rfl,h0⟩|⟨g,cap,cur,_,_,rfl,_,_,h5,h6,_⟩
 . refine⟨none,0,vals,by rw[h0],oA,by unfold maxLen;omega,fun _=>⟨rfl,List.eq_nil_of_length_eq_zero h0⟩,sI,hown,⟨ho,hl,hR⟩⟩
 . exact⟨_,cap,vals,rfl,h5,h6,sI,fun ad e=>by cases e;exact⟨rfl,rfl⟩,hown,⟨ho,hl,hR⟩⟩
theorem Mem.vJ(h:Mem (ah T) w0 V0 V μ ω box row w){r:Nat}{v:Value}{e:TypeId}{xs:List (List D)}(he:e<BIG)(hω:ω[r]? = some v)(hr:row[r]? = some (some (e,xs))) :
    ∃ A c vals,v = .slice A xs.length c/\xs.length<=c/\c<=maxLen/\(A=none->c=0/\xs=[])/\(∀ ad,A=some ad->ad.off=0/\ad.spot=none) /\
     w.ownsRow w0.heap.size e (ah T e) v xs.length vals/\fU (ah T) V e vals xs:=
 let ⟨A,c,vals,a,b,d,f,g,k,l⟩:=h.qL hω hr
 ⟨A,c,vals,a,b,d,f,g,k.plain he,l⟩
theorem fU.lst{V':Vw}{e:TypeId}{xs:List (List D)}{vals:List Value}{A:Option Addr}{c m:Nat}(hR:fU (ah T) V e vals xs)(hV:VLe V V')(hc:xs.length<=c)(hm:c<=maxLen)
    (hA:A=none->c=0/\xs=[])(hcell:∀ ad,A=some ad->∀ j u,vals[j]? = some u->V' (ad.add j)=some u)(hmx:m<=xs.length):RI (ah T) V' (.slice A m c) (.lst e (xs.take m) (xs.drop m)):=by
 cases A with
 | none=>
  obtain⟨rfl,rfl⟩:=hA rfl;have:m=0:=by simpa using hmx
  subst this;exact RI.lst e [] [] none ⟨0,0,none⟩ 0 (fun _ _=>undef) sI hm sI sI sI sI sI
 | some ad=>
  have nR:xs.take m++xs.drop m=xs:=List.take_append_drop m xs;have:=RI.lst (sz:=ah T) (V:=V') e (xs.take m) (xs.drop m) (some ad) ad c (fun i j=>vals.getD (i*ah T e+j) undef) sO hm (fun _=>rfl) (fun hno=>by cases hno)
   (fun i row h=>hR.len i row (by rwa [nR] at h))
   (fun i row j d h1 h2=>by
    rw[nR] at h1;obtain⟨u,hu,_⟩:=hR.rel i row j d h1 h2;have hg:vals.getD (i*ah T e+j) undef=u:=by simp[List.getD,hu]
    show V' _=some (vals.getD (i*ah T e+j) undef)/\(vals.getD (i*ah T e+j) undef).oneCell'=true;rw[hg];exact⟨hcell ad rfl _ _ hu,hR.one u (aU hu)⟩)
   (fun i row j d h1 h2=>by
    rw[nR] at h1;obtain⟨u,hu,hr⟩:=hR.rel i row j d h1 h2;have hg:vals.getD (i*ah T e+j) undef=u:=by simp[List.getD,hu]
    show RI _ _ (vals.getD (i*ah T e+j) undef) d;rw[hg];exact hr.mono hV)
  rwa [List.length_take,Nat.min_eq_left hmx] at this
def xw(V:Vw)(w:World)(A:Option Addr)(k:Nat):Vw:=fun p=>match A with
 | some ad=>if p.block=ad.block/\p.off<k then w.cell? p else V p
 | none=>V p
theorem DY{V:Vw}{A:Option Addr}{k:Nat}{p:Addr}(h:∀ ad,A=some ad->¬ (p.block=ad.block/\p.off<k)):xw V w A k p=V p:=by
 unfold xw;split
 . rename_i ad;rw[if_neg (h ad rfl)]
 . rfl
theorem Eu{V:Vw}{ad:Addr}{k:Nat}{p:Addr}(h:p.block=ad.block/\p.off<k):xw V w (some ad) k p=w.cell? p:=by
 simp only[xw,if_pos h]
theorem Mem.pub(h:Mem (ah T) w0 V0 V μ ω box row w){r:Nat}{v:Value}{e:TypeId}{xs:List (List D)}(hω:ω[r]? = some v)(hr:row[r]? = some (some (e,xs))) :
    ∃ V',VLe V V'/\Mem (ah T) w0 V0 V' μ ω (box.map fun c=>c.map (gq r fun m=>.lst e (xs.take m) (xs.drop m))) (row.set r none) w /\
     ∀ m u,RS (ah T) V μ ω u (.own r m)->RS (ah T) V' μ ω u (.lst e (xs.take m) (xs.drop m)):=by
 obtain⟨A,c,vals,rfl,hc,hm,hA,hA2,hown,hR⟩:=h.qL hω hr;have hrr:r<row.length:=(aK.1 hr).1;have uN:∀ ad,A=some ad->Own μ ω row (.inr r) ad.block:=fun ad e=>⟨_,_,hω,hr,by simp[Value.ownBlock,e]⟩
 let V':Vw:=xw V w A (xs.length*ah T e)
 have Gi:∀ p,(∀ ad,A=some ad->p.block ≠ ad.block)->V' p=V p:=fun p hp=>DY fun ad e hh=>hp ad e hh.1
 have hle:VLe V V':=fun p u hp=>by
  rw[Gi p (fun ad e hb=>h.eF p u (.inr r) hp (by rw[hb];exact uN ad e))];exact hp
 have hcell:∀ ad,A=some ad->∀ j u,vals[j]? = some u->V' (ad.add j)=some u:=by
  intro ad e1 j u hu;subst e1;obtain⟨h1,h2⟩:=hA2 ad rfl;have hj:j<xs.length*ah T e:=by rw[<- hown.1];exact (aK.1 hu).1
  have hadd:ad.add j=⟨ad.block,j,none⟩:=by
   obtain⟨b,o,sp⟩:=ad;dsimp only at h1 h2;subst h1 h2;rw[add_lit,Nat.zero_add]
  have hc1:=hown.cells (g:=ad.block) rfl j u hu;rw[add_lit,Nat.zero_add] at hc1;show xw V w (some ad) (xs.length*ah T e) (ad.add j)=some u;rw[hadd];exact (Eu (V:=V) (w:=w) (ad:=ad) (p:=⟨ad.block,j,none⟩) ⟨rfl,hj⟩).trans hc1
 have hconv:∀ m u,RS (ah T) V μ ω u (.own r m)->RS (ah T) V' μ ω u (.lst e (xs.take m) (xs.drop m)):=by
  intro m u hu;obtain⟨A',N,c',h1,h2,rfl⟩:=hu.jd;rw[hω] at h1;cases h1;exact .imm _ _ (hR.lst hle hc hm hA hcell h2)
 have own:∀ l g,Own μ ω (row.set r none) l g->Own μ ω row l g/\l ≠ .inr r:=by
  intro l g hl
  cases l with
  | inl i=>exact⟨hl,sI⟩
  | inr q=>
   obtain⟨u,y,h1,h2,h3⟩:=hl;by_cases hq:q=r
   . subst hq
     rw[List.getElem?_set_self hrr] at h2;cases h2
   . rw[List.getElem?_set_ne (Ne.symm hq)] at h2
     exact⟨⟨u,y,h1,h2,h3⟩,by simpa using hq⟩
 refine⟨V',hle,⟨h.below,?_,fun p u hp=>hle _ _ (h.vle p u hp),?_,by simp[h.bl],?_,by simp[h.rl],?_,?_,?_,?_,fun x hx=>?away⟩,hconv⟩
 case away=>
  obtain⟨a,b,c1,d,e1⟩:=h.away x hx;refine⟨a,b,fun l hl=>c1 l (own l _ hl).1,fun p u hp hb=>?_,e1⟩;by_cases hA:∃ ad,A=some ad/\p.block=ad.block
  . obtain⟨ad,e2,e3⟩:=hA
    exact c1 (.inr r) (by rw[<- hb,e3];exact uN ad e2)
  . rw[Gi p (fun ad e1 e2=>hA ⟨ad,e1,e2⟩)] at hp
    exact d p u hp hb
 . refine⟨⟨fun p u hp=>hle p u (h.vok.1.1 p u hp),h.vok.1.2⟩,?_⟩
   intro p u hp;by_cases hb:∃ ad,A=some ad/\p.block=ad.block/\p.off<xs.length*ah T e
   . obtain⟨ad,rfl,hb⟩:=hb
     have:V' p=w.cell? p:=Eu hb;rw[<- this];exact hp
   . have:V' p=V p:=DY fun ad e hh=>hb ⟨ad,e,hh⟩
     rw[this] at hp;exact h.vok.2 p u hp
 . intro p hp
   rw[Gi p (fun ad e hb=>by have:=(h.new _ _ (uN ad e)).1;omega)];exact h.gu p hp
 . intro i g c' h1 h2
   simp only[aN,Option.map_eq_some_iff] at h2;obtain⟨cs,hcs,rfl⟩:=h2;obtain⟨us,t',a,b,c'',d,ty⟩:=h.hbox i g cs h1 hcs;refine⟨us,t',a,by simpa using b,c'',fun j v d' e1 e2=>?_,tV (fun _=>rfl) ty⟩;simp only[aN,Option.map_eq_some_iff] at e2;obtain⟨d0,hd0,rfl⟩:=e2;exact (d j v d0 e1 hd0).lN hle (fun _ _ _ h=>h) hconv
 . intro q u e' ys h1 h2
   by_cases hq:q=r
   . subst hq
     rw[List.getElem?_set_self hrr] at h2;cases h2
   . rw[List.getElem?_set_ne (Ne.symm hq)] at h2
     obtain⟨vals',a,b,c',d⟩:=h.hrow q u e' ys h1 h2;exact⟨vals',a,b,c',fun i rw_ j d' e1 e2=>let ⟨x,y,z⟩:=d i rw_ j d' e1 e2;⟨x,y,z.mono hle⟩⟩
 . intro l l' g h1 h2
   exact h.uniq l l' g (own l g h1).1 (own l' g h2).1
 . intro l g h1
   exact h.new l g (own l g h1).1
 . intro p u l hp h1
   obtain⟨h2,h3⟩:=own l _ h1;by_cases hb:∃ ad,A=some ad/\p.block=ad.block
   . obtain⟨ad,e1,hb⟩:=hb
     exact h3 (h.uniq l (.inr r) p.block h2 (by rw[hb];exact uN ad e1))
   . rw[Gi p (fun ad e1 e2=>hb ⟨ad,e1,e2⟩)] at hp
     exact h.eF p u l hp h2
def iU(sz:TypeId->Nat)(V:Vw)(μ:List Nat)(ω:List Value)(vs:List Value)(ds:List D):Prop:=
 vs.length=ds.length/\∀ (j:Nat) v d,vs[j]? = some v->ds[j]? = some d->RS sz V μ ω v d
theorem Sim.gets(h:Sim (ah T) w0 V0 V μ ω s a w)(xs:List Operand):iU (ah T) V μ ω (xs.map a.eval) (s.gets xs):=by
 refine⟨by simp[St.gets],fun j v d h1 h2=>?_⟩;simp only[St.gets,aN,Option.map_eq_some_iff] at h1 h2;obtain⟨x,hx,rfl⟩:=h1;obtain⟨y,hy,rfl⟩:=h2;rw[hx] at hy;cases hy;exact h.get x
theorem Nr(hS:Sim (ah T) w0 V0 V μ ω s a w){r:Nat}{ds:List D}{vs:List Value}{K:List D->St->Prop}(hv:iU (ah T) V μ ω vs ds)(h:rU r s ds K) :
    ∃ V' ds' s',K ds' s'/\iU (ah T) V' μ ω vs ds'/\Sim (ah T) w0 V0 V' μ ω s' a w/\VLe V V':=by
 obtain⟨env,box,row,n⟩:=s;simp only[rU] at h;split at h
 case h_2=>exact h.elim
 rename_i e xs hr;have hlt:r<ω.length:=by rw[hS.mem.rl];exact (aK.1 hr).1
 obtain⟨V',hle,hM,hconv⟩:=hS.mem.pub (aC hlt) hr;simp only[tX,tY] at h;obtain⟨_,h⟩:=gW _ _ _ _ h;have hS':Sim (ah T) w0 V0 V' μ ω ⟨env.map fun x=>(x.1,jM r (fun m=>.lst e (xs.take m) (xs.drop m)) x.2),box.map fun c=>c.map (gq r fun m=>.lst e (xs.take m) (xs.drop m)),row.set r none,n⟩ a w:=
  ⟨hS.tmps,hS.defers,fun t=>by
   show RS _ _ _ _ _ (look (env.map fun x=>(x.1,jM r (fun m=>.lst e (xs.take m) (xs.drop m)) x.2)) t);rw[tq];exact (hS.env t).sub hle (fun _ _ _ h=>h) hconv,hM⟩
 split at h
 . exact⟨V',[],_,h,⟨by simpa using hv.1,fun j v d _ hd=>by simp at hd⟩,hS',hle⟩
 . rw[rU.Yw] at h
   refine⟨V',_,_,h,⟨by simpa using hv.1,fun j v d h1 h2=>?_⟩,hS',hle⟩;simp only[aN,Option.map_eq_some_iff] at h2;obtain⟨d0,hd0,rfl⟩:=h2;exact (hv.2 j v d0 h1 hd0).sub hle (fun _ _ _ h=>h) hconv
theorem lW:∀ (k:Nat) {V:Vw} {s:St} {ds:List D} {K:List D->St->Prop} {vs:List Value},Sim (ah T) w0 V0 V μ ω s a w->iU (ah T) V μ ω vs ds->mJ k s ds K ->
    ∃ V' ds' s',K ds' s'/\iU (ah T) V' μ ω vs ds'/\Sim (ah T) w0 V0 V' μ ω s' a w/\VLe V V'
 | 0,_,_,_,_,_,_,_,h=>h.elim
 | k+1,V,s,ds,K,vs,hS,hv,h=>by
  simp only[mJ] at h;split at h
  . exact⟨V,ds,s,h,hv,hS,fun _ _ h=>h⟩
  . obtain⟨V',ds',s',h,hv',hS',hle⟩:=Nr hS hv h
    obtain⟨V2,ds2,s2,h,hv2,hS2,hle2⟩:=lW k hS' hv' h;exact⟨V2,ds2,s2,h,hv2,hS2,fun p v hp=>hle2 p v (hle p v hp)⟩
theorem G5{sz:TypeId->Nat}{ti:Option TI}{d:D}{v:Value}{K:D->Prop}(hv:RS sz V μ ω v d)(h:Bj ti d K):∃ d',K d'/\RI sz V v d':=by
 have imm:∀ d,K d->RI sz V v d->∃ d',K d'/\RI sz V v d':=fun d hk hr=>⟨d,hk,hr⟩
 unfold Bj at h;split at h
 . rw[hv.iY]
   split at h
   . exact⟨_,h,RI.lst _ [] [] none ⟨0,0,none⟩ 0 (fun _ _=>undef) sI (by unfold maxLen;omega) sI sI sI sI sI⟩
   . exact⟨_,h,.aO⟩
 . rw[hv.tt_];exact⟨_,h,.b _ _ sI⟩
 . rw[hv.ff_];exact⟨_,h,.b _ _ sI⟩
 . exact h.elim
 . exact h.elim
 . exact h.elim
 . exact h.elim
 . exact h.elim
 . exact h.elim
 . exact h.elim
 . exact h.elim
 . exact h.elim
 . rename_i h4 h5 h6 h7 h8 h9 h10 h12 h11
   rw[D.force_eq] at h
   cases hv with
   | imm _ _ hr=>exact⟨_,h,hr⟩
   | own=>exact absurd rfl (h4 _ _)
   | op=>exact absurd rfl (h5 _ _ _ _)
   | bp=>exact absurd rfl (h6 _ _)
   | agg=>exact absurd rfl (h7 _)
   | tup=>exact absurd rfl (h8 _)
   | fnh=>exact absurd rfl (h9 _ _ _)
   | osl=>exact absurd rfl (h10 _ _ _ _)
   | tie=>exact absurd rfl (h12 _ _ _ _)
structure rW(sz:TypeId->Nat)(V:Vw)(vs:List Value)(cs:List D):Prop where
 size:vs.length=cs.length
 one:∀ v ∈ vs,v.oneCell'=true
 rel:∀ (j:Nat) v d,vs[j]? = some v->cs[j]? = some d->RI sz V v d
theorem zG{sz:TypeId->Nat}{e:TypeId}:∀ (cs:List D) (i:Nat) (vs:List Value) (K:List D->Prop),vs.length=cs.length->(∀ v ∈ vs,v.oneCell'=true) ->
    (∀ (j:Nat) v d,vs[j]? = some v->cs[j]? = some d->RS sz V μ ω v d)->wP T e i cs K->∃ ds,K ds/\rW sz V vs ds
 | [],i,vs,K,hl,ho,hR,h=>⟨[],h,⟨hl,ho,fun j v d _ hd=>by simp at hd⟩⟩
 | c :: cs,i,[],K,hl,ho,hR,h=>by simp at hl
 | c :: cs,i,v :: vs,K,hl,ho,hR,h=>by
  simp only[wP] at h;obtain⟨d,h,hd⟩:=G5 (hR 0 v c rfl rfl) h;obtain⟨ds,h,hds⟩:=zG cs (i+1) vs _ (by simpa using hl) (fun v hv=>ho v (by simp[hv])) (fun j v d h1 h2=>hR (j+1) v d (by simpa using h1) (by simpa using h2)) h;refine⟨d :: ds,h,⟨by simp[hds.size],ho,fun j v' d' h1 h2=>?_⟩⟩
  cases j with
  | zero=>simp at h1 h2;subst h1 h2;exact hd
  | succ j=>exact hds.rel j v' d' (by simpa using h1) (by simpa using h2)
theorem vF{e:TypeId}{p:Prop}(h:rH T e p):(∃ ti,T e=some ti/\1<=ti.size/\ti.bytes<=65536)/\p:=by
 unfold rH at h;split at h
 . rename_i ti hti
   simp only[ou] at h;exact⟨⟨ti,hti,h.1,h.2.1⟩,h.2.2⟩
 . exact h.elim
structure JJ(sz:TypeId->Nat)(V:Vw)(w:World)(e:TypeId)(v:Value)(xs:List (List D))(A:Option Addr)(c:Nat)(vals:List Value):Prop where
 val:v = .slice A xs.length c
 nil:A=none->c=0/\xs=[]
 len:vals.length=xs.length*sz e
 cell:∀ ad,A=some ad->∀ (j:Nat) u,vals[j]? = some u->w.cell? (ad.add j)=some u
 rr:fU sz V e vals xs
theorem Xg{sz:TypeId->Nat}(aco:VOk V w){e:TypeId}{rows room:List (List D)}{v:Value}(hv:RS sz V μ ω v (.lst e rows room)):∃ A c vals,JJ sz V w e v rows A c vals:=by
 obtain⟨A,ad,c,val,rfl,hc,hm,hA,hn,hl,hV,hR⟩:=hv.BP;have hrow:∀ (i:Nat) row,rows[i]? = some row->(rows++room)[i]? = some row:=fun i row h=>by
  rw[List.getElem?_append_left (aK.1 h).1];exact h
 have hmap:∀ k,k<rows.length*sz e->k / sz e<rows.length/\k % sz e<sz e/\k / sz e*sz e+k % sz e=k:=by
  intro k hk;have hz:0<sz e:=by
   rcases Nat.eq_zero_or_pos (sz e) with h0|h0
   . rw[h0] at hk;simp at hk
   . exact h0
  refine⟨Nat.div_lt_of_lt_mul (by rw[Nat.mul_comm];exact hk),Nat.mod_lt _ hz,?_⟩;have:=Nat.div_add_mod k (sz e);rw[Nat.mul_comm];exact this
 have hget:∀ k,k<rows.length*sz e->∃ row d,rows[k / sz e]? = some row/\row[k % sz e]? = some d:=by
  intro k hk;obtain⟨h1,h2,_⟩:=hmap k hk;have h3:=aC h1;have h4:=hl _ _ (hrow _ _ h3);exact⟨_,_,h3,aC (by rw[h4];exact h2)⟩
 have hval:∀ (j:Nat) u,((List.range (rows.length*sz e)).map fun k=>val (k / sz e) (k % sz e))[j]? = some u->j<rows.length*sz e/\u=val (j / sz e) (j % sz e):=by
  intro j u hu;have hj:j<rows.length*sz e:=by have:=(aK.1 hu).1;simpa using this
  rw[aN,List.getElem?_range hj] at hu;simp at hu;exact⟨hj,hu.symm⟩
 refine⟨A,c,(List.range (rows.length*sz e)).map fun k=>val (k / sz e) (k % sz e),rfl,fun h=>?_,sI,?_,?_,fun i row h=>hl i row (hrow i row h),?_⟩
 . have:=hn h
   exact⟨this,List.eq_nil_of_length_eq_zero oA⟩
 . intro ad' hA' j u hu
   obtain⟨hj,rfl⟩:=hval j u hu;obtain⟨row,d,h1,h2⟩:=hget j hj;obtain⟨_,_,h3⟩:=hmap j hj;have hne:rows++room ≠ []:=by intro h0;have:=hrow _ _ h1;rw[h0] at this;simp at this
   have h4:=hA hne;rw[hA'] at h4;cases h4;have h5:=(hV _ row _ d (hrow _ _ h1) h2).1;rw[h3] at h5;exact aco.2 _ _ h5
 . intro u hu
   obtain⟨j,hj⟩:=List.getElem?_of_mem hu;obtain⟨hj2,rfl⟩:=hval j u hj;obtain⟨row,d,h1,h2⟩:=hget j hj2;exact (hV _ row _ d (hrow _ _ h1) h2).2
 . intro i rw_ j d h1 h2
   have hi:=(aK.1 h1).1;have hjl:j<sz e:=by rw[<- hl i rw_ (hrow i rw_ h1)];exact (aK.1 h2).1
   have hlt:i*sz e+j<rows.length*sz e:=by
    have:(i+1)*sz e<=rows.length*sz e:=Nat.mul_le_mul_right _ hi;rw[Nat.add_mul] at this;omega
   refine⟨val i j,?_,hR i rw_ j d (hrow i rw_ h1) h2⟩;rw[aN,List.getElem?_range hlt];simp only[Option.map_some,Option.some.injEq];have e1:(i*sz e+j) / sz e=i:=by rw[Nat.mul_comm,Nat.mul_add_div oA];simp[Nat.div_eq_of_lt hjl]
   have e2:(i*sz e+j) % sz e=j:=by rw[Nat.mul_comm,Nat.mul_add_mod];exact Nat.mod_eq_of_lt hjl
   rw[e1,e2]
theorem Xh(hM:Mem (ah T) w0 V0 V μ ω box row w){r m:Nat}{e:TypeId}{xs ys:List (List D)}{v:Value}(hv:RS (ah T) V μ ω v (.own r m))(hr:row[r]? = some (some (e,xs)))(hm:m<=xs.length)
    (hy:m=xs.length/\ys=xs\/ys=xs.take m):∃ A c vals,JJ (ah T) V w e v ys A c vals:=by
 have hy':ys=xs.take m:=by
  rcases hy with⟨h1,h2⟩|h
  . rw[h1,h2,List.take_length]
  . exact h
 subst hy';obtain⟨A,N,c,hω,hn,rfl⟩:=hv.jd;obtain⟨A',c',vals,hv',hc,hmx,hA,hA2,hown,hR⟩:=hM.qL hω hr;cases hv';have hlen:(xs.take m).length=m:=by rw[List.length_take];omega
 refine⟨A,c,vals.take (m*ah T e),by rw[hlen],fun h=>?_,?_,?_,?_,?_,?_⟩
 . obtain⟨h1,h2⟩:=hA h
   exact⟨h1,by rw[h2];simp⟩
 . rw[List.length_take,hown.1,hlen]
   exact Nat.min_eq_left (Nat.mul_le_mul_right _ hm)
 . intro ad hA' j u hu
   subst hA';obtain⟨h1,h2⟩:=hA2 ad rfl;have hu':vals[j]? = some u:=by
    rw[List.getElem?_take] at hu;split at hu
    . exact hu
    . cases hu
   have:=hown.cells (g:=ad.block) rfl j u hu';obtain⟨b,o,sp⟩:=ad;dsimp only at h1 h2;subst h1 h2;exact this
 . intro u hu
   exact hR.one u (List.mem_of_mem_take hu)
 . intro i rw_ h
   rw[List.getElem?_take] at h;split at h
   . exact hR.len i rw_ h
   . cases h
 . intro i rw_ j d h1 h2
   rw[List.getElem?_take] at h1;split at h1
   case isFalse=>cases h1
   rename_i hi;obtain⟨u,hu,hr⟩:=hR.rel i rw_ j d h1 h2;refine⟨u,?_,hr⟩;have hj:j<ah T e:=by rw[<- hR.len i rw_ h1];exact (aK.1 h2).1
   rw[List.getElem?_take,if_pos]
   . exact hu
   . have:(i+1)*ah T e<=m*ah T e:=Nat.mul_le_mul_right _ hi
     rw[Nat.add_mul] at this;omega
theorem fU.append{sz:TypeId->Nat}{e:TypeId}{vals news:List Value}{xs ys:List (List D)}(h:fU sz V e vals xs)(h':fU sz V e news ys)(hl:vals.length=xs.length*sz e):fU sz V e (vals++news) (xs++ys):=by
 refine⟨fun u hu=>(bQ.1 hu).elim (h.one u) (h'.one u),fun i rw_ hi=>?_,fun i rw_ j d h1 h2=>?_⟩
 . rcases Nat.lt_or_ge i xs.length with hx|hx
   . rw[List.getElem?_append_left hx] at hi;exact h.len i rw_ hi
   . rw[List.getElem?_append_right hx] at hi;exact h'.len _ rw_ hi
 . rcases Nat.lt_or_ge i xs.length with hx|hx
   . rw[List.getElem?_append_left hx] at h1
     obtain⟨u,hu,hr⟩:=h.rel i rw_ j d h1 h2;refine⟨u,?_,hr⟩;rw[List.getElem?_append_left (aK.1 hu).1];exact hu
   . rw[List.getElem?_append_right hx] at h1
     obtain⟨u,hu,hr⟩:=h'.rel _ rw_ j d h1 h2;refine⟨u,?_,hr⟩;have e1:i*sz e=xs.length*sz e+(i - xs.length)*sz e:=by rw[<- Nat.add_mul];congr 1;omega
     rw[List.getElem?_append_right (by rw[hl,e1];omega),hl,e1,show xs.length*sz e+(i - xs.length)*sz e+j - xs.length*sz e=(i - xs.length)*sz e+j by omega];exact hu
theorem G6(t ty e:TypeId)(i:TypeInfo)(z:Value)(size:Nat)(ht:P.underlying t=some (.slice e))(hi:P.info? e=some i)(hz:i.zero=some z)
    (hsize:i.size=size)(hzs:z.cells.size=size)(hsz:0<size)(hby:i.bytes<=65536){base:Nat}
    (v:Value)(n:Nat)(xs:List Value)(hown:w.ownsRow base e size v n xs)(A:Option Addr)(m c:Nat)(news:List Value)(hA:A=none->c=0/\m=0)(hl:news.length=m*size)
    (hnews:∀ ad,A=some ad->∀ (j:Nat) u,news[j]? = some u->w.cell? (ad.add j)=some u)(h1:∀ u ∈ news,u.oneCell'=true)(hnm:n+m<=2147483648)(hbase:base<=w.heap.size) :
    ∃ v' w',(Builtin.append_ #[t,t] ty #[v,.slice A m c]).run P w = .ok v' w'/\w'.ownsRow base e size v' (n+m) (xs++news)/\w.grownBy w' v.ownBlock /\
     (v'.ownBlock=v.ownBlock\/∃ g,v'.ownBlock=some g/\w.heap.size<=g):=by
 have h63:n+m<=maxLen:=by unfold maxLen;omega
 have hbytes:(n+m)*i.bytes<=140737488355328:=by
  have:=Nat.mul_le_mul hnm hby
  omega
 cases A with
 | none=>
  obtain⟨rfl,rfl⟩:=hA rfl;have hn:news=[]:=List.eq_nil_of_length_eq_zero (by simpa using hl);subst hn;refine⟨v,w,run_append_owned_none w base t ty e i size ht hi v n xs hown,by simpa using hown,⟨rfl,rfl,rfl,Nat.le_refl _,fun _ _ _=>rfl⟩,.inl rfl⟩
 | some ad=>
  obtain⟨v',w',hr,h2,h3,h4⟩:=run_append_own (P:=P) w base t ty e i z size i.bytes ht hi hz hsize rfl hzs hsz v n xs hown ad m c news hl (hnews ad rfl) h1 h63 hbytes hbase;refine⟨v',w',hr,h2,h3,?_⟩;subst hsize;rcases hown.2 with⟨rfl,rfl⟩|⟨g,cap,cur,rfl,hbg,hg,hnc,hcm,hcs,htake⟩
  . by_cases hm:m=0
    . have:=h4.2 ⟨rfl,hm⟩
      exact .inl (by rw[this])
    . have hr2:=run_append_nil (P:=P) w t ty e i z ht hi hz ad m c news hl (hnews ad rfl) oA oA (by rw[Nat.zero_add] at hbytes;omega)
      rw[hr2] at hr;cases hr;exact .inr ⟨_,rfl,Nat.le_refl _⟩
  . by_cases hroom:n+m<=cap
    . have hfit:n*i.size+news.length<=cur.size:=by rw[hl,hcs,<- Nat.add_mul];exact Nat.mul_le_mul_right _ hroom
      have hr2:=run_append_room (P:=P) w t ty e i ht hi g n cap cur hg ad m c news hl (hnews ad rfl) h1 hroom hfit;rw[hr2] at hr;cases hr;exact .inl rfl
    . have holds:∀ j u,xs[j]? = some u->w.cell? ((⟨g,0,none⟩:Addr).add j)=some u:=hown.cells (g:=g) rfl
      have hr2:=run_append_grow (P:=P) w t ty e i z ht hi hz ⟨g,0,none⟩ n cap xs hown.1 holds ad m c news hl (hnews ad rfl) oA oA (growslice_fits oA hbytes);rw[hr2] at hr;cases hr;exact .inr ⟨_,rfl,Nat.le_refl _⟩
theorem U5(t ty e:TypeId)(i:TypeInfo)(z:Value)(size:Nat)(ht:P.underlying t=some (.slice e))(hi:P.info? e=some i)(hz:i.zero=some z)
    (hsize:i.size=size)(hzs:z.cells.size=size)(hsz:0<size)(hby:i.bytes<=65536){base:Nat}
    (g0 cap0:Nat)(n:Nat)(xs:List Value)(hown:w.ownsRow base e size (.slice (some ⟨g0,0,none⟩) n cap0) n xs)(ad:Addr)(m c:Nat)(news:List Value)(hl:news.length=m*size)
    (hnews:∀ (j:Nat) u,news[j]? = some u->w.cell? (ad.add j)=some u)(h1:∀ u ∈ news,u.oneCell'=true)(hnm:n+m<=2147483648)(hbase:base<=w.heap.size) :
    ∃ v' w',(Builtin.append_ #[t,t] ty #[.slice (some ⟨g0,0,none⟩) n cap0,.slice (some ad) m c]).run P w = .ok v' w'/\w'.ownsRow base e size v' (n+m) (xs++news) /\
     ((n+m<=cap0/\v' = .slice (some ⟨g0,0,none⟩) (n+m) cap0/\w.grownBy w' (some g0))\/(cap0<n+m/\∃ c',v' = .slice (some ⟨w.heap.size,0,none⟩) (n+m) c'/\Ext w w')):=by
 have h63:n+m<=maxLen:=by unfold maxLen;omega
 have hbytes:(n+m)*i.bytes<=140737488355328:=by
  have:=Nat.mul_le_mul hnm hby
  omega
 obtain⟨v',w',hr,h2,h3,h4⟩:=run_append_own (P:=P) w base t ty e i z size i.bytes ht hi hz hsize rfl hzs hsz _ n xs hown ad m c news hl hnews h1 h63 hbytes hbase;refine⟨v',w',hr,h2,?_⟩;subst hsize;rcases hown.2 with⟨h,_⟩|⟨g,cap,cur,e1,hbg,hg,hnc,hcm,hcs,htake⟩
 . cases h
 . cases e1
   by_cases hroom:n+m<=cap0
   . have hfit:n*i.size+news.length<=cur.size:=by rw[hl,hcs,<- Nat.add_mul];exact Nat.mul_le_mul_right _ hroom
     have hr2:=run_append_room (P:=P) w t ty e i ht hi g0 n cap0 cur hg ad m c news hl hnews h1 hroom hfit;rw[hr2] at hr;cases hr;exact .inl ⟨hroom,rfl,h3⟩
   . have holds:∀ j u,xs[j]? = some u->w.cell? ((⟨g0,0,none⟩:Addr).add j)=some u:=hown.cells (g:=g0) rfl
     have hr2:=run_append_grow (P:=P) w t ty e i z ht hi hz ⟨g0,0,none⟩ n cap0 xs hown.1 holds ad m c news hl hnews oA oA (growslice_fits oA hbytes);rw[hr2] at hr;cases hr;exact .inr ⟨oA,_,rfl,(Below.drew (Below.refl _ w)).alloc (Nat.le_refl _) _⟩
theorem U6(t u ty e:TypeId)(i:TypeInfo)(ht:P.underlying t=some (.slice e))(hu:P.underlying u=some .string)(hi:P.info? e=some i)(hz:i.zero=some (.int .u8 0))
    (hsize:i.size=1)(hby:i.bytes=1){base:Nat}
    (v:Value)(n:Nat)(xs:List Value)(hown:w.ownsRow base e 1 v n xs)(s:ByteArray)(hnm:n+s.size<=2147483648)(hbase:base<=w.heap.size) :
    ∃ v' w',(Builtin.append_ #[t,u] ty #[v,.string s]).run P w = .ok v' w'/\w'.ownsRow base e 1 v' (n+s.size) (xs++Lib.strCells s)/\w.grownBy w' v.ownBlock /\
     (v'.ownBlock=v.ownBlock\/∃ g,v'.ownBlock=some g/\w.heap.size<=g):=by
 have h63:n+s.size<=maxLen:=by unfold maxLen;omega
 obtain⟨v',w',hr,h2,h3,h4⟩:=Lib.run_append_own_string (P:=P) w base t u ty e i ht hu hi hz hsize hby v n xs hown s h63 oA hbase;refine⟨v',w',hr,h2,h3,?_⟩;rcases hown.2 with⟨rfl,rfl⟩|⟨g,cap,cur,rfl,hbg,hg,hnc,hcm,hcs,htake⟩
 . by_cases hm:s.size=0
   . have:=h4.2 ⟨rfl,hm⟩
     exact .inl (by rw[this])
   . have hr2:=run_append_nil_string (P:=P) w t u ty e i (.int .u8 0) ht hu hi hz s oA oA (by rw[hby];omega)
     rw[hr2] at hr;cases hr;exact .inr ⟨_,rfl,Nat.le_refl _⟩
 . by_cases hroom:n+s.size<=cap
   . have hcs':cur.size=cap:=by simpa using hcs
     have hr2:=Lib.run_append_room_string (P:=P) w t u ty e i ht hu hi hsize g n cap cur hg s hroom oA;rw[hr2] at hr;cases hr;exact .inl rfl
   . have holds:∀ j u,xs[j]? = some u->w.cell? ((⟨g,0,none⟩:Addr).add j)=some u:=hown.cells (g:=g) rfl
     have hxl:xs.length=n:=by simpa using hown.1
     have hr2:=Lib.run_append_grow_string (P:=P) w t u ty e i (.int .u8 0) ht hu hi hz ⟨g,0,none⟩ n cap xs (by rw[hsize];simpa using hxl) holds s oA oA (by rw[hby];exact growslice_fits oA oA);rw[hr2] at hr;cases hr;exact .inr ⟨_,rfl,Nat.le_refl _⟩
end
end Go.Vx
namespace Go.Vx
open Go.RowKit
section
variable {w0 w w' : World} {V0 : Fr} {V : Vw} {μ : List Nat} {ω : List Value} {box : List (List D)} {row : Rows} {s : St} {a : Act} {P : Program} {T : Tab}
theorem vk{α:Type}{l us:List α}{p:Nat}(h:p+us.length<=l.length)(q:Nat):(l.take p++us++l.drop (p+us.length))[q]? = if p<=q/\q<p+us.length then us[q - p]? else l[q]?:=by
 rw[List.append_assoc];by_cases hj:q<p
 . rw[List.getElem?_append_left (by rw[List.length_take];omega),List.getElem?_take_of_lt hj,if_neg oA]
 . rw[List.getElem?_append_right (by rw[List.length_take];omega),List.length_take,Nat.min_eq_left oA]
   by_cases hj2:q<p+us.length
   . rw[List.getElem?_append_left oA,if_pos oA]
   . rw[List.getElem?_append_right oA,if_neg oA,List.getElem?_drop]
     congr 1;omega
theorem Dp{α:Type}{l us:List α}{p:Nat}(h:p+us.length<=l.length):(l.take p++us++l.drop (p+us.length)).length=l.length:=by simp;omega
theorem MH{cs ds:List D}{off:Nat}(h:off+ds.length<=cs.length)(q:Nat):(setCells cs off ds)[q]? = if off<=q/\q<off+ds.length then ds[q - off]? else cs[q]?:=by
 unfold setCells;rw[<- List.append_assoc];exact vk h q
theorem MI{cs ds:List D}{off:Nat}(h:off+ds.length<=cs.length):(setCells cs off ds).length=cs.length:=by simp[setCells];omega
theorem gJ.splice{sz:TypeId->Nat}{vs us:Array Value}{cs ds:List D}(h:gJ sz V μ ω vs cs)(h':gJ sz V μ ω us ds){off:Nat}(hle:off+ds.length<=cs.length) :
    gJ sz V μ ω (vs.toList.take off++us.toList++vs.toList.drop (off+us.toList.length)).toArray (setCells cs off ds):=by
 have hu:us.toList.length=ds.length:=by rw[Array.length_toList];exact h'.size
 have hv:vs.toList.length=cs.length:=by rw[Array.length_toList];exact h.size
 refine⟨by rw[List.size_toArray,Dp oA,MI hle,hv],?_,?_⟩
 . intro v hv
   simp only[bQ] at hv;rcases hv with (hv|hv)|hv
   . exact h.one v (List.mem_of_mem_take hv)
   . exact h'.one v hv
   . exact h.one v (List.mem_of_mem_drop hv)
 . intro j v d h1 h2
   rw[List.getElem?_toArray,vk oA,hu] at h1;rw[MH hle] at h2;by_cases hc:off<=j/\j<off+ds.length
   . rw[if_pos hc] at h1 h2
     exact h'.rel _ v d (by simpa using h1) h2
   . rw[if_neg hc] at h1 h2
     exact h.rel _ v d (by simpa using h1) h2
theorem Step.setRow{E:Src}{g:Nat}{vs:Array Value}(hE:True->Hit μ ω E g):Step E V μ ω w V μ ω (w.setRow g vs):=by
 have hg:w.grownBy (w.setRow g vs) (some g):=⟨rfl,rfl,rfl,sI,fun k _ hk=>setRow_other w g k _ (fun e=>hk (by simp[e]))⟩;refine⟨fun _ _ h=>h,.refl _,fun r v _ _ h=>h,fun q v hc hn=>hg.cell hc fun e=>hn ?_⟩;have:q.block=g:=by simpa using e
 rw[this];exact hE trivial
theorem Ext.alloc(w:World)(o:Obj):Ext w (w.alloc o):=(Below.refl _ _).alloc (Nat.le_refl _) _
theorem gY.setRow{ds:List Deferred}(h:gY w0 V0 ds w){g:Nat}{cur:Array Value}{t:TypeId}{fz:Nat × Nat}(hg:w.heap[g]? = some (.cells cur t fz))(vs:Array Value):gY w0 V0 ds (w.setRow g vs):=
 h.grown (G:=some g) ⟨rfl,rfl,rfl,sI,fun k _ hk=>setRow_other w g k _ (fun e=>hk (by simp[e]))⟩ fun g' e=>by cases e;exact⟨_,_,_,hg⟩
theorem MJ(hS:Sim (ah T) w0 V0 V μ ω s a w){vs:Array Value}{cs:List D}{t:TypeId}(ha:gJ (ah T) V μ ω vs cs)(hty:bTy cs t){K:D->St->Prop}
    (h:match s with|⟨env,box,row,n⟩=>gZ box cs fun eU=>natLit box.length fun i=>K (.bp i 0) ⟨env,eU,row,n⟩) :
    ∃ d s' μ',K d s'/\RS (ah T) V μ' ω (.pointer (some ⟨w.heap.size,0,none⟩)) d/\Sim (ah T) w0 V0 V μ' ω s' a (w.alloc (.cells vs t))/\Pre μ μ':=by
 obtain⟨env,box,row,n⟩:=s;simp only[kY,kW] at h;have hM:=hS.mem.aa9 (t:=t) ha hty;refine⟨_,_,_,h,.bp box.length 0 w.heap.size ?_,⟨hS.tmps,hS.defers.ext (Ext.alloc w _),fun t=>(hS.env t).mono (.refl V) (.append _ _) (.refl ω),hM⟩,.append _ _⟩;have:=hS.mem.bl;dsimp only at this;rw[<- this,List.getElem?_append_right (Nat.le_refl _)];simp
theorem gJ.zero{sz:TypeId->Nat}{ti:TI}{z:Value}(h5:z.cells.toList.map wM=ti.zero)(h7:∀ v ∈ z.cells.toList,v.oneCell'=true):gJ sz V μ ω z.cells ti.zero:=by
 refine⟨by rw[<- h5];simp,h7,fun j v d hv hd=>?_⟩;rw[<- h5] at hd;simp only[aN,Array.getElem?_toList,hv,Option.map_some,Option.some.injEq] at hd;subst hd;exact .imm _ _ (DU v)
theorem gJ.vZ{sz:TypeId->Nat}{t:TypeId}{vs:Array Value}{z:List D}(h:gJ sz V μ ω vs z):gJ sz V μ ω vs (vZ t z):=by
 unfold Go.Vx.vZ;split
 . refine⟨h.size,h.one,fun j v d hv hd=>?_⟩
   cases j with
   | zero=>
    simp only[List.getElem?_cons_zero,Option.some.injEq] at hd;subst hd;have:=h.rel 0 v .iq hv rfl
    cases this with
    | imm _ _ hr=>cases hr;exact .imm _ _ (.kM t)
   | succ j=>exact h.rel (j+1) v d hv hd
 . exact h
theorem U7(hS:Sim (ah T) w0 V0 V μ ω s a w){i off:Nat}{v:Value}{us:Array Value}{ds cs:List D}(hv:RS (ah T) V μ ω v (.bp i off))(hu:gJ (ah T) V μ ω us ds)(hcs:s.box[i]? = some cs)
    (hle:off+ds.length<=cs.length)(hnb:noB (setCells cs off ds)=true):∃ p w',v = .pointer (some p)/\(storeCells p us.toList).run P w = .ok () w'/\Sim (ah T) w0 V0 V μ ω ⟨s.env,s.box.set i (setCells cs off ds),s.row,s.n⟩ a w'/\Step (.box i) V μ ω w V μ ω w':=by
 obtain⟨g,hg,rfl⟩:=hv.bp_;obtain⟨vs,t,hh,hs,ho,hR,_⟩:=hS.mem.hbox i g cs hg hcs;have hA:gJ (ah T) V μ ω vs cs:=⟨hs,ho,hR⟩;have hst:=run_storeCells_at P g off t us.toList 0 vs w hh (by rw[Nat.add_zero,Array.length_toList,hu.size,hs];exact hle) hu.one;rw[Nat.add_zero] at hst;refine⟨_,_,rfl,hst,⟨hS.tmps,hS.defers.setRow hh _,hS.env,?_⟩,Step.setRow fun e=>hg⟩;exact hS.mem.abb hg (aK.1 hcs).1 (hA.splice hu hle) (E5 hnb)
theorem L6(P:Program)(g o:Nat)(t:TypeId)(fz:Nat × Nat):∀ (vs:List Value) (i:Nat) (cur:Array Value) (w:World),w.heap[g]? = some (.cells cur t fz)->(fz=(0,0)\/cur.size<=fz.1)->o+i+vs.length<=cur.size->(∀ v ∈ vs,v.oneCell'=true) ->
    (storeCells ⟨g,o,none⟩ vs i).run P w = .ok () (w.setRow g (cur.toList.take (o+i)++vs++cur.toList.drop (o+i+vs.length)).toArray)
 | [],i,cur,w,hg,_,_,_=>by
  simp only[storeCells,List.append_nil,List.length_nil,Nat.add_zero,List.take_append_drop,Array.toArray_toList];rw[setRow_self w g cur t fz hg];rfl
 | v :: rest,i,cur,w,hg,hfz,hl,h1=>by
  have hi:o+i<cur.size:=by simp at hl;omega
  have hadd:(⟨g,o,none⟩:Addr).add i=⟨g,o+i,none⟩:=by unfold Addr.add;split<;>simp_all
  have hcell:w.cell? ⟨g,o+i,none⟩=some cur[o+i]:=by simp[World.cell?,hg,hi]
  have hfro:w.frozen? ⟨g,o+i,none⟩=false:=by
   obtain⟨lo,hi'⟩:=fz;simp only[World.frozen?,hg,Bool.and_eq_false_iff,decide_eq_false_iff_not];rcases hfz with h|h
   . cases h;right;omega
   . left;dsimp only at h;omega
  have hst:(store ((⟨g,o,none⟩:Addr).add i) v).run P w = .ok () (w.setRow g (cur.setIfInBounds (o+i) v)):=by
   rw[hadd,run_store P w _ v _ (h1 v sI),hcell];simp[hfro,setCell_eq_setRow w g (o+i) cur t fz v hg]
  have ih:=L6 P g o t fz rest (i+1) (cur.setIfInBounds (o+i) v) (w.setRow g (cur.setIfInBounds (o+i) v)) (setRow_heap w g cur _ t _ hg) (by simpa using hfz) (by simp at hl ⊢;omega) (fun x hx=>h1 x (by simp[hx]));simp only[storeCells,Sem.run_bind,hst,Result.andThen_ok,ih,setRow_setRow];congr 3;have e:=list_seg_step cur.toList (o+i) v rest (by simp at hl ⊢;omega);simpa[Array.toList_setIfInBounds,Nat.add_assoc] using e
theorem Gz(hS:Sim (ah T) w0 V0 V μ ω s a w){r j off:Nat}{e:TypeId}{v:Value}{us:List Value}{ds rw_:List D}{xs:List (List D)}(hv:RS (ah T) V μ ω v (.op r e j off))(hu:rW (ah T) V us ds)
    (hr:s.row[r]? = some (some (e,xs)))(hj:xs[j]? = some rw_)(hle:off+ds.length<=rw_.length) :
    ∃ p w',v = .pointer (some p)/\(storeCells p us).run P w = .ok () w'/\Sim (ah T) w0 V0 V μ ω ⟨s.env,s.box,s.row.set r (some (e,xs.set j (setCells rw_ off ds))),s.n⟩ a w'/\Step (.row r) V μ ω w V μ ω w':=by
 obtain⟨g,N,c,hω,rfl⟩:=hv.op_;obtain⟨A,c',vals,he,hc,hm,hA,hA2,hown,hR⟩:=hS.mem.qL hω hr;have hjl:j<xs.length:=(aK.1 hj).1;have hrl:=hR.len j rw_ hj;cases he;rcases hown.2 with⟨hnil,_⟩|⟨g',cap,cur,e',fz,he,hbase,hh,h5,h6,h7,h8,h9⟩
 . cases hnil
 cases he;have hj1:(j+1)*ah T e<=xs.length*ah T e:=Nat.mul_le_mul_right _ hjl;rw[Nat.add_mul,Nat.one_mul] at hj1;have ac2:xs.length*ah T e<=c*ah T e:=Nat.mul_le_mul_right _ h5;have hvl:vals.length=xs.length*ah T e:=hown.1;have hus:=hu.size;have hfit:j*ah T e+off+us.length<=cur.size:=by rw[h7];omega
 have Bo:j*ah T e+off+us.length<=vals.length:=oA;have hst:=L6 P g (j*ah T e+off) e' fz us 0 cur w hh (h9.elim (fun h=>.inl h.2) fun h=>.inr h.2) oA hu.one;rw[Nat.add_zero] at hst;refine⟨_,_,rfl,hst,⟨hS.tmps,hS.defers.setRow hh _,hS.env,?_⟩,Step.setRow fun e=>⟨_,hω,rfl⟩⟩;have hωs:ω.set r (.slice (some ⟨g,0,none⟩) xs.length c)=ω:=by
  apply List.ext_getElem?;intro q;by_cases hq:q=r
  . subst hq;rw[List.getElem?_set_self (aK.1 hω).1,hω]
  . rw[List.getElem?_set_ne (Ne.symm hq)]
 -- the cells,after
 have hM:=hS.mem.Jl (w':=w.setRow g (cur.toList.take (j*ah T e+off)++us++cur.toList.drop (j*ah T e+off+us.length)).toArray) (v':=.slice (some ⟨g,0,none⟩) xs.length c) (e:=e) (ys:=xs.set j (setCells rw_ off ds))
  (vals:=vals.take (j*ah T e+off)++us++vals.drop (j*ah T e+off+us.length)) hω hr
  ⟨rfl,rfl,rfl,sI,fun k _ hk=>setRow_other w g k _ (fun e=>hk (by simp[Value.ownBlock,e]))⟩ ?_ ?_ (.inl rfl) (eU:=s.box) rfl ?_ (fun i cs cs' h1 h2 t h=>by rw[h1] at h2;cases h2;exact h)
 . rw[hωs] at hM
   exact hM
 . refine⟨by rw[Dp Bo,List.length_set,hvl],.inr ⟨g,c,_,e',fz,by rw[List.length_set],hbase,setRow_heap w g cur _ e' _ hh,by rw[List.length_set];exact h5,h6,by rw[List.size_toArray,Dp (by rw[Array.length_toList];exact hfit),Array.length_toList,h7],?_,h9.imp (fun h=>h) fun h=>⟨h.1,by rw[List.size_toArray,Dp (by rw[Array.length_toList];exact hfit),Array.length_toList];exact h.2⟩⟩⟩
   rw[List.length_set];apply List.ext_getElem?;intro q;rw[vk Bo,List.getElem?_take];by_cases hq0:q<xs.length*ah T e
   . rw[if_pos hq0,vk (by rw[Array.length_toList];exact hfit)]
     split
     . rfl
     . rw[<- h8,List.getElem?_take_of_lt hq0]
   . rw[if_neg hq0,if_neg oA,List.getElem?_eq_none oA]
 . refine⟨fun u hu'=>?_,fun i rw2 h=>?_,fun i rw2 k d h1 h2=>?_⟩
   . simp only[bQ] at hu'
     rcases hu' with (h|h)|h
     . exact hR.one u (List.mem_of_mem_take h)
     . exact hu.one u h
     . exact hR.one u (List.mem_of_mem_drop h)
   . by_cases hi:i=j
     . subst hi
       rw[List.getElem?_set_self hjl] at h;cases h;rw[MI hle];exact hrl
     . rw[List.getElem?_set_ne (Ne.symm hi)] at h
       exact hR.len i rw2 h
   . by_cases hi:i=j
     . subst hi
       rw[List.getElem?_set_self hjl] at h1;cases h1;rw[MH hle] at h2;split at h2
       . rename_i hc
         have hlt:k - off<us.length:=oA;refine⟨us[k - off],?_,hu.rel _ _ d (aC hlt) h2⟩;rw[vk Bo,if_pos oA,show i*ah T e+k - (i*ah T e+off)=k - off by omega];exact aC hlt
       . rename_i hc
         obtain⟨u,h3,h4⟩:=hR.rel i rw_ k d hj h2;exact⟨u,by rw[vk Bo,if_neg oA];exact h3,h4⟩
     . rw[List.getElem?_set_ne (Ne.symm hi)] at h1
       obtain⟨u,h3,h4⟩:=hR.rel i rw2 k d h1 h2;refine⟨u,?_,h4⟩;have hk:k<ah T e:=by rw[<- hR.len i rw2 h1];exact (aK.1 h2).1
       rw[vk Bo,if_neg]
       . exact h3
       . rcases Nat.lt_or_gt_of_ne hi with hlt|hgt
         . have:(i+1)*ah T e<=j*ah T e:=Nat.mul_le_mul_right _ hlt
           rw[Nat.add_mul,Nat.one_mul] at this;omega
         . have:(j+1)*ah T e<=i*ah T e:=Nat.mul_le_mul_right _ hgt
           rw[Nat.add_mul,Nat.one_mul] at this;omega
 . intro i cs cs' h1 h2
   rw[h1] at h2;cases h2;refine⟨rfl,fun k u d d' e1 e2 h=>?_⟩;rw[e1] at e2;cases e2;rw[hωs];exact h
theorem Step.trans{E:Src}{w'':World}{V':Vw}{μ':List Nat}{ω':List Value}(h1:Step E V μ ω w V μ ω w')(h2:Step E V μ ω w' V' μ' ω' w''):Step E V μ ω w V' μ' ω' w'':=
 ⟨h2.vle,h2.pre,h2.row,fun q v hq hn=>h2.foot q v (h1.foot q v hq hn) hn⟩
theorem Vy{α:Type}(xs:List α)(k:Nat)(y:α)(ys:List α)(h:k<xs.length) :
    (xs.set k y).take (k+1)++ys++(xs.set k y).drop (k+1+ys.length)=xs.take k++(y :: ys)++xs.drop (k+(ys.length+1)):=by
 apply List.ext_getElem?;intro i;have hl:((xs.set k y).take (k+1)).length=k+1:=by rw[List.length_take,List.length_set];omega
 have hl2:(xs.take k).length=k:=by rw[List.length_take];omega
 rw[List.append_assoc,List.append_assoc];by_cases h1:i<k
 . rw[List.getElem?_append_left (l₁:=(xs.set k y).take (k+1)) oA,List.getElem?_append_left (l₁:=xs.take k) oA,List.getElem?_take_of_lt oA,List.getElem?_take_of_lt h1,List.getElem?_set_ne oA]
 by_cases h2:i=k
 . subst h2
   rw[List.getElem?_append_left (l₁:=(xs.set i y).take (i+1)) oA,List.getElem?_append_right (l₁:=xs.take i) oA,List.getElem?_take_of_lt oA,List.getElem?_set_self h,hl2,Nat.sub_self];rfl
 . rw[List.getElem?_append_right (l₁:=(xs.set k y).take (k+1)) oA,List.getElem?_append_right (l₁:=xs.take k) oA,hl,hl2]
   rw[show i - k=(i - (k+1))+1 by omega];show _=(y :: (ys++xs.drop (k+(ys.length+1))))[_+1]?;rw[List.getElem?_cons_succ];by_cases h3:i - (k+1)<ys.length
   . rw[List.getElem?_append_left h3,List.getElem?_append_left h3]
   . rw[List.getElem?_append_right oA,List.getElem?_append_right oA,List.getElem?_drop,List.getElem?_drop,List.getElem?_set_ne oA]
     congr 1;omega
theorem L8{g N c:Nat}{lo r:Nat}{e:TypeId}(h1:ah T e=1)(hω:ω[r]? = some (.slice (some ⟨g,0,none⟩) N c)):∀ (us:List Value) (ds:List D) (i:Nat) {xs:List (List D)} {s:St} {w:World},
    Sim (ah T) w0 V0 V μ ω s a w->rW (ah T) V us ds->s.row[r]? = some (some (e,xs))->lo+i+ds.length<=xs.length ->
    ∃ w',(storeCells ⟨g,lo,none⟩ us i).run P w = .ok () w'/\Sim (ah T) w0 V0 V μ ω ⟨s.env,s.box,s.row.set r (some (e,xs.take (lo+i)++ds.map (fun d=>[d])++xs.drop (lo+i+ds.length))),s.n⟩ a w'/\Step (.row r) V μ ω w V μ ω w'
 | [],ds,i,xs,s,w,hS,hu,hr,hle=>by
  obtain rfl:ds=[]:=List.eq_nil_of_length_eq_zero (by have:=hu.size;simpa using this.symm);refine⟨w,rfl,?_,⟨fun _ _ h=>h,.refl _,fun _ _ _ _ h=>h,fun _ _ h _=>h⟩⟩;have hs:s.row.set r (some (e,xs))=s.row:=by
   apply List.ext_getElem?;intro q;by_cases hq:q=r
   . subst hq;rw[List.getElem?_set_self (aK.1 hr).1,hr]
   . rw[List.getElem?_set_ne (Ne.symm hq)]
  simp only[List.map_nil,List.append_nil,List.length_nil,Nat.add_zero,List.take_append_drop,hs];exact hS
 | v :: us,[],i,xs,s,w,hS,hu,hr,hle=>by have:=hu.size;simp at this
 | v :: us,d :: ds,i,xs,s,w,hS,hu,hr,hle=>by
  simp only[List.length_cons] at hle;obtain⟨x,hx⟩:∃ x,xs[lo+i]? = some x:=⟨_,aC oA⟩;obtain⟨_,_,vals,_,_,_,_,_,_,hR⟩:=hS.mem.qL hω hr;have hxl:=hR.len _ _ hx;rw[h1] at hxl;have hu0:rW (ah T) V [v] [d]:=⟨rfl,fun x hx=>by rw[List.mem_singleton.1 hx];exact hu.one v sI,fun j u d' e1 e2=>by
   cases j with
   | zero=>exact hu.rel 0 u d' (by simpa using e1) (by simpa using e2)
   | succ j=>simp at e1⟩
  have hu1:rW (ah T) V us ds:=⟨by have:=hu.size;simpa using this,fun x hx=>hu.one x (by simp[hx]),fun j u d' e1 e2=>hu.rel (j+1) u d' (by simpa using e1) (by simpa using e2)⟩;obtain⟨p,w1,hp,hst,hS1,hstep⟩:=Gz (P:=P) (j:=lo+i) (off:=0) hS (RS.op r e (lo+i) 0 g _ _ hω) hu0 hr hx (by rw[hxl];simp);have hset:setCells x 0 [d]=[d]:=by
   unfold setCells;rw[List.take_zero,List.drop_eq_nil_of_le (by rw[hxl];simp)];rfl
  rw[hset] at hS1;have hpe:p=(⟨g,lo,none⟩:Addr).add i:=by
   injection hp with hp
   injection hp with hp
   rw[<- hp,h1];simp[Addr.add]
  have hr1:(s.row.set r (some (e,xs.set (lo+i) [d])))[r]? = some (some (e,xs.set (lo+i) [d])):=by rw[List.getElem?_set_self (aK.1 hr).1]
  obtain⟨w2,hst2,hS2,hstep2⟩:=L8 (lo:=lo) h1 hω us ds (i+1) (xs:=xs.set (lo+i) [d]) hS1 hu1 hr1 (by rw[List.length_set];omega);refine⟨w2,?_,?_,hstep.trans hstep2⟩
  . have h0:(store ((⟨g,lo,none⟩:Addr).add i) v).run P w = .ok () w1:=by
      rw[hpe] at hst;have:((⟨g,lo,none⟩:Addr).add i).add 0=(⟨g,lo,none⟩:Addr).add i:=by simp[Addr.add]
      simp only[storeCells,this] at hst;rw[Sem.run_bind] at hst;cases hq:(store ((⟨g,lo,none⟩:Addr).add i) v).run P w<;>rw[hq] at hst<;>simp[Result.andThen] at hst
      subst hst;rfl
    simp only[storeCells,Sem.run_bind,h0,Result.andThen_ok,hst2]
  . have hsp:=Vy xs (lo+i) [d] (ds.map fun d=>[d]) oA
    rw[bV] at hsp;rw[show lo+(i+1)=lo+i+1 by omega,List.set_set,hsp] at hS2;rw[List.map_cons,List.length_cons];exact hS2
end
end Go.Vx
namespace Go.Vx
open Go.RowKit
section
variable {w0 w w' : World} {V0 : Fr} {V : Vw} {μ : List Nat} {ω : List Value} {box : List (List D)} {row : Rows} {s : St} {a : Act} {P : Program} {T : Tab}
theorem gY.DZ{ds:List Deferred}(h:gY w0 V0 ds w)(hM:Mem (ah T) w0 V0 V μ ω box row w){r:Nat}{v:Value}{e:TypeId}{xs:List (List D)}(hω:ω[r]? = some v)(hr:row[r]? = some (some (e,xs)))
    (hg:w.grownBy w' v.ownBlock):gY w0 V0 ds w':=
 h.grown hg fun g e=>by
  obtain⟨vals,hown,_⟩:=hM.hrow r v _ _ hω hr;rcases hown.2 with⟨rfl,_⟩|⟨g',cap,cur,e',fz,rfl,_,hh,_⟩
  . cases e
  . cases e;exact⟨_,_,_,hh⟩
theorem Me(hS:Sim (ah T) w0 V0 V μ ω s a w)(he:Ext w w'){v:Value}{e:TypeId}{xs:List (List D)}{vals:List Value}{c m:Nat}{A:Option Addr}(hv:v = .slice A xs.length c)
    (hown:iD w' w0.heap.size e (ah T e) v xs.length vals)(hr:fU (ah T) V e vals xs)(hb:∀ g,v.ownBlock=some g->w.heap.size<=g)(hm:m=xs.length){K:D->St->Prop}
    (h:match s with|⟨env,box,row,n⟩=>gZ row (some (e,xs)) fun row'=>natLit row.length fun r=>K (.own r m) ⟨env,box,row',n⟩) :
    ∃ d s' ω',K d s'/\RS (ah T) V μ ω' v d/\Sim (ah T) w0 V0 V μ ω' s' a w'/\Pre ω ω':=by
 obtain⟨env,box,row,n⟩:=s;simp only[kY,kW] at h;have hM:=hS.mem.Q5 he hown hr hb;subst hm;refine⟨_,_,_,h,?_,⟨hS.tmps,hS.defers.ext he,fun t=>(hS.env t).mono (.refl V) (.refl μ) (.append _ _),hM⟩,.append _ _⟩;subst hv;have hl:row.length=ω.length:=hS.mem.rl.symm;refine .own row.length xs.length A xs.length c ?_ (Nat.le_refl _);rw[hl,List.getElem?_append_right (Nat.le_refl _)];simp
theorem GU(hS:Sim (ah T) w0 V0 V μ ω s a w)(he:Ext w w'){v:Value}{e:TypeId}{xs:List (List D)}{vals:List Value}{c m:Nat}{A:Option Addr}(hv:v = .slice A xs.length c)
    (hown:w'.ownsRow w0.heap.size e (ah T e) v xs.length vals)(hr:fU (ah T) V e vals xs)(hb:∀ g,v.ownBlock=some g->w.heap.size<=g)(hm:m=xs.length){K:D->St->Prop}
    (h:match s with|⟨env,box,row,n⟩=>gZ row (some (e,xs)) fun row'=>natLit row.length fun r=>K (.own r m) ⟨env,box,row',n⟩) :
    ∃ d s' ω',K d s'/\RS (ah T) V μ ω' v d/\Sim (ah T) w0 V0 V μ ω' s' a w'/\Pre ω ω':=Me hS he hv (.of hown) hr hb hm h
theorem Ie{size len:Nat}:∀ (vs:List Value) (i:Nat) (cs:Array Value),cs.size=len*size->i+vs.length<=len->(∀ v ∈ vs,v.cells.size=size) ->
    ∃ us,Instr.fill (fun i=>some (i*size,size)) cs ((List.range' i vs.length).zip vs)=some us/\us.size=len*size/\(∀ k,k<i*size->us[k]? = cs[k]?) /\
     ∀ (j:Nat) v (c:Nat),vs[j]? = some v->c<size->us[(i+j)*size+c]? = v.cells[c]?
 | [],i,cs,hs,_,_=>⟨cs,rfl,hs,fun _ _=>rfl,sI⟩
 | v :: vs,i,cs,hs,hl,hc=>by
  have hv:=hc v sI;have hle:(i+1)*size<=len*size:=Nat.mul_le_mul_right _ (by simp at hl;omega);rw[Nat.add_mul,Nat.one_mul] at hle;have e1:v.cells.zipIdx.foldl (fun cs (x:Value × Nat)=>cs.setIfInBounds (i*size+x.2) x.1) cs=((v.cells.toList.zipIdx 0).foldl (fun cs (x:Value × Nat)=>cs.setIfInBounds (i*size+x.2) x.1) cs):=by
   rw[<- Array.foldl_toList,Array.toList_zipIdx]
  obtain⟨h1,h2⟩:=MQ v.cells.toList (i*size) 0 cs;obtain⟨us,h3,h4,h5,h6⟩:=Ie vs (i+1) (v.cells.zipIdx.foldl (fun cs (x:Value × Nat)=>cs.setIfInBounds (i*size+x.2) x.1) cs) (by rw[e1,h1,hs]) (by simp at hl ⊢;omega) (fun v hv=>hc v (by simp[hv]));refine⟨us,?_,h4,fun k hk=>?_,fun j u c hj hcs=>?_⟩
  . simp only[List.length_cons,List.range'_succ,List.zip_cons_cons,Instr.fill]
    rw[if_neg (by simp[hv,hs];omega)];exact h3
  . rw[h5 k (by rw[Nat.add_mul];omega),e1,h2 k,if_neg oA]
  . cases j with
    | zero=>
     simp only[List.getElem?_cons_zero,Option.some.injEq] at hj;subst hj;rw[Nat.add_zero,h5 _ (by rw[Nat.add_mul];omega),e1,h2,if_pos ⟨oA,by rw[Array.length_toList,hv];omega,by rw[hs];omega⟩];rw[show i*size+c - (i*size+0)=c by omega];simp
    | succ j=>
     have:=h6 j u c (by simpa using hj) hcs;rw[show i+1+j=i+(j+1) by omega] at this;exact this
theorem GV{sz:Nat}{e:TypeId}:∀ (ds:List D) (i:Nat) (vs:List Value) (K:List (List D)->Prop),vs.length=ds.length ->
    (∀ (j:Nat) v d,vs[j]? = some v->ds[j]? = some d->RS (ah T) V μ ω v d)->AL T e sz i ds K ->
    ∃ rows,K rows/\rows.length=vs.length/\(∀ v ∈ vs,v.cells.size=sz)/\∀ (j:Nat) v rw_,vs[j]? = some v->rows[j]? = some rw_->rW (ah T) V v.cells.toList rw_
 | [],i,vs,K,hl,hR,h=>by
  have:vs=[]:=List.eq_nil_of_length_eq_zero hl;subst this;exact⟨[],h,rfl,sI,sI⟩
 | d :: ds,i,[],K,hl,hR,h=>by simp at hl
 | d :: ds,i,v :: vs,K,hl,hR,h=>by
  simp only[AL] at h;obtain⟨cs,hag,h⟩:=CX (hR 0 v d rfl rfl) h;obtain⟨hcs,h⟩:=jJ h;obtain⟨es,h,hes⟩:=zG cs 0 v.cells.toList _ (by rw[Array.length_toList];exact hag.size) hag.one (fun j v d h1 h2=>hag.rel j v d (by simpa using h1) h2) h;obtain⟨rows,h,h1,h2,h3⟩:=GV ds (i+1) vs _ (by simpa using hl) (fun j v d h1 h2=>hR (j+1) v d (by simpa using h1) (by simpa using h2)) h;refine⟨es :: rows,h,by simp[h1],fun u hu=>?_,fun j u rw_ hj1 hj2=>?_⟩
  . rcases List.mem_cons.1 hu with rfl|hu
    . rw[hag.size];exact hcs
    . exact h2 u hu
  . cases j with
    | zero=>simp at hj1 hj2;subst hj1 hj2;exact hes
    | succ j=>exact h3 j u rw_ (by simpa using hj1) (by simpa using hj2)
theorem IJ:∀ {l:List Nat} {i:Nat} {p:Prop},uK i l p->l=List.range' i l.length/\p
 | [],i,p,h=>⟨rfl,h⟩
 | j :: l,i,p,h=>by
  simp only[uK] at h;obtain⟨he,h0⟩:=jJ h;subst he;obtain⟨h1,h2⟩:=IJ h0;refine⟨?_,h2⟩;rw[List.length_cons,List.range'_succ,<- h1]
theorem Ns{e:TypeId}{us:Array Value}{vs:List Value}{rows:List (List D)}{size:Nat}(hsz:ah T e=size)(hs:us.size=vs.length*size)(hl:rows.length=vs.length)(hc:∀ v ∈ vs,v.cells.size=size)
    (hu:∀ (j:Nat) v (c:Nat),vs[j]? = some v->c<size->us[(0+j)*size+c]? = v.cells[c]?)
    (hr:∀ (j:Nat) v rw_,vs[j]? = some v->rows[j]? = some rw_->rW (ah T) V v.cells.toList rw_):fU (ah T) V e us.toList rows:=by
 have hget:∀ i rw_,rows[i]? = some rw_->∃ v,vs[i]? = some v:=fun i rw_ h=>⟨_,aC (by rw[<- hl];exact (aK.1 h).1)⟩
 refine⟨fun u hu'=>?_,fun i rw_ h=>?_,fun i rw_ j d h1 h2=>?_⟩
 . obtain⟨k,hk⟩:=List.getElem?_of_mem hu'
   have hkl:k<vs.length*size:=by rw[<- hs];simpa using (aK.1 hk).1
   have hz:0<size:=by
    rcases Nat.eq_zero_or_pos size with h0|h0
    . rw[h0] at hkl;simp at hkl
    . exact h0
   have h1:k / size<vs.length:=Nat.div_lt_of_lt_mul (by rw[Nat.mul_comm];exact hkl);have h2:=Nat.mod_lt k hz;have h3:(0+k / size)*size+k % size=k:=by
    have:=Nat.div_add_mod k size;rw[Nat.zero_add,Nat.mul_comm];exact this
   have h4:=hu _ _ (k % size) (aC h1) h2;rw[h3] at h4;rw[Array.getElem?_toList,h4] at hk;have hrl:k / size<rows.length:=by rw[hl];exact h1
   have:=hr _ _ _ (aC h1) (aC hrl);exact this.one u (by rw[<- Array.getElem?_toList] at hk;exact aU hk)
 . obtain⟨v,hv⟩:=hget i rw_ h
   have:=(hr i v rw_ hv h).size;rw[<- this,Array.length_toList,hc v (aU hv),hsz]
 . obtain⟨v,hv⟩:=hget i rw_ h1
   have ha:=hr i v rw_ hv h1;have hj:j<v.cells.toList.length:=by rw[ha.size];exact (aK.1 h2).1
   have h3:=hu i v j hv (by rw[Array.length_toList,hc v (aU hv)] at hj;exact hj);rw[Nat.zero_add] at h3;refine⟨v.cells.toList[j],?_,ha.rel j _ d (aC hj) h2⟩;rw[hsz,Array.getElem?_toList,h3,<- Array.getElem?_toList];exact aC hj
theorem zD(hS:Sim (ah T) w0 V0 V μ ω s a w){y:D}{v:Value}{K:TypeId->List (List D)->Prop}(hv:RS (ah T) V μ ω v y)(h:rowsOf s.row y K) :
    ∃ e ys A c vals,K e ys/\JJ (ah T) V w e v ys A c vals:=by
 unfold rowsOf at h;split at h
 . obtain⟨A,c,vals,hr⟩:=Xg hS.mem.vok hv
   exact⟨_,_,A,c,vals,h,hr⟩
 . split at h
   case h_2=>exact h.elim
   rename_i e xs hr;obtain⟨hm,ys,hy,h⟩:=h;obtain⟨A,c,vals,hrd⟩:=Xh hS.mem hv hr hm hy;exact⟨_,_,A,c,vals,h,hrd⟩
 . exact h.elim
theorem Q9(hT:TOk P T){t:TypeId}{p:Prop}(h:slE T t p):(∃ e ti,P.underlying t=some (.slice e)/\T e=some ti)/\p:=by
 unfold slE at h;split at h
 case h_2=>exact h.elim
 rename_i e z hti;split at h
 case h_2=>exact h.elim
 rename_i ti hte;exact⟨⟨e,ti,(hT _ _ hti).kind,hte⟩,h⟩
end
end Go.Vx
