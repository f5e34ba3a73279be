/- The walks and the plain laws that a law of spaces needs, part 4 of 7. -/
import Derived.Test.YtaiondckookpiaaGreatDoorQEC
import Derived.Test.YtaiondckookpiaaGreatDoorProg
import Derived.KernelRfl
import Derived.Shelf.GgSortFunc.Tiny
import Derived.Shelf.Strings.Builder1
import Derived.Shelf.Strings.Split
import Derived.Ground.GgsProg
import Derived.Shelf.SlSortFuncK.WholeK
import Derived.Deep.QuietTactic
import Derived.Lib.RowBridge
import Derived.Lib.SortBridge
set_option linter.unusedVariables false
set_option linter.unusedSimpArgs false
namespace Go.Proofs.YtaiondckookpiaaGreatDoor
open Go Go.Vx
theorem wof_zero{f:Nat->Bool}{k:Nat}(h:((wof f k).toNat:Int)=0)(i:Nat)(hi:i<64):f (64*k+i)=false:=by
 rw[<- wof_get f k i hi]
 cases hb:(wof f k).getLsbD i
 . rfl
 . exact absurd h (word_nz.2 ⟨i,hi,hb⟩)
theorem wof_nz{f:Nat->Bool}{k:Nat}(h:¬ ((wof f k).toNat:Int)=0):∃ i,f i=true:=by
 obtain⟨i,hi,hb⟩:=word_nz.1 h
 exact⟨_,by rw[wof_get _ _ _ hi] at hb;exact hb⟩
theorem no_cfl{c d:Str}(hc:CT c)(h:∀ k,k<4->((wof (cfl c d) k).toNat:Int)=0)(i:Nat):cfl c d i=false:=by
 by_cases hi:i<256
 . obtain⟨q,r,rfl,hr,hq⟩:=split64 i hi
   exact wof_zero (h q (by omega)) r hr
 . unfold cfl
   have:=(at_out (t:=c) (i:=i) (by have:=hc.len;omega)).1
   rw[this]
   simp
theorem inT_meet{c d:Str}:inT c d ↔ meetT c d=some c:=by
 unfold inT
 constructor
 . rintro⟨h1,h2⟩
   rw[meetT_eq h1]
   exact meetL_self.2 h2
 . intro h
   have hne:c ≠ []:=fun e=>by rw[e] at h;simp[meetT] at h
   rw[meetT_eq hne] at h
   exact⟨hne,meetL_self.1 h⟩
def mw(w:Nat)(f g:Nat->Bool)(k:Nat):BitVec 64:=if k<w then wof f k ||| wof g k else wof f k
@[reducible] def mcells(n w:Nat)(c d:Str):List D:=[.i .i64 (n:Int),.i .u64 ((mw w (car c) (car d) 0).toNat:Int),.i .u64 ((mw w (car c) (car d) 1).toNat:Int),.i .u64 ((mw w (car c) (car d) 2).toNat:Int),.i .u64 ((mw w (car c) (car d) 3).toNat:Int),.i .u64 ((mw w (one c) (one d) 0).toNat:Int),.i .u64 ((mw w (one c) (one d) 1).toNat:Int),.i .u64 ((mw w (one c) (one d) 2).toNat:Int),.i .u64 ((mw w (one c) (one d) 3).toNat:Int)]
theorem mcells_end{c d m:Str}(hl:m.length=c.length)(h1:∀ i,car m i=(car c i || car d i))(h2:∀ i,one m i=(one c i || one d i)):mcells c.length 4 c d=crow m:=by
 simp only[mcells,crow,cells9,mw,wof_or h1,wof_or h2,hl]
 rfl
end Go.Proofs.YtaiondckookpiaaGreatDoor
namespace Go.Proofs.YtaiondckookpiaaGreatDoor
open Go Go.Vx
section
variable {α : Type} {R : α → α → Prop}
theorem grG_take{l:List α}{i:Nat}{x:α}(h:l[i]? = some x):grG R (l.take (i+1))=addG R (grG R (l.take i)) x:=by
 unfold grG
 rw[List.take_add_one,h]
 simp
theorem addG_in{k:List α}{x:α}(h:∃ y ∈ k,R x y):addG R k x=k:=by
 unfold addG
 rw[if_pos h]
open Classical in
theorem addG_out{k:List α}{x:α}(h:∀ y ∈ k,¬ R x y):addG R k x=k.filter (fun y=>decide (¬ R y x))++[x]:=by
 unfold addG
 rw[if_neg fun⟨y,hy,hxy⟩=>h y hy hxy]
theorem filter_take{p:α->Bool}{k:List α}{j:Nat}{y:α}(h:k[j]? = some y):(k.take (j+1)).filter p=(k.take j).filter p++(if p y then [y] else []):=by
 rw[List.take_add_one,h,List.filter_append]
 congr 1
 cases hp:p y<;>simp[hp]
structure Kept(R:α->α->Prop)(l:List α)(i:Nat)(W:List α):Prop where
 le:i<=l.length
 tk:W.take (grG R (l.take i)).length=grG R (l.take i)
 n:(grG R (l.take i)).length<=W.length
 w:W.length<=i
theorem Kept.zero{l:List α}:Kept R l 0 []:=⟨Nat.zero_le _,by simp[grG],by simp[grG],by simp⟩
theorem Kept.get{l:List α}{i:Nat}{W:List α}(h:Kept R l i W){j:Nat}(hj:j<(grG R (l.take i)).length):W[j]? = (grG R (l.take i))[j]?:=by
 have:=congrArg (fun z:List α=>z[j]?) h.tk
 simp only[List.getElem?_take,if_pos hj] at this
 exact this
theorem Kept.skip{l:List α}{i:Nat}{W:List α}(h:Kept R l i W){x:α}(hx:l[i]? = some x)(hy:∃ y ∈ grG R (l.take i),R x y):Kept R l (i+1) W/\grG R (l.take (i+1))=grG R (l.take i):=by
 have e:grG R (l.take (i+1))=grG R (l.take i):=by rw[grG_take hx,addG_in hy]
 have:=(List.getElem?_eq_some_iff.1 hx).1
 exact⟨⟨by omega,by rw[e];exact h.tk,by rw[e];exact h.n,by have:=h.w;omega⟩,e⟩
open Classical in
/-- Those of the first j that are not below x. -/
noncomputable def leftOf(R:α->α->Prop)(k:List α)(x:α)(j:Nat):List α:=(k.take j).filter (fun y=>decide (¬ R y x))
theorem leftOf_step_keep{k:List α}{x y:α}{j:Nat}(h:k[j]? = some y)(hy:¬ R y x):leftOf R k x (j+1)=leftOf R k x j++[y]:=by
 unfold leftOf
 rw[filter_take h]
 simp[hy]
theorem leftOf_step_drop{k:List α}{x y:α}{j:Nat}(h:k[j]? = some y)(hy:R y x):leftOf R k x (j+1)=leftOf R k x j:=by
 unfold leftOf
 rw[filter_take h]
 simp[hy]
theorem leftOf_le(k:List α)(x:α)(j:Nat):(leftOf R k x j).length<=j:=by
 unfold leftOf
 refine Nat.le_trans (List.length_filter_le _ _) ?_
 simp
 omega
structure Mid(R:α->α->Prop)(k:List α)(x:α)(W0:List α)(j:Nat)(W:List α):Prop where
 le:j<=k.length
 len:W.length=W0.length
 tk:W.take (leftOf R k x j).length=leftOf R k x j
 beh:∀ i,j<=i->W[i]? = W0[i]?
theorem Mid.zero{k W0:List α}{x:α}:Mid R k x W0 0 W0:=⟨Nat.zero_le _,rfl,by simp[leftOf],fun _ _=>rfl⟩
theorem Mid.drop{k W0 W:List α}{x y:α}{j:Nat}(h:Mid R k x W0 j W)(hy:k[j]? = some y)(hR:R y x):Mid R k x W0 (j+1) W/\leftOf R k x (j+1)=leftOf R k x j:=by
 have e:=leftOf_step_drop hy hR
 have:=(List.getElem?_eq_some_iff.1 hy).1
 exact⟨⟨by omega,h.len,by rw[e];exact h.tk,fun i hi=>h.beh i (by omega)⟩,e⟩
theorem take_set_end{W:List α}{m:Nat}{F:List α}{y:α}(hm:F.length=m)(h:W.take m=F)(hl:m<W.length):(W.set m y).take (m+1)=F++[y]:=by
 rw[List.take_add_one,List.getElem?_set_self hl,List.take_set]
 rw[h,List.set_eq_of_length_le (by omega)]
 rfl
theorem Mid.keep{k W0 W:List α}{x y:α}{j:Nat}(h:Mid R k x W0 j W)(hkw:k.length<=W0.length)(hy:k[j]? = some y)(hR:¬ R y x) :
    Mid R k x W0 (j+1) (W.set (leftOf R k x j).length y)/\leftOf R k x (j+1)=leftOf R k x j++[y]/\(leftOf R k x j).length<W.length:=by
 have e:=leftOf_step_keep hy hR
 have hj:=(List.getElem?_eq_some_iff.1 hy).1
 have hle:=leftOf_le (R:=R) k x j
 have hlt:(leftOf R k x j).length<W.length:=by rw[h.len];omega
 refine⟨⟨by omega,by simp[h.len],?_,fun i hi=>?_⟩,e,hlt⟩
 . rw[e,List.length_append]
   exact take_set_end rfl h.tk hlt
 . rw[List.getElem?_set_ne (by omega)]
   exact h.beh i (by omega)
theorem Mid.get{k W0 W:List α}{x:α}{j:Nat}(h:Mid R k x W0 j W)(h0:W0.take k.length=k)(hj:j<k.length):W[j]? = k[j]?:=by
 rw[h.beh j (Nat.le_refl _)]
 have:=congrArg (fun z:List α=>z[j]?) h0
 simp only[List.getElem?_take,if_pos hj] at this
 exact this
theorem leftOf_all(k:List α)(x:α)(h:∀ y ∈ k,¬ R x y):leftOf R k x k.length++[x]=addG R k x:=by
 rw[addG_out h]
 unfold leftOf
 rw[List.take_length]
theorem Kept.step{l:List α}{i:Nat}{W W':List α}{x:α}(h:Kept R l i W)(hx:l[i]? = some x)(hno:∀ y ∈ grG R (l.take i),¬ R x y)(hW:Mid R (grG R (l.take i)) x W (grG R (l.take i)).length W') :
    grG R (l.take (i+1))=leftOf R (grG R (l.take i)) x (grG R (l.take i)).length++[x] /\
    ((leftOf R (grG R (l.take i)) x (grG R (l.take i)).length).length<W'.length->Kept R l (i+1) (W'.set (leftOf R (grG R (l.take i)) x (grG R (l.take i)).length).length x)) /\
    ((leftOf R (grG R (l.take i)) x (grG R (l.take i)).length).length=W'.length->Kept R l (i+1) (W'++[x])):=by
 have e:grG R (l.take (i+1))=leftOf R (grG R (l.take i)) x (grG R (l.take i)).length++[x]:=by rw[grG_take hx,leftOf_all _ _ hno]
 have hi:=(List.getElem?_eq_some_iff.1 hx).1
 have hw:=h.w
 have hlw:=hW.len
 refine⟨e,fun hlt=>⟨by omega,?_,?_,by simp;omega⟩,fun heq=>⟨by omega,?_,?_,by simp;omega⟩⟩
 . rw[e,List.length_append]
   exact take_set_end rfl hW.tk hlt
 . rw[e,List.length_append]
   simp
   omega
 . rw[e,List.length_append]
   have:=hW.tk
   rw[heq,List.take_length] at this
   rw[heq,<- this]
   exact List.take_of_length_le (by simp)
 . rw[e,List.length_append]
   simp
   omega
end
end Go.Proofs.YtaiondckookpiaaGreatDoor
namespace Go.Proofs.YtaiondckookpiaaGreatDoor
open Go Go.Vx
theorem metL_app(p:Str)(a b:List Str):metL p (a++b)=metL p a++metL p b:=by simp[metL]
theorem metL_none{p m:Str}(h:meetT m p=none):metL p [m]=[]:=by simp[metL,h]
theorem metL_some{p m c:Str}(h:meetT m p=some c):metL p [m]=[c]:=by simp[metL,h]
theorem metL_le(p:Str)(a:List Str):(metL p a).length<=a.length:=by
 unfold metL
 exact List.length_filterMap_le _ _
theorem perm_map_ex{α β:Type}{f:α->β}:∀ {ys m:List β},ys.Perm m->∀ l:List α,m=l.map f->∃ zs:List α,zs.Perm l/\ys=zs.map f:=by
 intro ys m h
 induction h with
 | nil=>intro l hl;exact⟨l,.refl l,hl⟩
 | cons x h ih=>
  intro l hl
  cases l with
  | nil=>cases hl
  | cons a l=>
   simp only[List.map_cons,List.cons.injEq] at hl
   obtain⟨zs,h1,h2⟩:=ih l hl.2
   exact⟨a :: zs,h1.cons a,by rw[List.map_cons,<- hl.1,h2]⟩
 | swap x y r=>
  intro l hl
  match l,hl with
  | a :: b :: l,hl=>
   simp only[List.map_cons,List.cons.injEq] at hl
   refine⟨b :: a :: l,.swap a b l,?_⟩
   rw[List.map_cons,List.map_cons,hl.1,hl.2.1,hl.2.2]
 | trans h1 h2 ih1 ih2=>
  intro l hl
  obtain⟨z1,a1,a2⟩:=ih2 l hl
  obtain⟨z2,b1,b2⟩:=ih1 z1 a2
  exact⟨z2,b1.trans a1,b2⟩
theorem flat_len{l:List Str}{n:Nat}(h:∀ x ∈ l,x.length<=n):l.flatten.length<=l.length*n:=by
 induction l with
 | nil=>simp
 | cons x l ih=>
  have:=ih fun y hy=>h y (by simp[hy])
  have:=h x (by simp)
  rw[List.flatten_cons,List.length_append,List.length_cons,Nat.add_mul]
  omega
theorem take_snoc{α:Type}{l:List α}{i:Nat}{x:α}(h:l[i]? = some x):l.take (i+1)=l.take i++[x]:=by
 rw[List.take_add_one,h];rfl
theorem over_set{α:Type}{ks W:List α}{i:Nat}{x:α}(h:ks[i]? = some x)(hl:ks.length<=W.length):(ks.take i++W.drop i).set i x=ks.take (i+1)++W.drop (i+1):=by
 have hi:=(List.getElem?_eq_some_iff.1 h).1
 rw[List.set_append,if_neg (by simp;omega),take_snoc h,List.append_assoc]
 congr 1
 rw[show i - (ks.take i).length=0 by simp;omega]
 rw[List.drop_eq_getElem_cons (show i<W.length by omega)]
 rfl
theorem over_at{α:Type}{ks W:List α}{i:Nat}(hi:i<ks.length)(hl:ks.length<=W.length):∃ y,(ks.take i++W.drop i)[i]? = some y:=by
 refine⟨W[i]'(by omega),?_⟩
 rw[List.getElem?_append_right (by simp;omega)]
 simp
 rw[show i - min i ks.length=0 by omega,Nat.add_zero]
 exact List.getElem?_eq_getElem _
theorem room_at2{α:Type}{ks:List α}{i n:Nat}(z:α)(hn:ks.length=n)(hi:i<n):(ks.take i++List.replicate (n - i) z)[i]? = some z:=by
 rw[List.getElem?_append_right (by simp;omega)]
 simp[List.getElem?_replicate]
 omega
theorem room_set2{α:Type}{ks:List α}{i n:Nat}{z x:α}(hn:ks.length=n)(h:ks[i]? = some x):(ks.take i++List.replicate (n - i) z).set i x=ks.take (i+1)++List.replicate (n - (i+1)) z:=by
 have hi:=(List.getElem?_eq_some_iff.1 h).1
 rw[List.set_append,if_neg (by simp;omega),take_snoc h,List.append_assoc]
 congr 1
 rw[show i - (ks.take i).length=0 by simp;omega,show n - i=(n - (i+1))+1 by omega,List.replicate_succ]
 rfl
theorem set_set_same{α:Type}(l:List α)(i:Nat)(x y:α):(l.set i x).set i y=l.set i y:=by simp
end Go.Proofs.YtaiondckookpiaaGreatDoor
namespace Go.Proofs.YtaiondckookpiaaGreatDoor
open Go Go.Vx
theorem meetL_snoc:∀ {c d:Str} {a b:UInt8},c.length=d.length->meetL (c++[a]) (d++[b])=match meetL c d,meet1 a b with|some m,some x=>some (m++[x])|_,_=>none
 | [],[],a,b,_=>by
  cases h:meet1 a b<;>simp[meetL,h]
 | [],_ :: _,_,_,h=>by simp at h
 | _ :: _,[],_,_,h=>by simp at h
 | x :: c,y :: d,a,b,h=>by
  have ih:=meetL_snoc (c:=c) (d:=d) (a:=a) (b:=b) (by simpa using h)
  simp only[List.cons_append,meetL,ih]
  cases meet1 x y<;>cases meetL c d<;>cases meet1 a b<;>simp
theorem meetL_step{c d m:Str}{i:Nat}{a b x:UInt8}(ha:c[i]? = some a)(hb:d[i]? = some b)(hm:meetL (c.take i) (d.take i)=some m)(hx:meet1 a b=some x):meetL (c.take (i+1)) (d.take (i+1))=some (m++[x]):=by
 have h1:=(List.getElem?_eq_some_iff.1 ha).1
 have h2:=(List.getElem?_eq_some_iff.1 hb).1
 rw[take_snoc ha,take_snoc hb,meetL_snoc (by simp;omega),hm,hx]
theorem meetL_stop{c d:Str}{i:Nat}{a b:UInt8}(ha:c[i]? = some a)(hb:d[i]? = some b)(hx:meet1 a b=none):meetL c d=none:=by
 cases h:meetL c d with
 | none=>rfl
 | some m=>
  obtain⟨x,_,h2⟩:=meetL_get h i a b ha hb
  rw[hx] at h2
  cases h2
theorem inL_iff:∀ {c d:Str},inL c d ↔ c.length=d.length/\∀ (i:Nat) a b,c[i]? = some a->d[i]? = some b->b=120\/b=a
 | [],[]=>by simp[inL]
 | [],_ :: _=>by simp[inL]
 | _ :: _,[]=>by simp[inL]
 | a :: c,b :: d=>by
  simp only[inL,inL_iff (c:=c) (d:=d),List.length_cons,Nat.add_right_cancel_iff]
  constructor
  . rintro⟨h1,h2,h3⟩
    refine⟨h2,fun i x y hx hy=>?_⟩
    cases i with
    | zero=>simp at hx hy;subst hx hy;exact h1
    | succ i=>exact h3 i x y (by simpa using hx) (by simpa using hy)
  . rintro⟨h2,h3⟩
    exact⟨h3 0 a b rfl rfl,h2,fun i x y hx hy=>h3 (i+1) x y (by simpa using hx) (by simpa using hy)⟩
theorem fill2_at{m:Str}{i n:Nat}(hm:m.length=i)(hi:i<n):(m++List.replicate (n - i) (0:UInt8))[i]? = some 0:=by
 rw[List.getElem?_append_right (by omega)]
 simp[List.getElem?_replicate]
 omega
theorem fill2_set{m:Str}{i n:Nat}{b y:UInt8}(hm:m.length=i)(hi:i<n):((m++List.replicate (n - i) (0:UInt8)).set i y).set i b=(m++[b])++List.replicate (n - (i+1)) 0:=by
 rw[List.set_set,List.set_append,if_neg (by omega),show n - i=(n - (i+1))+1 by omega,List.replicate_succ,show i - m.length=0 by omega,List.set_cons_zero]
 simp
theorem fill2_set1{m:Str}{i n:Nat}{b:UInt8}(hm:m.length=i)(hi:i<n):(m++List.replicate (n - i) (0:UInt8)).set i b=(m++[b])++List.replicate (n - (i+1)) 0:=by
 have:=fill2_set (b:=b) (y:=b) hm hi
 rwa [List.set_set] at this
open Classical in
theorem putG_in{α:Type}{R L:α->α->Prop}{k:List α}{c:α}(h:∃ y ∈ k,R c y):putG R L k c=k:=by
 unfold putG
 rw[if_pos h]
open Classical in
noncomputable def nb{α:Type}(R:α->α->Prop)(c:α)(l:List α):List α:=l.filter fun x=>decide (¬ R x c)
structure PutSt{α:Type}(R L:α->α->Prop)(k:List α)(c:α)(i:Nat)(m:List α)(done:Prop):Prop where
 yes:done->m=insG L c (nb R c (k.take i))/\∃ x ∈ nb R c (k.take i),L c x
 no:¬ done->m=nb R c (k.take i)/\∀ x ∈ nb R c (k.take i),¬ L c x
open Classical in
theorem insG_end{α:Type}{L:α->α->Prop}{c:α}:∀ {l:List α},(∀ x ∈ l,¬ L c x)->insG L c l=l++[c]
 | [],_=>rfl
 | x :: l,h=>by
  unfold insG
  rw[if_neg (h x (by simp)),insG_end fun y hy=>h y (by simp[hy])]
  rfl
open Classical in
theorem insG_more{α:Type}{L:α->α->Prop}{c:α}:∀ {l m:List α},(∃ x ∈ l,L c x)->insG L c (l++m)=insG L c l++m
 | [],_,h=>by obtain⟨x,hx,_⟩:=h;simp at hx
 | x :: l,m,h=>by
  by_cases hx:L c x
  . show insG L c (x :: (l++m))=insG L c (x :: l)++m
    unfold insG
    rw[if_pos hx,if_pos hx]
    rfl
  . have ih:=insG_more (L:=L) (c:=c) (l:=l) (m:=m) (by
      obtain⟨y,hy,hl⟩:=h
      rcases List.mem_cons.1 hy with rfl|hy
      . exact absurd hl hx
      . exact⟨y,hy,hl⟩)
    have e1:∀ q:List α,insG L c (x :: q)=x :: insG L c q:=fun q=>by
     conv=>lhs;unfold insG
     rw[if_neg hx]
    show insG L c (x :: (l++m))=insG L c (x :: l)++m
    rw[e1,e1,ih]
    rfl
open Classical in
theorem insG_at{α:Type}{L:α->α->Prop}{c x:α}{l:List α}(h:∀ y ∈ l,¬ L c y)(hx:L c x):insG L c (l++[x])=l++[c,x]:=by
 induction l with
 | nil=>simp[insG,hx]
 | cons y l ih=>
  show insG L c (y :: (l++[x]))=_
  unfold insG
  rw[if_neg (h y (by simp)),ih fun z hz=>h z (by simp[hz])]
  rfl
section
variable {α : Type} {R L : α → α → Prop} {k : List α} {c : α} {i : Nat} {m : List α} {done : Prop}
open Classical in
theorem nb_in{x:α}(h:k[i]? = some x)(hR:R x c):nb R c (k.take (i+1))=nb R c (k.take i):=by
 unfold nb
 rw[take_snoc h,List.filter_append]
 simp[hR]
open Classical in
theorem nb_out{x:α}(h:k[i]? = some x)(hR:¬ R x c):nb R c (k.take (i+1))=nb R c (k.take i)++[x]:=by
 unfold nb
 rw[take_snoc h,List.filter_append]
 simp[hR]
theorem PutSt.zero:PutSt R L k c 0 [] False:=⟨fun h=>h.elim,fun _=>⟨by simp[nb],by simp[nb]⟩⟩
theorem PutSt.skip{x:α}(h:PutSt R L k c i m done)(hx:k[i]? = some x)(hR:R x c):PutSt R L k c (i+1) m done:=by
 have e:=nb_in hx hR
 exact⟨fun hd=>by rw[e];exact h.yes hd,fun hd=>by rw[e];exact h.no hd⟩
theorem PutSt.old{x:α}(h:PutSt R L k c i m done)(hx:k[i]? = some x)(hR:¬ R x c)(hd:done\/¬ L c x):PutSt R L k c (i+1) (m++[x]) done:=by
 have e:=nb_out hx hR
 refine⟨fun hd=>?_,fun hn=>?_⟩
 . obtain⟨h1,h2⟩:=h.yes hd
   rw[e,insG_more h2,<- h1]
   obtain⟨y,hy,hl⟩:=h2
   exact⟨rfl,y,by simp[hy],hl⟩
 . obtain⟨h1,h2⟩:=h.no hn
   rw[e,<- h1]
   refine⟨rfl,fun y hy=>?_⟩
   rcases List.mem_append.1 hy with hy|hy
   . exact h2 y (by rw[<- h1];exact hy)
   . simp at hy;subst hy;exact hd.resolve_left hn
theorem PutSt.new{x:α}(h:PutSt R L k c i m done)(hx:k[i]? = some x)(hR:¬ R x c)(hn:¬ done)(hl:L c x):PutSt R L k c (i+1) (m++[c]++[x]) True:=by
 have e:=nb_out hx hR
 obtain⟨h1,h2⟩:=h.no hn
 refine⟨fun _=>?_,fun h=>absurd trivial h⟩
 rw[e,insG_at h2 hl,h1]
 exact⟨by simp,x,by simp,hl⟩
open Classical in
theorem PutSt.fin(h:PutSt R L k c k.length m done)(hno:¬ ∃ y ∈ k,R c y):putG R L k c=if done then m else m++[c]:=by
 unfold putG
 rw[if_neg hno]
 show insG L c (nb R c k)=_
 by_cases hd:done
 . rw[if_pos hd,(h.yes hd).1,List.take_length]
 . rw[if_neg hd]
   have:=h.no hd
   rw[List.take_length] at this
   rw[insG_end this.2,this.1]
end
end Go.Proofs.YtaiondckookpiaaGreatDoor
namespace Go.Proofs.YtaiondckookpiaaGreatDoor
open Go Go.Vx
theorem lexL_cons(x:Str)(a b:List Str):lexL (x :: a) (x :: b) ↔ lexL a b:=by simp[lexL,bl_irrefl]
theorem lexL_split:∀ {i:Nat} {a b:List Str},a.take i=b.take i->i<=a.length->i<=b.length->(lexL a b ↔ lexL (a.drop i) (b.drop i))
 | 0,a,b,_,_,_=>by simp
 | i+1,[],_,_,h,_=>by simp at h
 | i+1,_ :: _,[],_,_,h=>by simp at h
 | i+1,x :: a,y :: b,h,h1,h2=>by
  simp only[List.take_succ_cons,List.cons.injEq] at h
  obtain⟨rfl,h⟩:=h
  rw[lexL_cons,lexL_split h (by simpa using h1) (by simpa using h2)]
  rfl
theorem lexL_differ{a b:List Str}{i:Nat}{x y:Str}(h:a.take i=b.take i)(hx:a[i]? = some x)(hy:b[i]? = some y)(hne:x ≠ y):lexL a b ↔ Op.bytesLess x y=true:=by
 have h1:=(List.getElem?_eq_some_iff.1 hx).1
 have h2:=(List.getElem?_eq_some_iff.1 hy).1
 rw[lexL_split h (by omega) (by omega),List.drop_eq_getElem_cons h1,List.drop_eq_getElem_cons h2]
 have e1:a[i]=x:=(List.getElem?_eq_some_iff.1 hx).2
 have e2:b[i]=y:=(List.getElem?_eq_some_iff.1 hy).2
 rw[e1,e2]
 simp[lexL,hne]
theorem lexL_end{a b:List Str}{i:Nat}(h:a.take i=b.take i)(h1:i<=a.length)(h2:i<=b.length)(he:i=a.length\/i=b.length):lexL a b ↔ a.length<b.length:=by
 rw[lexL_split h h1 h2]
 rcases he with e|e
 . have e1:a.drop i=[]:=List.drop_of_length_le (by omega)
   rw[e1]
   cases hb:b.drop i with
   | nil=>
    have:=congrArg List.length hb
    simp at this
    simp[lexL]
    omega
   | cons y r=>
    have:=congrArg List.length hb
    simp at this
    simp[lexL]
    omega
 . have e1:b.drop i=[]:=List.drop_of_length_le (by omega)
   rw[e1]
   constructor
   . intro h;cases ha:a.drop i<;>rw[ha] at h<;>simp[lexL] at h
   . intro h;omega
theorem set_perm{α:Type}:∀ {l:List α} {j:Nat} {x y:α},l[j]? = some y->(y :: l.set j x).Perm (x :: l)
 | [],_,_,_,h=>by simp at h
 | a :: l,0,x,y,h=>by simp at h;subst h;exact .swap x a l
 | a :: l,j+1,x,y,h=>by
  have ih:=set_perm (l:=l) (j:=j) (x:=x) (y:=y) (by simpa using h)
  exact (List.Perm.swap a y _).trans ((ih.cons a).trans (.swap x a l))
theorem swapdel{α:Type}{l:List α}{j:Nat}{y z:α}(hy:l[j]? = some y)(hz:l[l.length - 1]? = some z):(y :: (l.set j z).take (l.length - 1)).Perm l:=by
 have hj:=(List.getElem?_eq_some_iff.1 hy).1
 have hsplit:l=l.take (l.length - 1)++[z]:=by
  have:=take_snoc hz
  rw[show l.length - 1+1=l.length by omega,List.take_length] at this
  exact this
 generalize hI:l.take (l.length - 1)=I at hsplit
 have hIl:I.length=l.length - 1:=by rw[<- hI];simp
 by_cases hjl:j=l.length - 1
 . subst hjl
   rw[hy] at hz
   cases hz
   have:(l.set (l.length - 1) y).take (l.length - 1)=I:=by rw[List.take_set,hI,List.set_eq_of_length_le (by omega)]
   rw[this]
   conv=>rhs;rw[hsplit]
   exact (List.perm_append_singleton y I).symm
 . have h1:(l.set j z).take (l.length - 1)=I.set j z:=by rw[List.take_set,hI]
   rw[h1]
   have h2:I[j]? = some y:=by
    rw[<- hI,List.getElem?_take,if_pos (by omega)]
    exact hy
   refine (set_perm h2).trans ?_
   conv=>rhs;rw[hsplit]
   exact (List.perm_append_singleton z I).symm
section
variable {α : Type} {f : α → Term}
structure Sel(f:α->Term)(K S W:List α)(m:Nat):Prop where
 le:m<=W.length
 perm:(S++W.take m).Perm K
 sort:S.Pairwise fun a b=>aheadT (f a) (f b)
 low:∀ s ∈ S,∀ y ∈ W.take m,aheadT (f s) (f y)
theorem Sel.zero{K:List α}:Sel f K [] K K.length:=⟨Nat.le_refl _,by simp,by simp,by simp⟩
theorem Sel.step{K S W:List α}{m j:Nat}{y z:α}(h:Sel f K S W m)(hnd:K.Pairwise fun a b=>f a ≠ f b)(hy:W[j]? = some y)(hj:j<m)(hz:W[m - 1]? = some z)(hmin:∀ i,i<m->∀ x,W[i]? = some x->¬ aheadT (f x) (f y)) :
    Sel f K (S++[y]) (W.set j z) (m - 1):=by
 have hle:=h.le
 generalize hl:W.take m=l at *
 have hll:l.length=m:=by rw[<- hl];simp;omega
 have hly:l[j]? = some y:=by rw[<- hl,List.getElem?_take,if_pos hj];exact hy
 have hlz:l[l.length - 1]? = some z:=by rw[hll,<- hl,List.getElem?_take,if_pos (by omega)];exact hz
 have hp:=swapdel hly hlz
 have e:(W.set j z).take (m - 1)=(l.set j z).take (l.length - 1):=by
  rw[hll,<- hl,<- List.take_set,List.take_take,Nat.min_eq_left (by omega)]
 have hperm:=h.perm
 rw[hl] at hperm
 have hndl:(y :: (l.set j z).take (l.length - 1)).Pairwise fun a b=>f a ≠ f b:=by
  have h1:(S++l).Pairwise fun a b=>f a ≠ f b:=(hperm.pairwise_iff fun {a b} hab=>Ne.symm hab).2 hnd
  exact (hp.pairwise_iff fun {a b} hab=>Ne.symm hab).2 (List.pairwise_append.1 h1).2.1
 have hlow:=h.low
 rw[hl] at hlow
 have hyl:y ∈ l:=List.mem_of_getElem? hly
 refine⟨by simp;omega,?_,?_,?_⟩
 . rw[e,List.append_assoc]
   exact (hp.append_left S).trans hperm
 . rw[List.pairwise_append]
   refine⟨h.sort,by simp,fun a ha b hb=>?_⟩
   simp at hb
   subst hb
   exact hlow a ha b hyl
 . rw[e]
   intro s hs x hx
   have hxl:x ∈ l:=hp.mem_iff.1 (List.mem_cons_of_mem _ hx)
   rcases List.mem_append.1 hs with hs|hs
   . exact hlow s hs x hxl
   . simp at hs
     subst hs
     have hne:=(List.pairwise_cons.1 hndl).1 x hx
     obtain⟨i,hi,hix⟩:=List.getElem_of_mem hxl
     have h2:W[i]? = some x:=by
      have:l[i]? = some x:=by rw[List.getElem?_eq_getElem hi,hix]
      rw[<- hl,List.getElem?_take,if_pos (by omega)] at this
      exact this
     rcases ahead_total hne with k|k
     . exact k
     . exact absurd k (hmin i (by omega) x h2)
theorem Sel.fin{K S W:List α}(h:Sel f K S W 0):S.Perm K/\S.Pairwise fun a b=>aheadT (f a) (f b):=by
 have:=h.perm
 simp at this
 exact⟨this,h.sort⟩
end
theorem formT_sel{l k:List Term}{n:Nat}(hl:∀ t ∈ l,t.Ok n)(hp:k.Perm (grG covT l))(hs:k.Pairwise aheadT):k=formT l:=by
 have ha:=grG_anti covT_trans l fun t ht=>covT_refl (hl t ht)
 have hok:∀ t ∈ grG covT l,t.Ok n:=fun t ht=>hl t (ha.sub t ht)
 have tot:(grG covT l).Pairwise fun x y=>x ≠ y:=ha.anti.imp_of_mem fun {a b} hma _ hab e=>hab.1 (by rw[<- e];exact covT_refl (hok a hma))
 exact srt_uniq ahead_irrefl ahead_trans (tot.imp ahead_total) hp hs
theorem grG_differ{l:List Term}{n:Nat}(hl:∀ t ∈ l,t.Ok n):(grG covT l).Pairwise fun x y=>x ≠ y:=by
 have ha:=grG_anti covT_trans l fun t ht=>covT_refl (hl t ht)
 exact ha.anti.imp_of_mem fun {a b} hma _ hab e=>hab.1 (by rw[<- e];exact covT_refl (hl a (ha.sub a hma)))
end Go.Proofs.YtaiondckookpiaaGreatDoor
namespace Go.Proofs.YtaiondckookpiaaGreatDoor
open Go Go.Vx
def tTail(l:List Str):Str:=(l.map fun m=>(45:UInt8) :: m).flatten
def ttxt(t:Term):Str:=t.p++tTail t.less
def sepT(l:List Term):Str:=((l.map fun t=>(43:UInt8) :: ttxt t).flatten).drop 1
open Classical in
noncomputable def textS(l:List Term):Str:=if l=[] then [110,111,110,101] else sepT l
def preT(l:List Term)(i:Nat):Str:=if i=0 then [] else sepT (l.take i)++[43]
theorem tTail_snoc{l:List Str}{j:Nat}{m:Str}(h:l[j]? = some m):tTail (l.take (j+1))=tTail (l.take j)++[45]++m:=by
 unfold tTail
 rw[take_snoc h]
 simp
theorem sepT_step{l:List Term}{i:Nat}{t:Term}(h:l[i]? = some t):sepT (l.take (i+1))=preT l i++ttxt t:=by
 have hi:=(List.getElem?_eq_some_iff.1 h).1
 unfold preT
 split
 . rename_i h0
   subst h0
   rw[take_snoc h]
   simp[sepT]
 . rename_i h0
   rw[take_snoc h]
   unfold sepT
   rw[List.map_append,List.flatten_append,List.drop_append_of_le_length]
   . simp
   . cases l with
     | nil=>simp at h
     | cons a r=>
      cases i with
      | zero=>exact absurd rfl h0
      | succ i=>simp
theorem sepT_nil:sepT []=[]:=rfl
def szS(l:List Term):Nat:=(l.map fun t=>1+t.less.length).sum
theorem tTail_len{l:List Str}(h:∀ m ∈ l,m.length<=256):(tTail l).length<=257*l.length:=by
 induction l with
 | nil=>simp[tTail]
 | cons m l ih=>
  have h1:=ih fun x hx=>h x (by simp[hx])
  have h2:=h m (by simp)
  unfold tTail at h1 ⊢
  rw[List.map_cons,List.flatten_cons,List.length_append,List.length_cons,List.length_cons]
  omega
theorem ttxt_len{t:Term}(hp:t.p.length<=256)(h:∀ m ∈ t.less,m.length<=256):(ttxt t).length<=257*(1+t.less.length) - 1:=by
 have:=tTail_len h
 unfold ttxt
 rw[List.length_append]
 omega
theorem sepT_len{l:List Term}(h:∀ t ∈ l,t.p.length<=256/\∀ m ∈ t.less,m.length<=256):(sepT l).length<=257*szS l:=by
 have key:((l.map fun t=>(43:UInt8) :: ttxt t).flatten).length<=257*szS l:=by
  induction l with
  | nil=>simp
  | cons t l ih=>
   have h1:=ih fun x hx=>h x (by simp[hx])
   have h2:=ttxt_len (h t (by simp)).1 (h t (by simp)).2
   simp only[szS,List.map_cons,List.flatten_cons,List.length_append,List.length_cons,List.sum_cons] at h1 ⊢
   rw[Nat.mul_add]
   omega
 unfold sepT
 rw[List.length_drop]
 omega
theorem szS_take(l:List Term)(i:Nat):szS (l.take i)<=szS l:=by
 unfold szS
 conv=>rhs;rw[<- List.take_append_drop i l]
 rw[List.map_append,List.sum_append]
 omega
theorem szS_mem{l:List Term}{t:Term}(h:t ∈ l):1+t.less.length<=szS l:=by
 unfold szS
 induction l with
 | nil=>simp at h
 | cons a l ih=>
  simp only[List.map_cons,List.sum_cons]
  rcases List.mem_cons.1 h with rfl|h
  . omega
  . have:=ih h;omega
theorem szS_len(l:List Term):l.length<=szS l:=by
 unfold szS
 induction l with
 | nil=>simp
 | cons a l ih=>simp only[List.map_cons,List.sum_cons,List.length_cons];omega
theorem key_at{n:Nat}{p:Str}:∀ {less:List Str} {j:Nat} {m:Str},p.length=n->(∀ x ∈ less,x.length=n)->less[j]? = some m->((p++less.flatten).take (n*(j+1)+n)).drop (n*(j+1))=m
 | [],j,m,_,_,h=>by simp at h
 | x :: less,0,m,hp,hl,h=>by
  simp at h
  subst h
  have hx:=hl x (by simp)
  rw[List.flatten_cons,<- List.append_assoc,show n*(0+1)+n=(p++x).length by simp[hp,hx]]
  rw[List.take_left',show n*(0+1)=p.length by simp[hp]]
  . exact List.drop_left' rfl
  . rfl
 | x :: less,j+1,m,hp,hl,h=>by
  have hx:=hl x (by simp)
  have ih:=key_at (p:=x) (less:=less) (j:=j) (m:=m) hx (fun y hy=>hl y (by simp[hy])) (by simpa using h)
  rw[List.flatten_cons]
  have e1:n*(j+1+1)=p.length+n*(j+1):=by rw[hp,Nat.mul_add n (j+1) 1];omega
  rw[e1,Nat.add_assoc,List.take_append]
  rw[List.take_of_length_le (by omega),show p.length+(n*(j+1)+n) - p.length=n*(j+1)+n by omega,List.drop_append,List.drop_of_length_le (by omega),List.nil_append,
   show p.length+n*(j+1) - p.length=n*(j+1) by omega]
  exact ih
theorem key_head{n:Nat}{p:Str}{less:List Str}(hp:p.length=n):(p++less.flatten).take n=p:=List.take_left' hp
theorem key_len{n:Nat}{p:Str}{less:List Str}(hp:p.length=n)(h:∀ x ∈ less,x.length=n):(p++less.flatten).length=n*(less.length+1):=by
 rw[List.length_append,hp,Nat.mul_add,Nat.mul_one,Nat.add_comm]
 congr 1
 induction less with
 | nil=>simp
 | cons x l ih=>
  have:=ih fun y hy=>h y (by simp[hy])
  rw[List.flatten_cons,List.length_append,h x (by simp),this,List.length_cons,Nat.mul_add]
  omega
end Go.Proofs.YtaiondckookpiaaGreatDoor
namespace Go.Proofs.YtaiondckookpiaaGreatDoor
open Go Go.Vx
def T:Tab:=fun t=>match t with
 | 3=>some ⟨1,8,.int .i64,[.i .i64 0]⟩
 | 4=>some ⟨1,1,.bool,[.ff]⟩
 | 5=>some ⟨1,1,.int .u8,[.i .u8 0]⟩
 | 9=>some ⟨1,16,.str,[.s []]⟩
 | 20=>some ⟨1,16,.other,[.nilI]⟩
 | 22=>some ⟨1,24,.slice 112,[.nilS]⟩
 | 24=>some ⟨2,32,.struct [(0,3),(1,22)],[.i .i64 0,.nilS]⟩
 | 25=>some ⟨1,24,.slice 120,[.nilS]⟩
 | 27=>some ⟨2,32,.struct [(0,3),(1,25)],[.i .i64 0,.nilS]⟩
 | 30=>some ⟨1,8,.int .i64,[.i .i64 0]⟩
 | 37=>some ⟨1,24,.slice 9,[.nilS]⟩
 | 38=>some ⟨1,8,.other,[.nilF]⟩
 | 42=>some ⟨1,8,.int .u64,[.i .u64 0]⟩
 | 44=>some ⟨4,32,.array 4 42,[.i .u64 0,.i .u64 0,.i .u64 0,.i .u64 0]⟩
 | 46=>some ⟨9,72,.struct [(0,3),(1,44),(5,44)],[.i .i64 0,.i .u64 0,.i .u64 0,.i .u64 0,.i .u64 0,.i .u64 0,.i .u64 0,.i .u64 0,.i .u64 0]⟩
 | 52=>some ⟨1,8,.other,[.nilF]⟩
 | 58=>some ⟨1,24,.slice 46,[.nilS]⟩
 | 82=>some ⟨1,24,.slice 4,[.nilS]⟩
 | 89=>some ⟨1,24,.slice 100,[.nilS]⟩
 | 90=>some ⟨1,8,.ptr 94,[.nilP]⟩
 | 91=>some ⟨1,24,.slice 24,[.nilS]⟩
 | 92=>some ⟨1,24,.slice 27,[.nilS]⟩
 | 94=>some ⟨3,72,.struct [(0,91),(1,92),(2,37)],[.nilS,.nilS,.nilS]⟩
 | 100=>some ⟨7,64,.struct [(0,3),(1,3),(2,3),(3,3),(4,3),(5,9),(6,3)],[.i .i64 0,.i .i64 0,.i .i64 0,.i .i64 0,.i .i64 0,.s [],.i .i64 0]⟩
 | 104=>some ⟨1,8,.other,[.nilF]⟩
 | 112=>some ⟨11,112,.struct [(0,46),(9,58),(10,9)],[.i .i64 0,.i .u64 0,.i .u64 0,.i .u64 0,.i .u64 0,.i .u64 0,.i .u64 0,.i .u64 0,.i .u64 0,.nilS,.s []]⟩
 | 120=>some ⟨2,40,.struct [(0,9),(1,37)],[.s [],.nilS]⟩
 | 126=>some ⟨1,8,.other,[.nilF]⟩
 | 129=>some ⟨1,24,.slice 5,[.nilS]⟩
 | 136=>some ⟨1,8,.other,[.nilF]⟩
 | 138=>some ⟨1,24,.slice 58,[.nilS]⟩
 | 144=>some ⟨1,8,.ptr 146,[.nilP]⟩
 | 146=>some ⟨2,32,.struct [(0,144),(1,129)],[.nilP,.nilS]⟩
 | 154=>some ⟨0,0,.struct [],[]⟩
 | 157=>some ⟨1,8,.other,[.nilF]⟩
 | 161=>some ⟨1,8,.other,[.nilF]⟩
 | 162=>some ⟨1,24,.slice 164,[.nilS]⟩
 | 164=>some ⟨10,88,.struct [(0,46),(9,9)],[.i .i64 0,.i .u64 0,.i .u64 0,.i .u64 0,.i .u64 0,.i .u64 0,.i .u64 0,.i .u64 0,.i .u64 0,.s []]⟩
 | 167=>some ⟨1,8,.ptr 44,[.nilP]⟩
 | _=>none
theorem good3:Vx.Good Tryz.prog 3 ⟨1,8,.int .i64,[.i .i64 0]⟩:=
 ⟨⟨Tryz.t3,.int .i64 0,by kernel_rfl,rfl,rfl,rfl,rfl,rfl,by simp[Value.cells,Value.oneCell']⟩,Tryz.underlying3,fun w=>Tryz.isAgg3 w,by decide⟩
theorem good4:Vx.Good Tryz.prog 4 ⟨1,1,.bool,[.ff]⟩:=
 ⟨⟨Tryz.t4,.bool false,by kernel_rfl,rfl,rfl,rfl,rfl,rfl,by simp[Value.cells,Value.oneCell']⟩,Tryz.underlying4,fun w=>Tryz.isAgg4 w,by decide⟩
theorem good5:Vx.Good Tryz.prog 5 ⟨1,1,.int .u8,[.i .u8 0]⟩:=
 ⟨⟨Tryz.t5,.int .u8 0,by kernel_rfl,rfl,rfl,rfl,rfl,rfl,by simp[Value.cells,Value.oneCell']⟩,Tryz.underlying5,fun w=>Tryz.isAgg5 w,by decide⟩
theorem good9:Vx.Good Tryz.prog 9 ⟨1,16,.str,[.s []]⟩:=
 ⟨⟨Tryz.t9,.string ⟨#[]⟩,by kernel_rfl,rfl,rfl,rfl,rfl,rfl,by simp[Value.cells,Value.oneCell']⟩,Tryz.underlying9,fun w=>Tryz.isAgg9 w,by decide⟩
theorem good20:Vx.Good Tryz.prog 20 ⟨1,16,.other,[.nilI]⟩:=
 ⟨⟨Tryz.t20,.nilIface,by kernel_rfl,rfl,rfl,rfl,rfl,rfl,by simp[Value.cells,Value.oneCell']⟩,trivial,fun w=>Tryz.isAgg20 w,by decide⟩
theorem good22:Vx.Good Tryz.prog 22 ⟨1,24,.slice 112,[.nilS]⟩:=
 ⟨⟨Tryz.t22,.slice none 0 0,by kernel_rfl,rfl,rfl,rfl,rfl,rfl,by simp[Value.cells,Value.oneCell']⟩,Tryz.underlying22,fun w=>Tryz.isAgg22 w,by decide⟩
theorem good24:Vx.Good Tryz.prog 24 ⟨2,32,.struct [(0,3),(1,22)],[.i .i64 0,.nilS]⟩:=
 ⟨⟨Tryz.t24,.agg #[.int .i64 0,.slice none 0 0],by kernel_rfl,rfl,rfl,rfl,rfl,rfl,by simp[Value.cells,Value.oneCell']⟩,⟨_,Tryz.underlying24,rfl⟩,fun w=>Tryz.isAgg24 w,by decide⟩
theorem good25:Vx.Good Tryz.prog 25 ⟨1,24,.slice 120,[.nilS]⟩:=
 ⟨⟨Tryz.t25,.slice none 0 0,by kernel_rfl,rfl,rfl,rfl,rfl,rfl,by simp[Value.cells,Value.oneCell']⟩,Tryz.underlying25,fun w=>Tryz.isAgg25 w,by decide⟩
theorem good27:Vx.Good Tryz.prog 27 ⟨2,32,.struct [(0,3),(1,25)],[.i .i64 0,.nilS]⟩:=
 ⟨⟨Tryz.t27,.agg #[.int .i64 0,.slice none 0 0],by kernel_rfl,rfl,rfl,rfl,rfl,rfl,by simp[Value.cells,Value.oneCell']⟩,⟨_,Tryz.underlying27,rfl⟩,fun w=>Tryz.isAgg27 w,by decide⟩
theorem good30:Vx.Good Tryz.prog 30 ⟨1,8,.int .i64,[.i .i64 0]⟩:=
 ⟨⟨Tryz.t30,.int .i64 0,by kernel_rfl,rfl,rfl,rfl,rfl,rfl,by simp[Value.cells,Value.oneCell']⟩,Tryz.underlying30,fun w=>Tryz.isAgg30 w,by decide⟩
theorem good37:Vx.Good Tryz.prog 37 ⟨1,24,.slice 9,[.nilS]⟩:=
 ⟨⟨Tryz.t37,.slice none 0 0,by kernel_rfl,rfl,rfl,rfl,rfl,rfl,by simp[Value.cells,Value.oneCell']⟩,Tryz.underlying37,fun w=>Tryz.isAgg37 w,by decide⟩
theorem good38:Vx.Good Tryz.prog 38 ⟨1,8,.other,[.nilF]⟩:=
 ⟨⟨Tryz.t38,.nilFunc,by kernel_rfl,rfl,rfl,rfl,rfl,rfl,by simp[Value.cells,Value.oneCell']⟩,trivial,fun w=>Tryz.isAgg38 w,by decide⟩
theorem good42:Vx.Good Tryz.prog 42 ⟨1,8,.int .u64,[.i .u64 0]⟩:=
 ⟨⟨Tryz.t42,.int .u64 0,by kernel_rfl,rfl,rfl,rfl,rfl,rfl,by simp[Value.cells,Value.oneCell']⟩,Tryz.underlying42,fun w=>Tryz.isAgg42 w,by decide⟩
theorem good44:Vx.Good Tryz.prog 44 ⟨4,32,.array 4 42,[.i .u64 0,.i .u64 0,.i .u64 0,.i .u64 0]⟩:=
 ⟨⟨Tryz.t44,.agg #[.int .u64 0,.int .u64 0,.int .u64 0,.int .u64 0],by kernel_rfl,rfl,rfl,rfl,rfl,rfl,by simp[Value.cells,Value.oneCell']⟩,Tryz.underlying44,fun w=>Tryz.isAgg44 w,by decide⟩
theorem good46:Vx.Good Tryz.prog 46 ⟨9,72,.struct [(0,3),(1,44),(5,44)],[.i .i64 0,.i .u64 0,.i .u64 0,.i .u64 0,.i .u64 0,.i .u64 0,.i .u64 0,.i .u64 0,.i .u64 0]⟩:=
 ⟨⟨Tryz.t46,.agg #[.int .i64 0,.int .u64 0,.int .u64 0,.int .u64 0,.int .u64 0,.int .u64 0,.int .u64 0,.int .u64 0,.int .u64 0],by kernel_rfl,rfl,rfl,rfl,rfl,rfl,by simp[Value.cells,Value.oneCell']⟩,⟨_,Tryz.underlying46,rfl⟩,fun w=>Tryz.isAgg46 w,by decide⟩
theorem good52:Vx.Good Tryz.prog 52 ⟨1,8,.other,[.nilF]⟩:=
 ⟨⟨Tryz.t52,.nilFunc,by kernel_rfl,rfl,rfl,rfl,rfl,rfl,by simp[Value.cells,Value.oneCell']⟩,trivial,fun w=>Tryz.isAgg52 w,by decide⟩
theorem good58:Vx.Good Tryz.prog 58 ⟨1,24,.slice 46,[.nilS]⟩:=
 ⟨⟨Tryz.t58,.slice none 0 0,by kernel_rfl,rfl,rfl,rfl,rfl,rfl,by simp[Value.cells,Value.oneCell']⟩,Tryz.underlying58,fun w=>Tryz.isAgg58 w,by decide⟩
theorem good82:Vx.Good Tryz.prog 82 ⟨1,24,.slice 4,[.nilS]⟩:=
 ⟨⟨Tryz.t82,.slice none 0 0,by kernel_rfl,rfl,rfl,rfl,rfl,rfl,by simp[Value.cells,Value.oneCell']⟩,Tryz.underlying82,fun w=>Tryz.isAgg82 w,by decide⟩
theorem good89:Vx.Good Tryz.prog 89 ⟨1,24,.slice 100,[.nilS]⟩:=
 ⟨⟨Tryz.t89,.slice none 0 0,by kernel_rfl,rfl,rfl,rfl,rfl,rfl,by simp[Value.cells,Value.oneCell']⟩,Tryz.underlying89,fun w=>Tryz.isAgg89 w,by decide⟩
theorem good90:Vx.Good Tryz.prog 90 ⟨1,8,.ptr 94,[.nilP]⟩:=
 ⟨⟨Tryz.t90,.pointer none,by kernel_rfl,rfl,rfl,rfl,rfl,rfl,by simp[Value.cells,Value.oneCell']⟩,Tryz.underlying90,fun w=>Tryz.isAgg90 w,by decide⟩
theorem good91:Vx.Good Tryz.prog 91 ⟨1,24,.slice 24,[.nilS]⟩:=
 ⟨⟨Tryz.t91,.slice none 0 0,by kernel_rfl,rfl,rfl,rfl,rfl,rfl,by simp[Value.cells,Value.oneCell']⟩,Tryz.underlying91,fun w=>Tryz.isAgg91 w,by decide⟩
theorem good92:Vx.Good Tryz.prog 92 ⟨1,24,.slice 27,[.nilS]⟩:=
 ⟨⟨Tryz.t92,.slice none 0 0,by kernel_rfl,rfl,rfl,rfl,rfl,rfl,by simp[Value.cells,Value.oneCell']⟩,Tryz.underlying92,fun w=>Tryz.isAgg92 w,by decide⟩
theorem good94:Vx.Good Tryz.prog 94 ⟨3,72,.struct [(0,91),(1,92),(2,37)],[.nilS,.nilS,.nilS]⟩:=
 ⟨⟨Tryz.t94,.agg #[.slice none 0 0,.slice none 0 0,.slice none 0 0],by kernel_rfl,rfl,rfl,rfl,rfl,rfl,by simp[Value.cells,Value.oneCell']⟩,⟨_,Tryz.underlying94,rfl⟩,fun w=>Tryz.isAgg94 w,by decide⟩
theorem good100:Vx.Good Tryz.prog 100 ⟨7,64,.struct [(0,3),(1,3),(2,3),(3,3),(4,3),(5,9),(6,3)],[.i .i64 0,.i .i64 0,.i .i64 0,.i .i64 0,.i .i64 0,.s [],.i .i64 0]⟩:=
 ⟨⟨Tryz.t100,.agg #[.int .i64 0,.int .i64 0,.int .i64 0,.int .i64 0,.int .i64 0,.string ⟨#[]⟩,.int .i64 0],by kernel_rfl,rfl,rfl,rfl,rfl,rfl,by simp[Value.cells,Value.oneCell']⟩,⟨_,Tryz.underlying100,rfl⟩,fun w=>Tryz.isAgg100 w,by decide⟩
theorem good104:Vx.Good Tryz.prog 104 ⟨1,8,.other,[.nilF]⟩:=
 ⟨⟨Tryz.t104,.nilFunc,by kernel_rfl,rfl,rfl,rfl,rfl,rfl,by simp[Value.cells,Value.oneCell']⟩,trivial,fun w=>Tryz.isAgg104 w,by decide⟩
theorem good112:Vx.Good Tryz.prog 112 ⟨11,112,.struct [(0,46),(9,58),(10,9)],[.i .i64 0,.i .u64 0,.i .u64 0,.i .u64 0,.i .u64 0,.i .u64 0,.i .u64 0,.i .u64 0,.i .u64 0,.nilS,.s []]⟩:=
 ⟨⟨Tryz.t112,.agg #[.int .i64 0,.int .u64 0,.int .u64 0,.int .u64 0,.int .u64 0,.int .u64 0,.int .u64 0,.int .u64 0,.int .u64 0,.slice none 0 0,.string ⟨#[]⟩],by kernel_rfl,rfl,rfl,rfl,rfl,rfl,by simp[Value.cells,Value.oneCell']⟩,⟨_,Tryz.underlying112,rfl⟩,fun w=>Tryz.isAgg112 w,by decide⟩
theorem good120:Vx.Good Tryz.prog 120 ⟨2,40,.struct [(0,9),(1,37)],[.s [],.nilS]⟩:=
 ⟨⟨Tryz.t120,.agg #[.string ⟨#[]⟩,.slice none 0 0],by kernel_rfl,rfl,rfl,rfl,rfl,rfl,by simp[Value.cells,Value.oneCell']⟩,⟨_,Tryz.underlying120,rfl⟩,fun w=>Tryz.isAgg120 w,by decide⟩
theorem good126:Vx.Good Tryz.prog 126 ⟨1,8,.other,[.nilF]⟩:=
 ⟨⟨Tryz.t126,.nilFunc,by kernel_rfl,rfl,rfl,rfl,rfl,rfl,by simp[Value.cells,Value.oneCell']⟩,trivial,fun w=>Tryz.isAgg126 w,by decide⟩
theorem good129:Vx.Good Tryz.prog 129 ⟨1,24,.slice 5,[.nilS]⟩:=
 ⟨⟨Tryz.t129,.slice none 0 0,by kernel_rfl,rfl,rfl,rfl,rfl,rfl,by simp[Value.cells,Value.oneCell']⟩,Tryz.underlying129,fun w=>Tryz.isAgg129 w,by decide⟩
theorem good136:Vx.Good Tryz.prog 136 ⟨1,8,.other,[.nilF]⟩:=
 ⟨⟨Tryz.t136,.nilFunc,by kernel_rfl,rfl,rfl,rfl,rfl,rfl,by simp[Value.cells,Value.oneCell']⟩,trivial,fun w=>Tryz.isAgg136 w,by decide⟩
theorem good138:Vx.Good Tryz.prog 138 ⟨1,24,.slice 58,[.nilS]⟩:=
 ⟨⟨Tryz.t138,.slice none 0 0,by kernel_rfl,rfl,rfl,rfl,rfl,rfl,by simp[Value.cells,Value.oneCell']⟩,Tryz.underlying138,fun w=>Tryz.isAgg138 w,by decide⟩
theorem good144:Vx.Good Tryz.prog 144 ⟨1,8,.ptr 146,[.nilP]⟩:=
 ⟨⟨Tryz.t144,.pointer none,by kernel_rfl,rfl,rfl,rfl,rfl,rfl,by simp[Value.cells,Value.oneCell']⟩,Tryz.underlying144,fun w=>Tryz.isAgg144 w,by decide⟩
theorem good146:Vx.Good Tryz.prog 146 ⟨2,32,.struct [(0,144),(1,129)],[.nilP,.nilS]⟩:=
 ⟨⟨Tryz.t146,.agg #[.pointer none,.slice none 0 0],by kernel_rfl,rfl,rfl,rfl,rfl,rfl,by simp[Value.cells,Value.oneCell']⟩,⟨_,Tryz.underlying146,rfl⟩,fun w=>Tryz.isAgg146 w,by decide⟩
theorem good154:Vx.Good Tryz.prog 154 ⟨0,0,.struct [],[]⟩:=
 ⟨⟨Tryz.t154,.agg #[],by kernel_rfl,rfl,rfl,rfl,rfl,rfl,by simp[Value.cells,Value.oneCell']⟩,⟨_,Tryz.underlying154,rfl⟩,fun w=>Tryz.isAgg154 w,by decide⟩
theorem good157:Vx.Good Tryz.prog 157 ⟨1,8,.other,[.nilF]⟩:=
 ⟨⟨Tryz.t157,.nilFunc,by kernel_rfl,rfl,rfl,rfl,rfl,rfl,by simp[Value.cells,Value.oneCell']⟩,trivial,fun w=>Tryz.isAgg157 w,by decide⟩
theorem good161:Vx.Good Tryz.prog 161 ⟨1,8,.other,[.nilF]⟩:=
 ⟨⟨Tryz.t161,.nilFunc,by kernel_rfl,rfl,rfl,rfl,rfl,rfl,by simp[Value.cells,Value.oneCell']⟩,trivial,fun w=>Tryz.isAgg161 w,by decide⟩
theorem good162:Vx.Good Tryz.prog 162 ⟨1,24,.slice 164,[.nilS]⟩:=
 ⟨⟨Tryz.t162,.slice none 0 0,by kernel_rfl,rfl,rfl,rfl,rfl,rfl,by simp[Value.cells,Value.oneCell']⟩,Tryz.underlying162,fun w=>Tryz.isAgg162 w,by decide⟩
theorem good164:Vx.Good Tryz.prog 164 ⟨10,88,.struct [(0,46),(9,9)],[.i .i64 0,.i .u64 0,.i .u64 0,.i .u64 0,.i .u64 0,.i .u64 0,.i .u64 0,.i .u64 0,.i .u64 0,.s []]⟩:=
 ⟨⟨Tryz.t164,.agg #[.int .i64 0,.int .u64 0,.int .u64 0,.int .u64 0,.int .u64 0,.int .u64 0,.int .u64 0,.int .u64 0,.int .u64 0,.string ⟨#[]⟩],by kernel_rfl,rfl,rfl,rfl,rfl,rfl,by simp[Value.cells,Value.oneCell']⟩,⟨_,Tryz.underlying164,rfl⟩,fun w=>Tryz.isAgg164 w,by decide⟩
theorem good167:Vx.Good Tryz.prog 167 ⟨1,8,.ptr 44,[.nilP]⟩:=
 ⟨⟨Tryz.t167,.pointer none,by kernel_rfl,rfl,rfl,rfl,rfl,rfl,by simp[Value.cells,Value.oneCell']⟩,Tryz.underlying167,fun w=>Tryz.isAgg167 w,by decide⟩
set_option maxRecDepth 10000 in
theorem tok:TOk Tryz.prog T:=by
 intro t ti h
 unfold T at h
 split at h
 . cases h;exact good3
 . cases h;exact good4
 . cases h;exact good5
 . cases h;exact good9
 . cases h;exact good20
 . cases h;exact good22
 . cases h;exact good24
 . cases h;exact good25
 . cases h;exact good27
 . cases h;exact good30
 . cases h;exact good37
 . cases h;exact good38
 . cases h;exact good42
 . cases h;exact good44
 . cases h;exact good46
 . cases h;exact good52
 . cases h;exact good58
 . cases h;exact good82
 . cases h;exact good89
 . cases h;exact good90
 . cases h;exact good91
 . cases h;exact good92
 . cases h;exact good94
 . cases h;exact good100
 . cases h;exact good104
 . cases h;exact good112
 . cases h;exact good120
 . cases h;exact good126
 . cases h;exact good129
 . cases h;exact good136
 . cases h;exact good138
 . cases h;exact good144
 . cases h;exact good146
 . cases h;exact good154
 . cases h;exact good157
 . cases h;exact good161
 . cases h;exact good162
 . cases h;exact good164
 . cases h;exact good167
 . cases h
theorem follows:Tryz.prog.follows .mixedOrders=true:=by kernel_rfl
end Go.Proofs.YtaiondckookpiaaGreatDoor
namespace Go.Proofs
open Go.Shelf
def Tryz.vxSort_ren:Go.Shelf.Ren:=⟨fun|6=>115|10=>134|11=>135|12=>136|13=>137|14=>138|24=>154|25=>155|26=>156|27=>157|28=>158|29=>159|30=>160|31=>161|32=>162|33=>163|34=>168|35=>169|36=>170|37=>171|38=>172|39=>178|n=>n,fun|20=>20|26=>104|35=>175|0=>0|37=>177|3=>3|41=>180|44=>183|49=>192|51=>42|4=>4|54=>196|53=>195|58=>200|5=>5|9=>9|60=>205|64=>209|66=>211|67=>212|17=>17|32=>172|33=>173|82=>231|12=>12|75=>225|76=>226|77=>227|78=>171|79=>228|80=>229|n=>n,fun|n=>n⟩
theorem Tryz.vxSort:Go.Proofs.LaysGg.n6 Tryz.prog Tryz.vxSort_ren:={
 mixed:=by kernel_rfl
 f6:=Tryz.func115.trans (congrArg some (by kernel_rfl))
 f10:=Tryz.func134.trans (congrArg some (by kernel_rfl))
 f11:=Tryz.func135.trans (congrArg some (by kernel_rfl))
 f12:=Tryz.func136.trans (congrArg some (by kernel_rfl))
 f13:=Tryz.func137.trans (congrArg some (by kernel_rfl))
 f14:=Tryz.func138.trans (congrArg some (by kernel_rfl))
 f24:=Tryz.func154.trans (congrArg some (by kernel_rfl))
 f25:=Tryz.func155.trans (congrArg some (by kernel_rfl))
 f26:=Tryz.func156.trans (congrArg some (by kernel_rfl))
 f27:=Tryz.func157.trans (congrArg some (by kernel_rfl))
 f28:=Tryz.func158.trans (congrArg some (by kernel_rfl))
 f29:=Tryz.func159.trans (congrArg some (by kernel_rfl))
 f30:=Tryz.func160.trans (congrArg some (by kernel_rfl))
 f31:=Tryz.func161.trans (congrArg some (by kernel_rfl))
 f32:=Tryz.func162.trans (congrArg some (by kernel_rfl))
 f33:=Tryz.func163.trans (congrArg some (by kernel_rfl))
 f34:=Tryz.func168.trans (congrArg some (by kernel_rfl))
 f35:=Tryz.func169.trans (congrArg some (by kernel_rfl))
 f36:=Tryz.func170.trans (congrArg some (by kernel_rfl))
 f37:=Tryz.func171.trans (congrArg some (by kernel_rfl))
 f38:=Tryz.func172.trans (congrArg some (by kernel_rfl))
 f39:=Tryz.func178.trans (congrArg some (by kernel_rfl))
 t0:=Tryz.underlying0
 a0:=Tryz.isAgg0
 z0:=Tryz.sizeOf0
 v0:=Tryz.zeroValue0
 i0:=by kernel_rfl
 t3:=Tryz.underlying3
 a3:=Tryz.isAgg3
 z3:=Tryz.sizeOf3
 v3:=Tryz.zeroValue3
 i3:=by kernel_rfl
 t4:=Tryz.underlying4
 a4:=Tryz.isAgg4
 z4:=Tryz.sizeOf4
 v4:=Tryz.zeroValue4
 i4:=by kernel_rfl
 t5:=Tryz.underlying5
 a5:=Tryz.isAgg5
 z5:=Tryz.sizeOf5
 v5:=Tryz.zeroValue5
 i5:=by kernel_rfl
 t9:=Tryz.underlying9
 a9:=Tryz.isAgg9
 z9:=Tryz.sizeOf9
 v9:=Tryz.zeroValue9
 i9:=by kernel_rfl
 t12:=Tryz.underlying12
 a12:=Tryz.isAgg12
 z12:=Tryz.sizeOf12
 v12:=Tryz.zeroValue12
 i12:=by kernel_rfl
 t17:=Tryz.underlying17
 a17:=Tryz.isAgg17
 z17:=Tryz.sizeOf17
 v17:=Tryz.zeroValue17
 i17:=by kernel_rfl
 t20:=Tryz.underlying20
 a20:=Tryz.isAgg20
 z20:=Tryz.sizeOf20
 v20:=Tryz.zeroValue20
 i20:=by kernel_rfl
 t26:=Tryz.underlying104
 a26:=Tryz.isAgg104
 z26:=Tryz.sizeOf104
 v26:=Tryz.zeroValue104
 i26:=by kernel_rfl
 t32:=Tryz.underlying172
 a32:=Tryz.isAgg172
 z32:=Tryz.sizeOf172
 v32:=Tryz.zeroValue172
 i32:=by kernel_rfl
 t33:=Tryz.underlying173
 a33:=Tryz.isAgg173
 z33:=Tryz.sizeOf173
 v33:=Tryz.zeroValue173
 i33:=by kernel_rfl
 t35:=Tryz.underlying175
 a35:=Tryz.isAgg175
 z35:=Tryz.sizeOf175
 v35:=Tryz.zeroValue175
 i35:=by kernel_rfl
 t37:=Tryz.underlying177
 a37:=Tryz.isAgg177
 z37:=Tryz.sizeOf177
 v37:=Tryz.zeroValue177
 i37:=by kernel_rfl
 t41:=Tryz.underlying180
 a41:=Tryz.isAgg180
 z41:=Tryz.sizeOf180
 v41:=Tryz.zeroValue180
 i41:=by kernel_rfl
 t44:=Tryz.underlying183
 a44:=Tryz.isAgg183
 z44:=Tryz.sizeOf183
 v44:=Tryz.zeroValue183
 i44:=by kernel_rfl
 t49:=Tryz.underlying192
 a49:=Tryz.isAgg192
 z49:=Tryz.sizeOf192
 v49:=Tryz.zeroValue192
 i49:=by kernel_rfl
 t51:=Tryz.underlying42
 a51:=Tryz.isAgg42
 z51:=Tryz.sizeOf42
 v51:=Tryz.zeroValue42
 i51:=by kernel_rfl
 t53:=Tryz.underlying195
 a53:=Tryz.isAgg195
 z53:=Tryz.sizeOf195
 v53:=Tryz.zeroValue195
 i53:=by kernel_rfl
 t54:=Tryz.underlying196
 a54:=Tryz.isAgg196
 z54:=Tryz.sizeOf196
 v54:=Tryz.zeroValue196
 i54:=by kernel_rfl
 t58:=Tryz.underlying200
 a58:=Tryz.isAgg200
 z58:=Tryz.sizeOf200
 v58:=Tryz.zeroValue200
 i58:=by kernel_rfl
 t60:=Tryz.underlying205
 a60:=Tryz.isAgg205
 z60:=Tryz.sizeOf205
 v60:=Tryz.zeroValue205
 i60:=by kernel_rfl
 t64:=Tryz.underlying209
 a64:=Tryz.isAgg209
 z64:=Tryz.sizeOf209
 v64:=Tryz.zeroValue209
 i64:=by kernel_rfl
 t66:=Tryz.underlying211
 a66:=Tryz.isAgg211
 z66:=Tryz.sizeOf211
 v66:=Tryz.zeroValue211
 i66:=by kernel_rfl
 t67:=Tryz.underlying212
 a67:=Tryz.isAgg212
 z67:=Tryz.sizeOf212
 v67:=Tryz.zeroValue212
 i67:=by kernel_rfl
 t75:=Tryz.underlying225
 a75:=Tryz.isAgg225
 z75:=Tryz.sizeOf225
 v75:=Tryz.zeroValue225
 i75:=by kernel_rfl
 t76:=Tryz.underlying226
 a76:=Tryz.isAgg226
 z76:=Tryz.sizeOf226
 v76:=Tryz.zeroValue226
 i76:=by kernel_rfl
 t77:=Tryz.underlying227
 a77:=Tryz.isAgg227
 z77:=Tryz.sizeOf227
 v77:=Tryz.zeroValue227
 i77:=by kernel_rfl
 t78:=Tryz.underlying171
 a78:=Tryz.isAgg171
 z78:=Tryz.sizeOf171
 v78:=Tryz.zeroValue171
 i78:=by kernel_rfl
 t79:=Tryz.underlying228
 a79:=Tryz.isAgg228
 z79:=Tryz.sizeOf228
 v79:=Tryz.zeroValue228
 i79:=by kernel_rfl
 t80:=Tryz.underlying229
 a80:=Tryz.isAgg229
 z80:=Tryz.sizeOf229
 v80:=Tryz.zeroValue229
 i80:=by kernel_rfl
 t82:=Tryz.underlying231
 a82:=Tryz.isAgg231
 z82:=Tryz.sizeOf231
 v82:=Tryz.zeroValue231
 i82:=by kernel_rfl }
def Tryz.vxStr_ren:Go.Shelf.Ren:=⟨fun|169=>111|n=>n,fun|70=>144|9=>9|0=>0|72=>146|37=>129|127=>171|3=>3|5=>5|n=>n,fun|n=>n⟩
theorem Tryz.vxStr:Go.Proofs.Lays.n169 Tryz.prog Tryz.vxStr_ren:={
 mixed:=by kernel_rfl
 f169:=Tryz.func111.trans (congrArg some (by kernel_rfl))
 t0:=Tryz.underlying0
 a0:=Tryz.isAgg0
 z0:=Tryz.sizeOf0
 v0:=Tryz.zeroValue0
 t3:=Tryz.underlying3
 a3:=Tryz.isAgg3
 z3:=Tryz.sizeOf3
 v3:=Tryz.zeroValue3
 t9:=Tryz.underlying9
 a9:=Tryz.isAgg9
 z9:=Tryz.sizeOf9
 v9:=Tryz.zeroValue9
 t37:=Tryz.underlying129
 a37:=Tryz.isAgg129
 z37:=Tryz.sizeOf129
 v37:=Tryz.zeroValue129
 t70:=Tryz.underlying144
 a70:=Tryz.isAgg144
 z70:=Tryz.sizeOf144
 v70:=Tryz.zeroValue144
 t72:=Tryz.underlying146
 a72:=Tryz.isAgg146
 z72:=Tryz.sizeOf146
 v72:=Tryz.zeroValue146
 t127:=Tryz.underlying171
 a127:=Tryz.isAgg171
 z127:=Tryz.sizeOf171
 v127:=Tryz.zeroValue171 }
def Tryz.vxSplit_ren:Go.Shelf.Ren:=⟨fun|146=>100|221=>130|268=>140|138=>141|143=>142|195=>164|197=>165|218=>166|219=>167|260=>173|217=>174|225=>175|224=>176|267=>177|266=>179|314=>180|n=>n,fun|9=>9|31=>37|3=>3|4=>4|0=>0|105=>202|21=>21|5=>5|46=>180|119=>214|139=>217|138=>216|146=>218|51=>192|n=>n,fun|1=>0|3=>1|4=>2|n=>n⟩
theorem Tryz.vxSplit:Go.Proofs.Lays.n146 Tryz.prog Tryz.vxSplit_ren:={
 mixed:=by kernel_rfl
 f138:=Tryz.func141.trans (congrArg some (by kernel_rfl))
 f143:=Tryz.func142.trans (congrArg some (by kernel_rfl))
 f146:=Tryz.func100.trans (congrArg some (by kernel_rfl))
 f195:=Tryz.func164.trans (congrArg some (by kernel_rfl))
 f197:=Tryz.func165.trans (congrArg some (by kernel_rfl))
 f217:=Tryz.func174.trans (congrArg some (by kernel_rfl))
 f218:=Tryz.func166.trans (congrArg some (by kernel_rfl))
 f219:=Tryz.func167.trans (congrArg some (by kernel_rfl))
 f221:=Tryz.func130.trans (congrArg some (by kernel_rfl))
 f224:=Tryz.func176.trans (congrArg some (by kernel_rfl))
 f225:=Tryz.func175.trans (congrArg some (by kernel_rfl))
 f260:=Tryz.func173.trans (congrArg some (by kernel_rfl))
 f266:=Tryz.func179.trans (congrArg some (by kernel_rfl))
 f267:=Tryz.func177.trans (congrArg some (by kernel_rfl))
 f268:=Tryz.func140.trans (congrArg some (by kernel_rfl))
 f314:=Tryz.func180.trans (congrArg some (by kernel_rfl))
 t0:=Tryz.underlying0
 a0:=Tryz.isAgg0
 z0:=Tryz.sizeOf0
 v0:=Tryz.zeroValue0
 t3:=Tryz.underlying3
 a3:=Tryz.isAgg3
 z3:=Tryz.sizeOf3
 v3:=Tryz.zeroValue3
 t4:=Tryz.underlying4
 a4:=Tryz.isAgg4
 z4:=Tryz.sizeOf4
 v4:=Tryz.zeroValue4
 t5:=Tryz.underlying5
 a5:=Tryz.isAgg5
 z5:=Tryz.sizeOf5
 v5:=Tryz.zeroValue5
 t9:=Tryz.underlying9
 a9:=Tryz.isAgg9
 z9:=Tryz.sizeOf9
 v9:=Tryz.zeroValue9
 t21:=Tryz.underlying21
 a21:=Tryz.isAgg21
 z21:=Tryz.sizeOf21
 v21:=Tryz.zeroValue21
 t31:=Tryz.underlying37
 a31:=Tryz.isAgg37
 z31:=Tryz.sizeOf37
 v31:=Tryz.zeroValue37
 t46:=Tryz.underlying180
 a46:=Tryz.isAgg180
 z46:=Tryz.sizeOf180
 v46:=Tryz.zeroValue180
 t51:=Tryz.underlying192
 a51:=Tryz.isAgg192
 z51:=Tryz.sizeOf192
 v51:=Tryz.zeroValue192
 t105:=Tryz.underlying202
 a105:=Tryz.isAgg202
 z105:=Tryz.sizeOf202
 v105:=Tryz.zeroValue202
 t119:=Tryz.underlying214
 a119:=Tryz.isAgg214
 z119:=Tryz.sizeOf214
 t138:=Tryz.underlying216
 a138:=Tryz.isAgg216
 z138:=Tryz.sizeOf216
 v138:=Tryz.zeroValue216
 t139:=Tryz.underlying217
 a139:=Tryz.isAgg217
 z139:=Tryz.sizeOf217
 v139:=Tryz.zeroValue217
 t146:=Tryz.underlying218
 a146:=Tryz.isAgg218
 z146:=Tryz.sizeOf218
 v146:=Tryz.zeroValue218
 g1:=by kernel_rfl
 g3:=by kernel_rfl
 g4:=by kernel_rfl }
end Go.Proofs
namespace Go.Proofs.YtaiondckookpiaaGreatDoor
open Go Go.Vx
def okC(t:Str):Prop:=CT t/\t ≠ []
open Classical in
noncomputable def zer(t:Str):Str:=if okC t then t else []
open Classical in
noncomputable def perr(t:Str):Int:=if 256<t.length then 2 else if okC t then 0 else 10
theorem zer_ct(t:Str):CT (zer t):=by
 unfold zer
 split
 . rename_i h;exact h.1
 . exact .nil
theorem zer_of{t:Str}(h:okC t):zer t=t:=by unfold zer;rw[if_pos h]
theorem zer_not{t:Str}(h:¬ okC t):zer t=[]:=by unfold zer;rw[if_neg h]
theorem eqCube:EqT Tryz.prog 46 [.i .i64,.i .u64,.i .u64,.i .u64,.i .u64,.i .u64,.i .u64,.i .u64,.i .u64]:=EqT.of_b tok (ti:=_) rfl rfl (by kernel_rfl)
@[simp] theorem wof_car_nil(k:Nat):wof (car []) k=0#64:=BitVec.eq_of_getLsbD_eq fun i hi=>by rw[wof_get _ _ _ hi];simp[car]
@[simp] theorem wof_one_nil(k:Nat):wof (one []) k=0#64:=BitVec.eq_of_getLsbD_eq fun i hi=>by rw[wof_get _ _ _ hi];simp[one]
def cubOk(t:Str):Prop:=∀ b ∈ t,b=48\/b=49\/b=120
theorem cubOk_step{t:Str}{i:Nat}{b:UInt8}(h:cubOk (t.take i))(hb:t[i]? = some b)(hd:b=48\/b=49\/b=120):cubOk (t.take (i+1)):=by
 intro x hx
 rw[List.take_add_one,hb] at hx
 rcases List.mem_append.1 hx with hx|hx
 . exact h x hx
 . simp at hx;rw[hx];exact hd
theorem u8_ne{b c:UInt8}(h:b ≠ c):¬ ((b.toNat:Nat):Int)=((c.toNat:Nat):Int):=fun e=>h (UInt8.toNat_inj.1 (by omega))
set_option maxHeartbeats 4000000 in
theorem parse_at(t:Str):FSpec Tryz.prog T 45 [.s t] (fun d rows=>d = .tup [.agg (crow (zer t)),.i .i64 (perr t)]/\rows=[]):=by
 refine FSpec.of_ok tok Tryz.func45 rfl Tryz.call45 (by simp) ?_
 (try (conv=>whnf));repeat' (first|refine Ok.seq ?_|((first|refine Ok.region tok ?_|refine Ok.cond ?_);conv=>whnf)|refine Ok.block ?_|((first|refine Ok.skip ?_|refine Ok.ret ?_);conv=>whnf)|(refine bI ?_ ?_<;>intro<;>(conv=>whnf)<;>(try (exfalso;omega)))|fail)
 . rename_i h
   refine Or.inl ?_;(conv=>whnf)
   refine⟨?_,rfl⟩
   rw[zer_not (fun h2=>by have:=h2.1.len;omega),crow_nil]
   unfold perr
   rw[if_pos (by omega)]
   rfl
 . rename_i h0 h
   refine Or.inl ?_;(conv=>whnf)
   refine⟨?_,rfl⟩
   rw[zer_not (fun h2=>h2.2 h),crow_nil]
   unfold perr
   rw[if_neg (by omega),if_neg (fun h2=>h2.2 h)]
   rfl
 . rename_i h0 h1
   have hlen:t.length<=256:=by omega
   have hne:t ≠ []:=h1
   refine Ok.loopU [0,2,4,17] [18] 0 2 (fun (i:Nat)=>[.i .i64 (i:Nat)]) (fun (i:Nat) (_:List (List D))=>[[.i .i64 0,.i .u64 0,.i .u64 0,.i .u64 0,.i .u64 0,.i .u64 0,.i .u64 0,.i .u64 0,.i .u64 0],cells9 t.length (car (t.take i)) (one (t.take i))]) (fun _ r=>r) (fun (i:Nat)=>i<=t.length/\cubOk (t.take i)) (fun (i:Nat)=>t.length - i) (0) (⟨Nat.zero_le _,by simp[cubOk]⟩) ?_;(conv=>whnf);refine⟨by ((conv=>whnf);first|rfl|(simp[envCat,List.take_of_length_le,cells9];done)|(simp[envCat,List.take_of_length_le,cells9];rw[IntKind.wrap_i64];omega)),?_⟩
   rintro i ⟨hi,hok⟩
   (conv=>whnf)
   by_cases hit:i<t.length
   . obtain⟨b,hb⟩:∃ b,t[i]? = some b:=⟨_,List.getElem?_eq_getElem hit⟩
     have hbI:t[((i:Nat):Int).toNat]? = some b:=hb
     obtain⟨q,r,hqr,hr,hq⟩:=split64 i (by omega)
     have hrem:=rem64 hqr hr
     have hquo:=quo64 hqr hr (by omega)
     have hrr:((r:Nat):Int)=((r:Nat):Int)/\r<64:=⟨rfl,hr⟩
     by_cases h49:b=49
     . subst h49
       have hn:(((49:UInt8).toNat:Nat):Int)=49:=rfl
       rcases hq with rfl|rfl|rfl|rfl
       all_goals
        (try (conv=>whnf));repeat' (first|refine Ok.seq ?_|((first|refine Ok.region tok ?_|refine Ok.cond ?_);conv=>whnf)|refine Ok.block ?_|((first|refine Ok.skip ?_|refine⟨_,by assumption,?_⟩);conv=>whnf)|(refine bI ?_ ?_<;>intro<;>(conv=>whnf)<;>(try (exfalso;omega)))|(refine aJ ?_;conv=>whnf)|fail)
        refine Or.inr (Or.inr (Or.inl ?_));(conv=>whnf);refine⟨_,_,Tryz.func101,rfl,Tryz.call101,?_⟩;(conv=>whnf)
        (try (conv=>whnf));repeat' (first|((first|(with_reducible_and_instances (first|refine nShl1' rfl (by assumption) ?_|refine nOr ?_))|refine Ok.region tok ?_|refine Ok.region_plan (id:=0) tok follows [(5,12,[])] [.q 0,.q 1,.q 2,.q 3,.q 4,.q 5,.q 6,.q 7,.q 8,.q 9,.q 10,.q 11,.l 12] (by kernel_rfl) ?_|refine⟨_,(hquo.symm).symm,?_⟩|refine⟨_,(hrem.symm).symm,?_⟩|refine aJ ?_|refine⟨_,rfl,?_⟩);conv=>whnf)|fail)
        refine Or.inr (Or.inr (Or.inl ?_));(conv=>whnf);refine⟨_,_,Tryz.func101,rfl,Tryz.call101,?_⟩;(conv=>whnf)
        (try (conv=>whnf));repeat' (first|((first|(with_reducible_and_instances (first|refine nShl1' rfl (by assumption) ?_|refine nOr ?_))|refine Ok.region tok ?_|refine Ok.region_plan (id:=0) tok follows [(5,12,[])] [.q 0,.q 1,.q 2,.q 3,.q 4,.q 5,.q 6,.q 7,.q 8,.q 9,.q 10,.q 11,.l 12] (by kernel_rfl) ?_|refine⟨_,(hquo.symm).symm,?_⟩|refine⟨_,(hrem.symm).symm,?_⟩|refine nI ?_|refine aJ ?_|refine⟨_,rfl,?_⟩);conv=>whnf)|fail)
        refine⟨i+1,by omega,⟨by omega,cubOk_step hok hb (by simp)⟩,?_⟩
        have c0:=(put_word (f:=car (t.take i)) (g:=car (t.take (i+1))) hqr hr (car_put hb rfl) 0).trans (by first|exact if_pos rfl|exact if_neg (by decide))
        have c1:=(put_word (f:=car (t.take i)) (g:=car (t.take (i+1))) hqr hr (car_put hb rfl) 1).trans (by first|exact if_pos rfl|exact if_neg (by decide))
        have c2:=(put_word (f:=car (t.take i)) (g:=car (t.take (i+1))) hqr hr (car_put hb rfl) 2).trans (by first|exact if_pos rfl|exact if_neg (by decide))
        have c3:=(put_word (f:=car (t.take i)) (g:=car (t.take (i+1))) hqr hr (car_put hb rfl) 3).trans (by first|exact if_pos rfl|exact if_neg (by decide))
        have o0:=(put_word (f:=one (t.take i)) (g:=one (t.take (i+1))) hqr hr (one_put hb) 0).trans (by first|exact if_pos rfl|exact if_neg (by decide))
        have o1:=(put_word (f:=one (t.take i)) (g:=one (t.take (i+1))) hqr hr (one_put hb) 1).trans (by first|exact if_pos rfl|exact if_neg (by decide))
        have o2:=(put_word (f:=one (t.take i)) (g:=one (t.take (i+1))) hqr hr (one_put hb) 2).trans (by first|exact if_pos rfl|exact if_neg (by decide))
        have o3:=(put_word (f:=one (t.take i)) (g:=one (t.take (i+1))) hqr hr (one_put hb) 3).trans (by first|exact if_pos rfl|exact if_neg (by decide))
        (conv=>whnf)
        simp only[envCat,cells9,c0,c1,c2,c3,o0,o1,o2,o3]
        rfl
     by_cases h48:b=48
     . subst h48
       have hn:(((48:UInt8).toNat:Nat):Int)=48:=rfl
       rcases hq with rfl|rfl|rfl|rfl
       all_goals
        (try (conv=>whnf));repeat' (first|refine Ok.seq ?_|((first|refine Ok.region tok ?_|refine Ok.cond ?_);conv=>whnf)|refine Ok.block ?_|((first|refine Ok.skip ?_|refine⟨_,by assumption,?_⟩);conv=>whnf)|(refine bI ?_ ?_<;>intro<;>(conv=>whnf)<;>(try (exfalso;omega)))|(refine aJ ?_;conv=>whnf)|fail)
        refine Or.inr (Or.inr (Or.inl ?_));(conv=>whnf);refine⟨_,_,Tryz.func101,rfl,Tryz.call101,?_⟩;(conv=>whnf)
        (try (conv=>whnf));repeat' (first|((first|(with_reducible_and_instances (first|refine nShl1' rfl (by assumption) ?_|refine nOr ?_))|refine Ok.region tok ?_|refine Ok.region_plan (id:=0) tok follows [(5,12,[])] [.q 0,.q 1,.q 2,.q 3,.q 4,.q 5,.q 6,.q 7,.q 8,.q 9,.q 10,.q 11,.l 12] (by kernel_rfl) ?_|refine⟨_,(hquo.symm).symm,?_⟩|refine⟨_,(hrem.symm).symm,?_⟩|refine nI ?_|refine aJ ?_|refine⟨_,rfl,?_⟩);conv=>whnf)|fail)
        refine⟨i+1,by omega,⟨by omega,cubOk_step hok hb (by simp)⟩,?_⟩
        have c0:=(put_word (f:=car (t.take i)) (g:=car (t.take (i+1))) hqr hr (car_put hb rfl) 0).trans (by first|exact if_pos rfl|exact if_neg (by decide))
        have c1:=(put_word (f:=car (t.take i)) (g:=car (t.take (i+1))) hqr hr (car_put hb rfl) 1).trans (by first|exact if_pos rfl|exact if_neg (by decide))
        have c2:=(put_word (f:=car (t.take i)) (g:=car (t.take (i+1))) hqr hr (car_put hb rfl) 2).trans (by first|exact if_pos rfl|exact if_neg (by decide))
        have c3:=(put_word (f:=car (t.take i)) (g:=car (t.take (i+1))) hqr hr (car_put hb rfl) 3).trans (by first|exact if_pos rfl|exact if_neg (by decide))
        have o0:=one_same hb (by decide) 0
        have o1:=one_same hb (by decide) 1
        have o2:=one_same hb (by decide) 2
        have o3:=one_same hb (by decide) 3
        (conv=>whnf)
        simp only[envCat,cells9,c0,c1,c2,c3,o0,o1,o2,o3]
        rfl
     have hn49:=u8_ne h49
     have hn48:=u8_ne h48
     have e49:(((49:UInt8).toNat:Nat):Int)=49:=rfl
     have e48:(((48:UInt8).toNat:Nat):Int)=48:=rfl
     rw[e49] at hn49
     rw[e48] at hn48
     by_cases h120:b=120
     . subst h120
       have hn:(((120:UInt8).toNat:Nat):Int)=120:=rfl
       (try (conv=>whnf));repeat' (first|refine Ok.seq ?_|((first|refine Ok.region tok ?_|refine Ok.cond ?_);conv=>whnf)|refine Ok.block ?_|((first|refine Ok.skip ?_|refine nI ?_|refine⟨_,by assumption,?_⟩);conv=>whnf)|(refine bI ?_ ?_<;>intro<;>(conv=>whnf)<;>(try (exfalso;omega)))|(refine aJ ?_;conv=>whnf)|fail)
       refine⟨i+1,by omega,⟨by omega,cubOk_step hok hb (by simp)⟩,?_⟩
       have c0:=car_same hb rfl 0
       have c1:=car_same hb rfl 1
       have c2:=car_same hb rfl 2
       have c3:=car_same hb rfl 3
       have o0:=one_same hb (by decide) 0
       have o1:=one_same hb (by decide) 1
       have o2:=one_same hb (by decide) 2
       have o3:=one_same hb (by decide) 3
       (conv=>whnf)
       simp only[envCat,cells9,c0,c1,c2,c3,o0,o1,o2,o3]
       rfl
     . have hn120:=u8_ne h120
       have e120:(((120:UInt8).toNat:Nat):Int)=120:=rfl
       rw[e120] at hn120
       (try (conv=>whnf));repeat' (first|refine Ok.seq ?_|((first|refine Ok.region tok ?_|refine Ok.cond ?_);conv=>whnf)|refine Ok.block ?_|((first|refine Ok.skip ?_|refine Ok.ret ?_|refine⟨_,by assumption,?_⟩);conv=>whnf)|(refine bI ?_ ?_<;>intro<;>(conv=>whnf)<;>(try (exfalso;omega)))|((first|refine aJ ?_|refine num_any ?_);conv=>whnf)|fail)
       refine Or.inl ?_;(conv=>whnf)
       refine⟨?_,rfl⟩
       have hno:¬ okC t:=fun h2=>by
        rcases h2.1.cub b (List.mem_of_getElem? hb) with e|e|e
        . exact h48 e
        . exact h49 e
        . exact h120 e
       rw[zer_not hno,crow_nil]
       unfold perr
       rw[if_neg (by omega),if_neg hno]
       rfl
   . have he:i=t.length:=by omega
     subst he
     rw[List.take_length] at *
     (try (conv=>whnf));repeat' (first|refine Ok.seq ?_|((first|refine Ok.region tok ?_|refine Ok.cond ?_|refine Ok.exit ?_|refine Ok.ret ?_);conv=>whnf)|(refine bI ?_ ?_<;>intro<;>(conv=>whnf)<;>(try (exfalso;omega)))|fail)
     refine Or.inl ?_;(conv=>whnf)
     refine⟨?_,rfl⟩
     have hyes:okC t:=⟨⟨hlen,hok⟩,hne⟩
     rw[zer_of hyes]
     unfold perr
     rw[if_neg (by omega),if_pos hyes]
     rfl
end Go.Proofs.YtaiondckookpiaaGreatDoor
namespace Go.Proofs.YtaiondckookpiaaGreatDoor
open Go Go.Vx
theorem fits_at(c d:Str):FSpec Tryz.prog T 119 [.agg (crow c),.agg (crow d)] (fun r _=>r = .b (c.length=d.length/\0<c.length)):=by
 refine FSpec.of_ok tok Tryz.func119 rfl Tryz.call119 (by simp) ?_
 (try (conv=>whnf));repeat' (first|refine Ok.seq ?_|((first|refine Ok.region tok ?_|refine Ok.ret ?_);conv=>whnf)|(refine bI ?_ ?_<;>intro<;>(conv=>whnf)<;>(try (exfalso;omega)))|fail)
 all_goals
  refine Or.inl ?_;(conv=>whnf)
  simp[oneD]
  omega
theorem mt_none{c d:Str}(h:meetT c d=none):(D.tup [.agg [.i .i64 0,.i .u64 0,.i .u64 0,.i .u64 0,.i .u64 0,.i .u64 0,.i .u64 0,.i .u64 0,.i .u64 0],.b False]) = .tup [.agg (crow ((meetT c d).getD [])),.b ((meetT c d).isSome=true)]:=by
 rw[h]
 simp[crow_nil]
set_option maxHeartbeats 4000000 in
theorem meet_at(c d:Str)(hc:CT c)(hd:CT d):FSpec Tryz.prog T 71 [.agg (crow c),.agg (crow d)] (fun r rows=>r = .tup [.agg (crow ((meetT c d).getD [])),.b ((meetT c d).isSome=true)]/\rows=[]):=by
 refine FSpec.of_ok tok Tryz.func71 rfl Tryz.call71 (by simp) ?_
 (try (conv=>whnf));repeat' (first|refine Ok.seq ?_|((first|refine Ok.region tok ?_|refine Ok.cond ?_);conv=>whnf)|refine Ok.block ?_|((first|refine Ok.skip ?_|refine Ok.ret ?_);conv=>whnf)|(refine Or.inl ?_;(conv=>whnf);(repeat (refine aI ?_;conv=>whnf));refine⟨_,fits_at c d,rfl,?_⟩;conv=>whnf)|(refine bI ?_ ?_<;>intro<;>(conv=>whnf)<;>(try (exfalso;omega)))|fail)
 . rename_i h
   refine Or.inl ?_;(conv=>whnf)
   refine⟨mt_none ?_,rfl⟩
   unfold meetT
   split
   . rfl
   . rename_i hne
     cases hm:meetL c d with
     | none=>rfl
     | some m=>exact absurd ⟨by have:=meetL_len hm;omega,List.length_pos_iff.2 hne⟩ h
 . rename_i h
   have hfit:c.length=d.length/\0<c.length:=Classical.not_not.1 h
   have hne:c ≠ []:=List.length_pos_iff.1 hfit.2
   refine Ok.loopU [2,3,4] [12] 0 3 (fun (w:Nat)=>[.i .i64 (w:Nat)]) (fun (w:Nat) (_:List (List D))=>[mcells c.length w c d,crow d,[.i .i64 0,.i .u64 0,.i .u64 0,.i .u64 0,.i .u64 0,.i .u64 0,.i .u64 0,.i .u64 0,.i .u64 0]]) (fun _ r=>r) (fun (w:Nat)=>w<=4/\∀ k,k<w->((wof (cfl c d) k).toNat:Int)=0) (fun (w:Nat)=>4 - w) (0) (⟨by omega,fun k hk=>absurd hk (by omega)⟩) ?_;(conv=>whnf);refine⟨by ((conv=>whnf);first|rfl|(simp[envCat,List.take_of_length_le,cells9,mcells];done)|(simp[envCat,List.take_of_length_le,cells9,mcells];rw[IntKind.wrap_i64];omega)),?_⟩
   rintro w ⟨hw,hz⟩
   (conv=>whnf)
   by_cases hw4:w=4
   . subst hw4
     obtain⟨m,hm,m1,m2⟩:=cfl_some hc hd hfit.1 hne (no_cfl hc hz)
     have hml:=(meetT_ct hm hc hd).2.1
     (try (conv=>whnf));repeat' (first|refine Ok.seq ?_|((first|refine Ok.region tok ?_|refine Ok.cond ?_|refine Ok.exit ?_|refine Ok.ret ?_);conv=>whnf)|(refine bI ?_ ?_<;>intro<;>(conv=>whnf)<;>(try (exfalso;omega)))|fail)
     refine Or.inl ?_;(conv=>whnf)
     refine⟨?_,rfl⟩
     have hme:=mcells_end hml m1 m2
     rw[hm]
     show D.tup [.agg (mcells c.length 4 c d),.b True]=_
     rw[hme]
     simp
   . rcases (by omega:w=0\/w=1\/w=2\/w=3) with rfl|rfl|rfl|rfl
     . (try (conv=>whnf));repeat' (first|((with_reducible_and_instances (first|refine nAnd ?_|refine nOr ?_|refine nXor ?_));conv=>whnf)|refine Ok.seq ?_|((first|refine Ok.region tok ?_|refine Ok.region_plan (id:=8) tok follows [(3,11,[]),(7,11,[])] [.q 0,.q 1,.q 2,.q 3,.q 4,.q 5,.q 6,.q 7,.q 8,.q 9,.q 10,.l 11] (by kernel_rfl) ?_|refine Ok.region_plan (id:=9) tok follows [(3,11,[]),(7,11,[])] [.q 0,.q 1,.q 2,.q 3,.q 4,.q 5,.q 6,.q 7,.q 8,.q 9,.q 10,.l 11] (by kernel_rfl) ?_|refine Ok.region_draw tok follows (by kernel_rfl) ?_|refine Ok.cond ?_);conv=>whnf)|refine Ok.block ?_|((first|refine Ok.skip ?_|refine Ok.ret ?_|refine nI ?_);conv=>whnf)|(refine bI ?_ ?_<;>intro<;>(conv=>whnf)<;>(try (exfalso;omega)))|((first|refine aJ ?_|refine⟨_,rfl,?_⟩);conv=>whnf)|fail)
       . rename_i hx
         refine Or.inl ?_;(conv=>whnf)
         have hx2:¬ ((wof (cfl c d) 0).toNat:Int)=0:=by
          rw[<- word_cfl]
          exact hx
         obtain⟨i,hi⟩:=wof_nz hx2
         exact⟨mt_none (cfl_none hc hd hi),rfl⟩
       . rename_i hx
         have hx2:((wof (cfl c d) 0).toNat:Int)=0:=by
          rw[<- word_cfl]
          exact Classical.not_not.1 hx
         refine⟨1,by omega,⟨by omega,fun k hk=>?_⟩,?_⟩
         . by_cases hk2:k=0
           . rw[hk2];exact hx2
           . exact hz k (by omega)
         . (conv=>whnf)
           rfl
     . (try (conv=>whnf));repeat' (first|((with_reducible_and_instances (first|refine nAnd ?_|refine nOr ?_|refine nXor ?_));conv=>whnf)|refine Ok.seq ?_|((first|refine Ok.region tok ?_|refine Ok.region_plan (id:=8) tok follows [(3,11,[]),(7,11,[])] [.q 0,.q 1,.q 2,.q 3,.q 4,.q 5,.q 6,.q 7,.q 8,.q 9,.q 10,.l 11] (by kernel_rfl) ?_|refine Ok.region_plan (id:=9) tok follows [(3,11,[]),(7,11,[])] [.q 0,.q 1,.q 2,.q 3,.q 4,.q 5,.q 6,.q 7,.q 8,.q 9,.q 10,.l 11] (by kernel_rfl) ?_|refine Ok.region_draw tok follows (by kernel_rfl) ?_|refine Ok.cond ?_);conv=>whnf)|refine Ok.block ?_|((first|refine Ok.skip ?_|refine Ok.ret ?_|refine nI ?_);conv=>whnf)|(refine bI ?_ ?_<;>intro<;>(conv=>whnf)<;>(try (exfalso;omega)))|((first|refine aJ ?_|refine⟨_,rfl,?_⟩);conv=>whnf)|fail)
       . rename_i hx
         refine Or.inl ?_;(conv=>whnf)
         have hx2:¬ ((wof (cfl c d) 1).toNat:Int)=0:=by
          rw[<- word_cfl]
          exact hx
         obtain⟨i,hi⟩:=wof_nz hx2
         exact⟨mt_none (cfl_none hc hd hi),rfl⟩
       . rename_i hx
         have hx2:((wof (cfl c d) 1).toNat:Int)=0:=by
          rw[<- word_cfl]
          exact Classical.not_not.1 hx
         refine⟨2,by omega,⟨by omega,fun k hk=>?_⟩,?_⟩
         . by_cases hk2:k=1
           . rw[hk2];exact hx2
           . exact hz k (by omega)
         . (conv=>whnf)
           rfl
     . (try (conv=>whnf));repeat' (first|((with_reducible_and_instances (first|refine nAnd ?_|refine nOr ?_|refine nXor ?_));conv=>whnf)|refine Ok.seq ?_|((first|refine Ok.region tok ?_|refine Ok.region_plan (id:=8) tok follows [(3,11,[]),(7,11,[])] [.q 0,.q 1,.q 2,.q 3,.q 4,.q 5,.q 6,.q 7,.q 8,.q 9,.q 10,.l 11] (by kernel_rfl) ?_|refine Ok.region_plan (id:=9) tok follows [(3,11,[]),(7,11,[])] [.q 0,.q 1,.q 2,.q 3,.q 4,.q 5,.q 6,.q 7,.q 8,.q 9,.q 10,.l 11] (by kernel_rfl) ?_|refine Ok.region_draw tok follows (by kernel_rfl) ?_|refine Ok.cond ?_);conv=>whnf)|refine Ok.block ?_|((first|refine Ok.skip ?_|refine Ok.ret ?_|refine nI ?_);conv=>whnf)|(refine bI ?_ ?_<;>intro<;>(conv=>whnf)<;>(try (exfalso;omega)))|((first|refine aJ ?_|refine⟨_,rfl,?_⟩);conv=>whnf)|fail)
       . rename_i hx
         refine Or.inl ?_;(conv=>whnf)
         have hx2:¬ ((wof (cfl c d) 2).toNat:Int)=0:=by
          rw[<- word_cfl]
          exact hx
         obtain⟨i,hi⟩:=wof_nz hx2
         exact⟨mt_none (cfl_none hc hd hi),rfl⟩
       . rename_i hx
         have hx2:((wof (cfl c d) 2).toNat:Int)=0:=by
          rw[<- word_cfl]
          exact Classical.not_not.1 hx
         refine⟨3,by omega,⟨by omega,fun k hk=>?_⟩,?_⟩
         . by_cases hk2:k=2
           . rw[hk2];exact hx2
           . exact hz k (by omega)
         . (conv=>whnf)
           rfl
     . (try (conv=>whnf));repeat' (first|((with_reducible_and_instances (first|refine nAnd ?_|refine nOr ?_|refine nXor ?_));conv=>whnf)|refine Ok.seq ?_|((first|refine Ok.region tok ?_|refine Ok.region_plan (id:=8) tok follows [(3,11,[]),(7,11,[])] [.q 0,.q 1,.q 2,.q 3,.q 4,.q 5,.q 6,.q 7,.q 8,.q 9,.q 10,.l 11] (by kernel_rfl) ?_|refine Ok.region_plan (id:=9) tok follows [(3,11,[]),(7,11,[])] [.q 0,.q 1,.q 2,.q 3,.q 4,.q 5,.q 6,.q 7,.q 8,.q 9,.q 10,.l 11] (by kernel_rfl) ?_|refine Ok.region_draw tok follows (by kernel_rfl) ?_|refine Ok.cond ?_);conv=>whnf)|refine Ok.block ?_|((first|refine Ok.skip ?_|refine Ok.ret ?_|refine nI ?_);conv=>whnf)|(refine bI ?_ ?_<;>intro<;>(conv=>whnf)<;>(try (exfalso;omega)))|((first|refine aJ ?_|refine⟨_,rfl,?_⟩);conv=>whnf)|fail)
       . rename_i hx
         refine Or.inl ?_;(conv=>whnf)
         have hx2:¬ ((wof (cfl c d) 3).toNat:Int)=0:=by
          rw[<- word_cfl]
          exact hx
         obtain⟨i,hi⟩:=wof_nz hx2
         exact⟨mt_none (cfl_none hc hd hi),rfl⟩
       . rename_i hx
         have hx2:((wof (cfl c d) 3).toNat:Int)=0:=by
          rw[<- word_cfl]
          exact Classical.not_not.1 hx
         refine⟨4,by omega,⟨by omega,fun k hk=>?_⟩,?_⟩
         . by_cases hk2:k=3
           . rw[hk2];exact hx2
           . exact hz k (by omega)
         . (conv=>whnf)
           rfl
set_option maxRecDepth 100000 in
theorem within_at(c d:Str)(hc:CT c)(hd:CT d):FSpec Tryz.prog T 133 [.agg (crow c),.agg (crow d)] (fun r _=>r = .b (inT c d)):=by
 refine FSpec.of_ok tok Tryz.func133 rfl Tryz.call133 (by simp) ?_
 (try (conv=>whnf));repeat' (first|refine Ok.seq ?_|((first|refine Ok.region tok ?_|refine Ok.ret ?_);conv=>whnf)|(refine Or.inr (Or.inl ?_);(conv=>whnf);(repeat (refine aI ?_;conv=>whnf));refine⟨_,meet_at c d hc hd,?_⟩;rintro _ _ ⟨rfl,rfl⟩;conv=>whnf)|(refine bI ?_ ?_<;>intro<;>(conv=>whnf)<;>(try (exfalso;omega)))|fail)
 . rename_i h
   refine⟨_,eqCube,by kernel_rfl,?_⟩
   (conv=>whnf)
   (try (conv=>whnf));repeat' (first|(refine Ok.ret ?_;conv=>whnf)|fail)
   refine Or.inl ?_;(conv=>whnf)
   obtain⟨m,hm⟩:=Option.isSome_iff_exists.1 h
   have hmc:=(meetT_ct hm hc hd).1
   show D.b (eqDs (crow ((meetT c d).getD [])) (crow c))=D.b (inT c d)
   rw[hm,inT_meet,hm]
   refine congrArg D.b (propext ⟨fun h=>?_,fun h=>?_⟩)
   . rw[crow_inj hmc hc h]
   . cases h
     exact eqDs_self _
 . rename_i h
   refine Or.inl ?_;(conv=>whnf)
   show D.b False=D.b (inT c d)
   refine congrArg D.b (propext ⟨fun h=>h.elim,fun h2=>?_⟩)
   rw[inT_meet] at h2
   rw[h2] at h
   exact h rfl
end Go.Proofs.YtaiondckookpiaaGreatDoor
namespace Go.Proofs.YtaiondckookpiaaGreatDoor
open Go Go.Vx
theorem fill_at{t:Str}{i:Nat}(hi:i<t.length):(t.take i++List.replicate (t.length - i) (0:UInt8))[i]? = some 0:=by
 rw[List.getElem?_append_right (by simp;omega)]
 simp[List.getElem?_replicate]
 omega
theorem fill_set{t:Str}{i:Nat}{b:UInt8}(h:t[i]? = some b):(t.take i++List.replicate (t.length - i) (0:UInt8)).set i b=t.take (i+1)++List.replicate (t.length - (i+1)) 0:=by
 have hi:i<t.length:=(List.getElem?_eq_some_iff.1 h).1
 rw[List.set_append,if_neg (by simp;omega)]
 rw[show t.length - i=(t.length - (i+1))+1 by omega,List.replicate_succ]
 rw[show i - (t.take i).length=0 by simp;omega]
 rw[List.set_cons_zero,List.take_add_one,h]
 simp
set_option maxHeartbeats 4000000 in
theorem text_at(t:Str)(ht:CT t):FSpec Tryz.prog T 33 [.agg (crow t)] (fun r _=>r = .s t):=by
 have hlen:=ht.len
 refine FSpec.of_ok tok Tryz.func33 rfl Tryz.call33 (by simp) ?_
 (try (conv=>whnf));repeat' (first|refine Ok.seq ?_|(refine Ok.region tok ?_;conv=>whnf)|refine Ok.block ?_|((first|refine⟨_,_,rfl,rfl,?_⟩|refine aJ ?_|refine⟨_,rfl,?_⟩);conv=>whnf)|fail)
 refine Ok.loopU [1,3,9] [10] 1 1 (fun (i:Nat)=>[.i .i64 (i:Nat)]) (fun (i:Nat) (_:List (List D))=>[crow t]) (fun (i:Nat) (_:Vx.Rows)=>[some (5,(t.take i++List.replicate (t.length - i) 0).map bcell)]) (fun (i:Nat)=>i<=t.length) (fun (i:Nat)=>t.length - i) (0) (Nat.zero_le _) ?_;(conv=>whnf);refine⟨by ((conv=>whnf);first|rfl|(simp[envCat,List.take_of_length_le,cells9,bcell];done)|(simp[envCat,List.take_of_length_le,cells9,bcell];rw[IntKind.wrap_i64];omega)),?_⟩
 rintro i hi
 have hll:(t.take i++List.replicate (t.length - i) (0:UInt8)).length=t.length:=by simp;omega
 have hlm:((t.take i++List.replicate (t.length - i) (0:UInt8)).map bcell).length=t.length:=by rw[List.length_map,hll]
 (conv=>whnf)
 by_cases hit:i<t.length
 . obtain⟨b,hb⟩:∃ b,t[i]? = some b:=⟨_,List.getElem?_eq_getElem hit⟩
   obtain⟨q,r,hqr,hr,hq⟩:=split64 i (by omega)
   have hrem:=rem64 hqr hr
   have hquo:=quo64 hqr hr (by omega)
   have hrr:((r:Nat):Int)=((r:Nat):Int)/\r<64:=⟨rfl,hr⟩
   have hca:=at_word (f:=car t) hqr hr
   have hoa:=at_word (f:=one t) hqr hr
   rw[(at_b hb).1] at hca
   rw[(at_b hb).2] at hoa
   have hfa:=fill_at hit
   have hfs:=fill_set hb
   rcases ht.cub b (List.mem_of_getElem? hb) with rfl|rfl|rfl
   . have hc:=hca.2 rfl
     have ho:¬ _:=fun e=>absurd (hoa.1 e) (by decide)
     clear hca hoa
     rcases hq with rfl|rfl|rfl|rfl
     all_goals
      (try (conv=>whnf));repeat' (first|refine Ok.seq ?_|((first|refine Ok.region tok ?_|refine Ok.cond ?_);conv=>whnf)|refine Ok.block ?_|(refine Ok.skip ?_;conv=>whnf)|(refine bI ?_ ?_<;>intro<;>(conv=>whnf)<;>(try (exfalso;omega)))|fail)
      refine Or.inr (Or.inr (Or.inl ?_));(conv=>whnf);refine⟨_,_,Tryz.func89,rfl,Tryz.call89,?_⟩;(conv=>whnf)
      (try (conv=>whnf));repeat' (first|((with_reducible_and_instances (first|refine nShr (by assumption) ?_|refine nAnd1' rfl ?_));conv=>whnf)|refine Ok.seq ?_|((first|refine Ok.region tok ?_|refine⟨_,(hquo.symm).symm,?_⟩|refine⟨_,(hrem.symm).symm,?_⟩|refine Ok.cond ?_|refine Ok.ret ?_);conv=>whnf)|(refine bI ?_ ?_<;>intro<;>(conv=>whnf)<;>(try (exfalso;omega)))|((first|refine aJ ?_|refine⟨_,rfl,?_⟩);conv=>whnf)|fail)
      refine Or.inr (Or.inr (Or.inl ?_));(conv=>whnf);refine⟨_,_,Tryz.func89,rfl,Tryz.call89,?_⟩;(conv=>whnf)
      (try (conv=>whnf));repeat' (first|((with_reducible_and_instances (first|refine nShr (by assumption) ?_|refine nAnd1' rfl ?_));conv=>whnf)|refine Ok.seq ?_|((first|refine Ok.region tok ?_|refine⟨_,(hquo.symm).symm,?_⟩|refine⟨_,(hrem.symm).symm,?_⟩|refine Ok.cond ?_|refine Ok.ret ?_);conv=>whnf)|(refine bI ?_ ?_<;>intro<;>(conv=>whnf)<;>(try (exfalso;omega)))|((first|refine aJ ?_|refine⟨_,rfl,?_⟩);conv=>whnf)|fail)
      refine st 48 hfa (by simp[bcell]) (by simp[setCells,bcell]) ?_
      (try (conv=>whnf));repeat' (first|((first|refine Ok.region tok ?_|refine nI ?_);conv=>whnf)|fail)
      refine⟨i+1,by omega,by omega,?_⟩
      (conv=>whnf)
      simp only[toNat_cast,hfs,envCat]
      rfl
   . have hc:=hca.2 rfl
     have ho:=hoa.2 rfl
     clear hca hoa
     rcases hq with rfl|rfl|rfl|rfl
     all_goals
      (try (conv=>whnf));repeat' (first|refine Ok.seq ?_|((first|refine Ok.region tok ?_|refine Ok.cond ?_);conv=>whnf)|refine Ok.block ?_|(refine Ok.skip ?_;conv=>whnf)|(refine bI ?_ ?_<;>intro<;>(conv=>whnf)<;>(try (exfalso;omega)))|fail)
      refine Or.inr (Or.inr (Or.inl ?_));(conv=>whnf);refine⟨_,_,Tryz.func89,rfl,Tryz.call89,?_⟩;(conv=>whnf)
      (try (conv=>whnf));repeat' (first|((with_reducible_and_instances (first|refine nShr (by assumption) ?_|refine nAnd1' rfl ?_));conv=>whnf)|refine Ok.seq ?_|((first|refine Ok.region tok ?_|refine⟨_,(hquo.symm).symm,?_⟩|refine⟨_,(hrem.symm).symm,?_⟩|refine Ok.cond ?_|refine Ok.ret ?_);conv=>whnf)|(refine bI ?_ ?_<;>intro<;>(conv=>whnf)<;>(try (exfalso;omega)))|((first|refine aJ ?_|refine⟨_,rfl,?_⟩);conv=>whnf)|fail)
      refine Or.inr (Or.inr (Or.inl ?_));(conv=>whnf);refine⟨_,_,Tryz.func89,rfl,Tryz.call89,?_⟩;(conv=>whnf)
      (try (conv=>whnf));repeat' (first|((with_reducible_and_instances (first|refine nShr (by assumption) ?_|refine nAnd1' rfl ?_));conv=>whnf)|refine Ok.seq ?_|((first|refine Ok.region tok ?_|refine⟨_,(hquo.symm).symm,?_⟩|refine⟨_,(hrem.symm).symm,?_⟩|refine Ok.cond ?_|refine Ok.ret ?_);conv=>whnf)|(refine bI ?_ ?_<;>intro<;>(conv=>whnf)<;>(try (exfalso;omega)))|((first|refine aJ ?_|refine⟨_,rfl,?_⟩);conv=>whnf)|fail)
      refine st 49 hfa (by simp[bcell]) (by simp[setCells,bcell]) ?_
      (try (conv=>whnf));repeat' (first|((first|refine Ok.region tok ?_|refine nI ?_);conv=>whnf)|fail)
      refine⟨i+1,by omega,by omega,?_⟩
      (conv=>whnf)
      simp only[toNat_cast,hfs,envCat]
      rfl
   . have hc:¬ _:=fun e=>absurd (hca.1 e) (by decide)
     clear hca hoa
     rcases hq with rfl|rfl|rfl|rfl
     all_goals
      (try (conv=>whnf));repeat' (first|refine Ok.seq ?_|((first|refine Ok.region tok ?_|refine Ok.cond ?_);conv=>whnf)|refine Ok.block ?_|(refine Ok.skip ?_;conv=>whnf)|(refine bI ?_ ?_<;>intro<;>(conv=>whnf)<;>(try (exfalso;omega)))|fail)
      refine Or.inr (Or.inr (Or.inl ?_));(conv=>whnf);refine⟨_,_,Tryz.func89,rfl,Tryz.call89,?_⟩;(conv=>whnf)
      (try (conv=>whnf));repeat' (first|((with_reducible_and_instances (first|refine nShr (by assumption) ?_|refine nAnd1' rfl ?_));conv=>whnf)|refine Ok.seq ?_|((first|refine Ok.region tok ?_|refine⟨_,(hquo.symm).symm,?_⟩|refine⟨_,(hrem.symm).symm,?_⟩|refine Ok.cond ?_|refine Ok.ret ?_);conv=>whnf)|(refine bI ?_ ?_<;>intro<;>(conv=>whnf)<;>(try (exfalso;omega)))|((first|refine aJ ?_|refine⟨_,rfl,?_⟩);conv=>whnf)|fail)
      refine st 120 hfa (by simp[bcell]) (by simp[setCells,bcell]) ?_
      (try (conv=>whnf));repeat' (first|((first|refine Ok.region tok ?_|refine nI ?_);conv=>whnf)|fail)
      refine⟨i+1,by omega,by omega,?_⟩
      (conv=>whnf)
      simp only[toNat_cast,hfs,envCat]
      rfl
 . have he:i=t.length:=by omega
   subst he
   rw[List.take_length,Nat.sub_self,List.replicate_zero,List.append_nil] at *
   (try (conv=>whnf));repeat' (first|refine Ok.seq ?_|((first|refine Ok.region tok ?_|refine Ok.cond ?_|refine Ok.exit ?_);conv=>whnf)|(refine bI ?_ ?_<;>intro<;>(conv=>whnf)<;>(try (exfalso;omega)))|(refine aJ ?_;conv=>whnf)|fail)
   refine⟨t,take_all bcell t,?_⟩
   (try (conv=>whnf));repeat' (first|(refine Ok.ret ?_;conv=>whnf)|fail)
   refine Or.inl ?_;(conv=>whnf)
   rfl
end Go.Proofs.YtaiondckookpiaaGreatDoor
namespace Go.Proofs.YtaiondckookpiaaGreatDoor
open Go Go.Vx
def CN(c:Str):Prop:=CT c/\c ≠ []
theorem within2_at(c d:Str)(hc:CT c)(hd:CT d):FSpec Tryz.prog T 121 [.agg (crow c),.agg (crow d)] (fun r _=>r = .b (inT c d)):=by
 refine FSpec.of_ok tok Tryz.func121 rfl Tryz.call121 (by simp) ?_
 (try (conv=>whnf));repeat' (first|refine Ok.seq ?_|((first|refine Ok.region tok ?_|refine Ok.ret ?_);conv=>whnf)|(refine Or.inl ?_;(conv=>whnf);(repeat (refine aI ?_;conv=>whnf));refine⟨_,within_at c d hc hd,rfl,?_⟩;conv=>whnf)|fail)
 all_goals
  refine Or.inl ?_;(conv=>whnf)
  rfl
theorem withinC_at{c d:Str}(hc:CN c)(hd:CN d):FSpec Tryz.prog T 121 [.agg (crow c),.agg (crow d)] (fun r _=>r = .b (inL c d)):=by
 have:=within2_at c d hc.1 hd.1
 rwa [show inT c d=inL c d from propext ⟨fun h=>h.2,fun h=>⟨hc.2,h⟩⟩] at this
set_option maxRecDepth 100000 in
set_option maxHeartbeats 4000000 in
theorem greatestC_at(l:List Str){rl room:List (List D)}(hl:l.length<=1048576)(hok:∀ x ∈ l,CN x)(h:rl=l.map crow):FSpec Tryz.prog T 120 [.lst 46 rl room,.fn 121 [] []]
    (fun d rows=>∃ W:List Str,Kept inL l l.length W/\d = .own 0 (grG inL l).length/\rows=[some (46,W.map crow)]):=by
 subst h
 have hll:(l.map crow).length=l.length:=by simp
 refine FSpec.of_ok tok Tryz.func120 rfl Tryz.call120 (by simp) ?_
 (try (conv=>whnf));repeat' (first|refine Ok.seq ?_|(refine Ok.region tok ?_;conv=>whnf)|refine Ok.block ?_|(refine Ok.scope ?_)|(refine Ok.label ?_;conv=>whnf)|fail)
 refine Ok.ghost 5 46 rfl ?_
 (conv=>whnf)
 refine Ok.loopU [1,13,14] [5,15] 1 0 (fun (x:Nat × List Str)=>[.own 0 (grG inL (l.take x.1)).length,.i .i64 (x.1:Nat)]) (fun _ b=>b) (fun (x:Nat × List Str) (_:Vx.Rows)=>[some (46,x.2.map crow)]) (fun (x:Nat × List Str)=>Kept inL l x.1 x.2) (fun (x:Nat × List Str)=>l.length - x.1) ((0,[])) (Kept.zero) ?_;(conv=>whnf);refine⟨by ((conv=>whnf);first|rfl|(simp[envCat,List.take_of_length_le,cells9];done)|(simp[envCat,List.take_of_length_le,cells9];rw[IntKind.wrap_i64];omega)),?_⟩
 rintro⟨i,W⟩ hK
 dsimp only at hK ⊢
 have hWl:(W.map crow).length=W.length:=by simp
 have hKn:=hK.n
 have hKw:=hK.w
 have hKi:=hK.le
 (conv=>whnf)
 by_cases hil:i<l.length
 . obtain⟨x,hx⟩:∃ x,l[i]? = some x:=⟨_,List.getElem?_eq_getElem hil⟩
   have hxo:=hok x (List.mem_of_getElem? hx)
   have hmem:∀ y ∈ grG inL (l.take i),CN y:=fun y hy=>hok y (List.take_subset _ _ (grG_sub inL _ y hy))
   (try (conv=>whnf));repeat' (first|refine Ok.seq ?_|((first|refine Ok.region tok ?_|refine Ok.cond ?_);conv=>whnf)|refine Ok.block ?_|((first|refine Ok.skip ?_|refine ix _ (by assumption) ?_);conv=>whnf)|(refine bI ?_ ?_<;>intro<;>(conv=>whnf)<;>(try (exfalso;omega)))|fail)
   generalize hKK:grG inL (l.take i)=K at *
   refine Ok.loopU [1,5,7,13,14,15,19,20] [21] 1 1 (fun (j:Nat)=>[.i .i64 (j:Nat)]) (fun _ b=>b) (fun _ r=>r) (fun (j:Nat)=>j<=K.length/\∀ y ∈ K.take j,¬ inL x y) (fun (j:Nat)=>K.length - j) (0) (⟨Nat.zero_le _,by simp⟩) ?_;(conv=>whnf);refine⟨by ((conv=>whnf);first|rfl|(simp[envCat,List.take_of_length_le,cells9];done)|(simp[envCat,List.take_of_length_le,cells9];rw[IntKind.wrap_i64];omega)),?_⟩
   rintro j ⟨hj,hno⟩
   (conv=>whnf)
   by_cases hjl:j<K.length
   . obtain⟨y,hy⟩:∃ y,K[j]? = some y:=⟨_,List.getElem?_eq_getElem hjl⟩
     have hyo:=hmem y (List.mem_of_getElem? hy)
     have hWj:W[((j:Nat):Int).toNat]? = some y:=by
      have:=hK.get (j:=j) (by rw[hKK];exact hjl)
      rw[hKK,hy] at this
      exact this
     (try (conv=>whnf));repeat' (first|refine Ok.seq ?_|((first|refine Ok.region tok ?_|refine Ok.cond ?_);conv=>whnf)|refine Ok.block ?_|((first|refine Ok.skip ?_|refine Ok.exit ?_|refine nI ?_);conv=>whnf)|(refine Or.inl ?_;(conv=>whnf);(repeat (refine aI ?_;conv=>whnf));refine⟨_,withinC_at hxo hyo,rfl,?_⟩;conv=>whnf)|(refine rd rfl (by assumption) ?_;conv=>whnf)|(refine bI ?_ ?_<;>intro<;>(conv=>whnf)<;>(try (exfalso;omega)))|(refine aJ ?_;conv=>whnf)|fail)
     . rename_i hxy
       have hin:∃ y ∈ grG inL (l.take i),inL x y:=⟨y,by rw[hKK];exact List.mem_of_getElem? hy,hxy⟩
       obtain⟨hs,he⟩:=hK.skip hx hin
       refine⟨(i+1,W),by dsimp only;omega,hs,?_⟩
       dsimp only
       rw[he,hKK]
       (conv=>whnf)
       rfl
     . rename_i hxy
       refine⟨j+1,by omega,⟨by omega,fun z hz=>?_⟩,?_⟩
       . rw[List.take_add_one,hy] at hz
         rcases List.mem_append.1 hz with hz|hz
         . exact hno z hz
         . simp at hz;rw[hz];exact hxy
       . (conv=>whnf)
         rfl
   . have hje:j=K.length:=by omega
     subst hje
     rw[List.take_length] at hno
     (try (conv=>whnf));repeat' (first|refine Ok.seq ?_|((first|refine Ok.region tok ?_|refine Ok.cond ?_|refine Ok.exit ?_);conv=>whnf)|(refine bI ?_ ?_<;>intro<;>(conv=>whnf)<;>(try (exfalso;omega)))|fail)
     refine⟨0,rfl,rfl,by omega,?_⟩
     (try (conv=>whnf));repeat' (first|refine Ok.seq ?_|(refine Ok.region tok ?_;conv=>whnf)|refine Ok.block ?_|fail)
     refine Ok.loopU [1,7,13,14,15,32,33] [10,34] 1 1 (fun (z:Nat × List Str)=>[.own 0 (leftOf inL K x z.1).length,.i .i64 (z.1:Nat)]) (fun _ b=>b) (fun (z:Nat × List Str) (_:Vx.Rows)=>[some (46,z.2.map crow)]) (fun (z:Nat × List Str)=>Mid inL K x W z.1 z.2) (fun (z:Nat × List Str)=>K.length - z.1) ((0,W)) (Mid.zero) ?_;(conv=>whnf);refine⟨by ((conv=>whnf);first|rfl|(simp[envCat,List.take_of_length_le,cells9];done)|(simp[envCat,List.take_of_length_le,cells9];rw[IntKind.wrap_i64];omega)),?_⟩
     rintro⟨k,W'⟩ hM
     dsimp only at hM ⊢
     have hMk:=hM.le
     have hMl:=hM.len
     have hWl':(W'.map crow).length=W'.length:=by simp
     have hkept:W.take K.length=K:=by
      have:=hK.tk
      rw[hKK] at this
      exact this
     (conv=>whnf)
     by_cases hkl:k<K.length
     . obtain⟨y,hy⟩:∃ y,K[k]? = some y:=⟨_,List.getElem?_eq_getElem hkl⟩
       have hyo:=hmem y (List.mem_of_getElem? hy)
       have hWj:W'[((k:Nat):Int).toNat]? = some y:=by
        rw[toNat_cast,hM.get hkept hkl,hy]
       by_cases hyx:inL y x
       . obtain⟨hd,he⟩:=hM.drop hy hyx
         (try (conv=>whnf));repeat' (first|refine Ok.seq ?_|((first|refine Ok.region tok ?_|refine Ok.cond ?_);conv=>whnf)|refine Ok.block ?_|((first|refine Ok.skip ?_|refine nI ?_);conv=>whnf)|(refine Or.inl ?_;(conv=>whnf);(repeat (refine aI ?_;conv=>whnf));refine⟨_,withinC_at hyo hxo,rfl,?_⟩;conv=>whnf)|(refine rd rfl (by assumption) ?_;conv=>whnf)|(refine bI ?_ ?_<;>intro<;>(conv=>whnf)<;>(try (exfalso;omega)))|(refine aJ ?_;conv=>whnf)|fail)
         . exact absurd hyx (by assumption)
         . refine⟨(k+1,W'),by dsimp only;omega,hd,?_⟩
           dsimp only
           rw[he]
           (conv=>whnf)
           rfl
       . obtain⟨hd,he,hlt⟩:=hM.keep hKn hy hyx
         have hlt2:(leftOf inL K x k).length<(W'.map crow).length:=by omega
         have hnle:¬ (leftOf inL K x k).length=(W'.map crow).length:=by omega
         (try (conv=>whnf));repeat' (first|refine Ok.seq ?_|((first|refine Ok.region tok ?_|refine Ok.cond ?_);conv=>whnf)|refine Ok.block ?_|((first|refine Ok.skip ?_|refine nI ?_);conv=>whnf)|(refine Or.inl ?_;(conv=>whnf);(repeat (refine aI ?_;conv=>whnf));refine⟨_,withinC_at hyo hxo,rfl,?_⟩;conv=>whnf)|((first|refine Alt2.r (aI ?_)|refine rd rfl (by assumption) ?_|refine⟨_,.inl ⟨rfl,rfl⟩,?_⟩|refine⟨_,_,rfl,rfl,?_⟩);conv=>whnf)|(refine bI ?_ ?_<;>intro<;>(conv=>whnf)<;>(try (exfalso;omega)))|((first|refine aJ ?_|refine⟨_,rfl,?_⟩);conv=>whnf)|fail)
         . refine⟨(k+1,W'.set (leftOf inL K x k).length y),by dsimp only;omega,hd,?_⟩
           dsimp only
           rw[he,List.length_append,List.map_set]
           (conv=>whnf)
           rfl
         . rename_i hh
           exact absurd hyx hh
     . have hke:k=K.length:=by omega
       subst hke
       obtain⟨se,sl,sg⟩:=hK.step hx (by rw[hKK];exact hno) (by rw[hKK];exact hM)
       rw[hKK] at se sl sg
       by_cases hm:(leftOf inL K x K.length).length=W'.length
       . have hm2:(leftOf inL K x K.length).length=(W'.map crow).length:=by omega
         (try (conv=>whnf));repeat' (first|refine Ok.seq ?_|((first|refine Ok.region tok ?_|refine Ok.cond ?_|refine Ok.exit ?_|refine nI ?_|refine Alt2.l (aI ?_)|refine⟨_,.inl ⟨rfl,rfl⟩,?_⟩|refine⟨_,_,rfl,rfl,?_⟩);conv=>whnf)|(refine bI ?_ ?_<;>intro<;>(conv=>whnf)<;>(try (exfalso;omega)))|(refine aJ ?_;conv=>whnf)|fail)
         refine⟨(i+1,W'++[x]),by dsimp only;omega,sg hm,?_⟩
         dsimp only
         rw[se,List.map_append]
         (conv=>whnf)
         simp[envCat,hm]
       . have hle2:=hM.tk
         have hlt:(leftOf inL K x K.length).length<W'.length:=by
          have:=congrArg List.length hM.tk
          rw[List.length_take] at this
          omega
         have hlt2:(leftOf inL K x K.length).length<(W'.map crow).length:=by omega
         (try (conv=>whnf));repeat' (first|refine Ok.seq ?_|((first|refine Ok.region tok ?_|refine Ok.cond ?_|refine Ok.exit ?_|refine nI ?_|refine Alt2.r (aI ?_)|refine⟨_,.inl ⟨rfl,rfl⟩,?_⟩|refine⟨_,_,rfl,rfl,?_⟩);conv=>whnf)|(refine bI ?_ ?_<;>intro<;>(conv=>whnf)<;>(try (exfalso;omega)))|((first|refine aJ ?_|refine⟨_,rfl,?_⟩);conv=>whnf)|fail)
         refine⟨(i+1,W'.set (leftOf inL K x K.length).length x),by dsimp only;omega,sl hlt,?_⟩
         dsimp only
         rw[se,List.length_append,List.map_set]
         (conv=>whnf)
         rfl
 . have hie:i=l.length:=by omega
   subst hie
   rw[List.take_length] at *
   (try (conv=>whnf));repeat' (first|refine Ok.seq ?_|((first|refine Ok.region tok ?_|refine Ok.cond ?_|refine Ok.exit ?_|refine Ok.ret ?_);conv=>whnf)|(refine bI ?_ ?_<;>intro<;>(conv=>whnf)<;>(try (exfalso;omega)))|fail)
   refine Or.inr (Or.inl ?_);(conv=>whnf)
   exact⟨W,hK,rfl,rfl⟩
structure TR where
 t:Term
 room:List (List D)
@[reducible] def trow(x:TR):List D:=[.i .i64 (x.t.p.length:Int),.i .u64 ((wof (car x.t.p) 0).toNat:Int),.i .u64 ((wof (car x.t.p) 1).toNat:Int),.i .u64 ((wof (car x.t.p) 2).toNat:Int),.i .u64 ((wof (car x.t.p) 3).toNat:Int),.i .u64 ((wof (one x.t.p) 0).toNat:Int),.i .u64 ((wof (one x.t.p) 1).toNat:Int),.i .u64 ((wof (one x.t.p) 2).toNat:Int),.i .u64 ((wof (one x.t.p) 3).toNat:Int),.lst 46 (x.t.less.map crow) x.room,.s x.t.key]
structure TN(x:TR):Prop where
 p:CN x.t.p
 less:∀ m ∈ x.t.less,CN m
 n:x.t.less.length<=1048576
def covR(a b:TR):Prop:=covT a.t b.t
set_option maxHeartbeats 4000000 in
theorem covered_at{a b:TR}(ha:TN a)(hb:TN b):FSpec Tryz.prog T 114 [.agg (trow a),.agg (trow b)] (fun r _=>r = .b (covR a b)):=by
 refine FSpec.of_ok tok Tryz.func114 rfl Tryz.call114 (by simp) ?_
 (try (conv=>whnf));repeat' (first|refine Ok.seq ?_|((first|refine Ok.region tok ?_|refine Ok.cond ?_);conv=>whnf)|refine Ok.block ?_|((first|refine Ok.skip ?_|refine Ok.ret ?_);conv=>whnf)|(refine Or.inl ?_;(conv=>whnf);(repeat (refine aI ?_;conv=>whnf));refine⟨_,within_at a.t.p b.t.p ha.p.1 hb.p.1,rfl,?_⟩;conv=>whnf)|(refine Ok.scope ?_)|(refine Ok.label ?_;conv=>whnf)|(refine bI ?_ ?_<;>intro<;>(conv=>whnf)<;>(try (exfalso;omega)))|fail)
 . rename_i h
   refine Or.inl ?_;(conv=>whnf)
   show D.b False=_
   exact congrArg D.b (propext ⟨fun h=>h.elim,fun h2=>h h2.1⟩)
 . rename_i h
   have hin:inT a.t.p b.t.p:=Classical.not_not.1 h
   have hbn:=hb.n
   have han:=ha.n
   have hbl:(b.t.less.map crow).length=b.t.less.length:=by simp
   have hal:(a.t.less.map crow).length=a.t.less.length:=by simp
   refine Ok.loopU [2,18,19] [20] 0 2 (fun (i:Nat)=>[.i .i64 (i:Nat)]) (fun _ b=>b) (fun _ r=>r) (fun (i:Nat)=>i<=b.t.less.length/\∀ m ∈ b.t.less.take i,∀ c,meetT m a.t.p=some c->∃ n ∈ a.t.less,inT c n) (fun (i:Nat)=>b.t.less.length - i) (0) (⟨Nat.zero_le _,by simp⟩) ?_;(conv=>whnf);refine⟨by ((conv=>whnf);first|rfl|(simp[envCat,List.take_of_length_le,cells9];done)|(simp[envCat,List.take_of_length_le,cells9];rw[IntKind.wrap_i64];omega)),?_⟩
   rintro i ⟨hi,hall⟩
   (conv=>whnf)
   by_cases hil:i<b.t.less.length
   . obtain⟨m,hm⟩:∃ m,b.t.less[i]? = some m:=⟨_,List.getElem?_eq_getElem hil⟩
     have hmo:=hb.less m (List.mem_of_getElem? hm)
     have step:(∀ c,meetT m a.t.p=some c->∃ n ∈ a.t.less,inT c n)->∀ z ∈ b.t.less.take (i+1),∀ c,meetT z a.t.p=some c->∃ n ∈ a.t.less,inT c n:=fun h z hz=>by
      rw[List.take_add_one,hm] at hz
      rcases List.mem_append.1 hz with hz|hz
      . exact hall z hz
      . simp at hz;rw[hz];exact h
     cases hmt:meetT m a.t.p with
     | none=>
      have hsp:=meet_at m a.t.p hmo.1 ha.p.1
      rw[hmt] at hsp
      (try (conv=>whnf));repeat' (first|refine Ok.seq ?_|((first|refine Ok.region tok ?_|refine Ok.cond ?_);conv=>whnf)|refine Ok.block ?_|((first|refine Ok.skip ?_|refine Ok.exit ?_|refine nI ?_|refine ix _ (by assumption) ?_);conv=>whnf)|(refine Or.inr (Or.inl ?_);(conv=>whnf);(repeat (refine aI ?_;conv=>whnf));refine⟨_,hsp,?_⟩;rintro _ _ ⟨rfl,rfl⟩;conv=>whnf)|(refine bI ?_ ?_<;>intro<;>(conv=>whnf)<;>(try (exfalso;omega)))|fail)
      . refine⟨i+1,by omega,⟨by omega,step fun c hc=>by rw[hmt] at hc;cases hc⟩,?_⟩
        (conv=>whnf)
        rfl
      . rename_i h2
        exact absurd (by simp) h2
     | some c=>
      have hsp:=meet_at m a.t.p hmo.1 ha.p.1
      have hcc:=meetT_ct hmt hmo.1 ha.p.1
      rw[hmt] at hsp
      (try (conv=>whnf));repeat' (first|refine Ok.seq ?_|((first|refine Ok.region tok ?_|refine Ok.cond ?_);conv=>whnf)|refine Ok.block ?_|((first|refine Ok.skip ?_|refine Ok.exit ?_|refine nI ?_|refine ix _ (by assumption) ?_);conv=>whnf)|(refine Or.inr (Or.inl ?_);(conv=>whnf);(repeat (refine aI ?_;conv=>whnf));refine⟨_,hsp,?_⟩;rintro _ _ ⟨rfl,rfl⟩;conv=>whnf)|(refine bI ?_ ?_<;>intro<;>(conv=>whnf)<;>(try (exfalso;omega)))|fail)
      . rename_i h2
        exact absurd rfl h2
      . refine Ok.loopU [2,7,18,19,20,34,35] [36] 0 4 (fun (j:Nat)=>[.i .i64 (j:Nat)]) (fun _ b=>b) (fun _ r=>r) (fun (j:Nat)=>j<=a.t.less.length/\∀ n ∈ a.t.less.take j,¬ inT c n) (fun (j:Nat)=>a.t.less.length - j) (0) (⟨Nat.zero_le _,by simp⟩) ?_;(conv=>whnf);refine⟨by ((conv=>whnf);first|rfl|(simp[envCat,List.take_of_length_le,cells9];done)|(simp[envCat,List.take_of_length_le,cells9];rw[IntKind.wrap_i64];omega)),?_⟩
        rintro j ⟨hj,hno⟩
        (conv=>whnf)
        by_cases hjl:j<a.t.less.length
        . obtain⟨n,hn⟩:∃ n,a.t.less[j]? = some n:=⟨_,List.getElem?_eq_getElem hjl⟩
          have hno':=ha.less n (List.mem_of_getElem? hn)
          (try (conv=>whnf));repeat' (first|refine Ok.seq ?_|((first|refine Ok.region tok ?_|refine Ok.cond ?_);conv=>whnf)|refine Ok.block ?_|((first|refine Ok.skip ?_|refine Ok.exit ?_|refine nI ?_|refine ix _ (by assumption) ?_);conv=>whnf)|(refine Or.inl ?_;(conv=>whnf);(repeat (refine aI ?_;conv=>whnf));refine⟨_,within_at c n hcc.1 hno'.1,rfl,?_⟩;conv=>whnf)|(refine bI ?_ ?_<;>intro<;>(conv=>whnf)<;>(try (exfalso;omega)))|fail)
          . rename_i hcn
            refine⟨i+1,by omega,⟨by omega,step fun c' hc'=>?_⟩,?_⟩
            . rw[hmt] at hc'
              cases hc'
              exact⟨n,List.mem_of_getElem? hn,hcn⟩
            . (conv=>whnf)
              rfl
          . rename_i hcn
            refine⟨j+1,by omega,⟨by omega,fun z hz=>?_⟩,?_⟩
            . rw[List.take_add_one,hn] at hz
              rcases List.mem_append.1 hz with hz|hz
              . exact hno z hz
              . simp at hz;rw[hz];exact hcn
            . (conv=>whnf)
              rfl
        . have hje:j=a.t.less.length:=by omega
          subst hje
          rw[List.take_length] at hno
          (try (conv=>whnf));repeat' (first|refine Ok.seq ?_|((first|refine Ok.region tok ?_|refine Ok.cond ?_|refine Ok.exit ?_|refine Ok.ret ?_);conv=>whnf)|(refine bI ?_ ?_<;>intro<;>(conv=>whnf)<;>(try (exfalso;omega)))|fail)
          refine Or.inl ?_;(conv=>whnf)
          show D.b False=_
          refine congrArg D.b (propext ⟨fun h=>h.elim,fun h2=>?_⟩)
          obtain⟨n,hn,hcn⟩:=h2.2 m (List.mem_of_getElem? hm) c hmt
          exact hno n hn hcn
   . have hie:i=b.t.less.length:=by omega
     subst hie
     rw[List.take_length] at hall
     (try (conv=>whnf));repeat' (first|refine Ok.seq ?_|((first|refine Ok.region tok ?_|refine Ok.cond ?_|refine Ok.exit ?_|refine Ok.ret ?_);conv=>whnf)|(refine bI ?_ ?_<;>intro<;>(conv=>whnf)<;>(try (exfalso;omega)))|fail)
     refine Or.inl ?_;(conv=>whnf)
     show D.b True=_
     exact congrArg D.b (propext ⟨fun _=>⟨hin,hall⟩,fun _=>trivial⟩)
set_option maxRecDepth 100000 in
set_option maxHeartbeats 4000000 in
theorem greatestT_at(l:List TR){rl room:List (List D)}(hl:l.length<=1048576)(hok:∀ x ∈ l,TN x)(h:rl=l.map trow):FSpec Tryz.prog T 113 [.lst 112 rl room,.fn 114 [] []]
    (fun d rows=>∃ W:List TR,Kept covR l l.length W/\d = .own 0 (grG covR l).length/\rows=[some (112,W.map trow)]):=by
 subst h
 have hll:(l.map trow).length=l.length:=by simp
 refine FSpec.of_ok tok Tryz.func113 rfl Tryz.call113 (by simp) ?_
 (try (conv=>whnf));repeat' (first|refine Ok.seq ?_|(refine Ok.region tok ?_;conv=>whnf)|refine Ok.block ?_|(refine Ok.scope ?_)|(refine Ok.label ?_;conv=>whnf)|fail)
 refine Ok.ghost 5 112 rfl ?_
 (conv=>whnf)
 refine Ok.loopU [1,13,14] [5,15] 1 0 (fun (x:Nat × List TR)=>[.own 0 (grG covR (l.take x.1)).length,.i .i64 (x.1:Nat)]) (fun _ b=>b) (fun (x:Nat × List TR) (_:Vx.Rows)=>[some (112,x.2.map trow)]) (fun (x:Nat × List TR)=>Kept covR l x.1 x.2) (fun (x:Nat × List TR)=>l.length - x.1) ((0,[])) (Kept.zero) ?_;(conv=>whnf);refine⟨by ((conv=>whnf);first|rfl|(simp[envCat,List.take_of_length_le,cells9];done)|(simp[envCat,List.take_of_length_le,cells9];rw[IntKind.wrap_i64];omega)),?_⟩
 rintro⟨i,W⟩ hK
 dsimp only at hK ⊢
 have hWl:(W.map trow).length=W.length:=by simp
 have hKn:=hK.n
 have hKw:=hK.w
 have hKi:=hK.le
 (conv=>whnf)
 by_cases hil:i<l.length
 . obtain⟨x,hx⟩:∃ x,l[i]? = some x:=⟨_,List.getElem?_eq_getElem hil⟩
   have hxo:=hok x (List.mem_of_getElem? hx)
   have hmem:∀ y ∈ grG covR (l.take i),TN y:=fun y hy=>hok y (List.take_subset _ _ (grG_sub covR _ y hy))
   (try (conv=>whnf));repeat' (first|refine Ok.seq ?_|((first|refine Ok.region tok ?_|refine Ok.cond ?_);conv=>whnf)|refine Ok.block ?_|((first|refine Ok.skip ?_|refine ix _ (by assumption) ?_);conv=>whnf)|(refine bI ?_ ?_<;>intro<;>(conv=>whnf)<;>(try (exfalso;omega)))|fail)
   generalize hKK:grG covR (l.take i)=K at *
   refine Ok.loopU [1,5,7,13,14,15,19,20] [21] 1 1 (fun (j:Nat)=>[.i .i64 (j:Nat)]) (fun _ b=>b) (fun _ r=>r) (fun (j:Nat)=>j<=K.length/\∀ y ∈ K.take j,¬ covR x y) (fun (j:Nat)=>K.length - j) (0) (⟨Nat.zero_le _,by simp⟩) ?_;(conv=>whnf);refine⟨by ((conv=>whnf);first|rfl|(simp[envCat,List.take_of_length_le,cells9];done)|(simp[envCat,List.take_of_length_le,cells9];rw[IntKind.wrap_i64];omega)),?_⟩
   rintro j ⟨hj,hno⟩
   (conv=>whnf)
   by_cases hjl:j<K.length
   . obtain⟨y,hy⟩:∃ y,K[j]? = some y:=⟨_,List.getElem?_eq_getElem hjl⟩
     have hyo:=hmem y (List.mem_of_getElem? hy)
     have hWj:W[((j:Nat):Int).toNat]? = some y:=by
      have:=hK.get (j:=j) (by rw[hKK];exact hjl)
      rw[hKK,hy] at this
      exact this
     (try (conv=>whnf));repeat' (first|refine Ok.seq ?_|((first|refine Ok.region tok ?_|refine Ok.cond ?_);conv=>whnf)|refine Ok.block ?_|((first|refine Ok.skip ?_|refine Ok.exit ?_|refine nI ?_);conv=>whnf)|(refine Or.inl ?_;(conv=>whnf);(repeat (refine aI ?_;conv=>whnf));refine⟨_,covered_at hxo hyo,rfl,?_⟩;conv=>whnf)|(refine rd rfl (by assumption) ?_;conv=>whnf)|(refine bI ?_ ?_<;>intro<;>(conv=>whnf)<;>(try (exfalso;omega)))|(refine aJ ?_;conv=>whnf)|fail)
     . rename_i hxy
       have hin:∃ y ∈ grG covR (l.take i),covR x y:=⟨y,by rw[hKK];exact List.mem_of_getElem? hy,hxy⟩
       obtain⟨hs,he⟩:=hK.skip hx hin
       refine⟨(i+1,W),by dsimp only;omega,hs,?_⟩
       dsimp only
       rw[he,hKK]
       (conv=>whnf)
       rfl
     . rename_i hxy
       refine⟨j+1,by omega,⟨by omega,fun z hz=>?_⟩,?_⟩
       . rw[List.take_add_one,hy] at hz
         rcases List.mem_append.1 hz with hz|hz
         . exact hno z hz
         . simp at hz;rw[hz];exact hxy
       . (conv=>whnf)
         rfl
   . have hje:j=K.length:=by omega
     subst hje
     rw[List.take_length] at hno
     (try (conv=>whnf));repeat' (first|refine Ok.seq ?_|((first|refine Ok.region tok ?_|refine Ok.cond ?_|refine Ok.exit ?_);conv=>whnf)|(refine bI ?_ ?_<;>intro<;>(conv=>whnf)<;>(try (exfalso;omega)))|fail)
     refine⟨0,rfl,rfl,by omega,?_⟩
     (try (conv=>whnf));repeat' (first|refine Ok.seq ?_|(refine Ok.region tok ?_;conv=>whnf)|refine Ok.block ?_|fail)
     refine Ok.loopU [1,7,13,14,15,32,33] [10,34] 1 1 (fun (z:Nat × List TR)=>[.own 0 (leftOf covR K x z.1).length,.i .i64 (z.1:Nat)]) (fun _ b=>b) (fun (z:Nat × List TR) (_:Vx.Rows)=>[some (112,z.2.map trow)]) (fun (z:Nat × List TR)=>Mid covR K x W z.1 z.2) (fun (z:Nat × List TR)=>K.length - z.1) ((0,W)) (Mid.zero) ?_;(conv=>whnf);refine⟨by ((conv=>whnf);first|rfl|(simp[envCat,List.take_of_length_le,cells9];done)|(simp[envCat,List.take_of_length_le,cells9];rw[IntKind.wrap_i64];omega)),?_⟩
     rintro⟨k,W'⟩ hM
     dsimp only at hM ⊢
     have hMk:=hM.le
     have hMl:=hM.len
     have hWl':(W'.map trow).length=W'.length:=by simp
     have hkept:W.take K.length=K:=by
      have:=hK.tk
      rw[hKK] at this
      exact this
     (conv=>whnf)
     by_cases hkl:k<K.length
     . obtain⟨y,hy⟩:∃ y,K[k]? = some y:=⟨_,List.getElem?_eq_getElem hkl⟩
       have hyo:=hmem y (List.mem_of_getElem? hy)
       have hWj:W'[((k:Nat):Int).toNat]? = some y:=by
        rw[toNat_cast,hM.get hkept hkl,hy]
       by_cases hyx:covR y x
       . obtain⟨hd,he⟩:=hM.drop hy hyx
         (try (conv=>whnf));repeat' (first|refine Ok.seq ?_|((first|refine Ok.region tok ?_|refine Ok.cond ?_);conv=>whnf)|refine Ok.block ?_|((first|refine Ok.skip ?_|refine nI ?_);conv=>whnf)|(refine Or.inl ?_;(conv=>whnf);(repeat (refine aI ?_;conv=>whnf));refine⟨_,covered_at hyo hxo,rfl,?_⟩;conv=>whnf)|(refine rd rfl (by assumption) ?_;conv=>whnf)|(refine bI ?_ ?_<;>intro<;>(conv=>whnf)<;>(try (exfalso;omega)))|(refine aJ ?_;conv=>whnf)|fail)
         . exact absurd hyx (by assumption)
         . refine⟨(k+1,W'),by dsimp only;omega,hd,?_⟩
           dsimp only
           rw[he]
           (conv=>whnf)
           rfl
       . obtain⟨hd,he,hlt⟩:=hM.keep hKn hy hyx
         have hlt2:(leftOf covR K x k).length<(W'.map trow).length:=by omega
         have hnle:¬ (leftOf covR K x k).length=(W'.map trow).length:=by omega
         (try (conv=>whnf));repeat' (first|refine Ok.seq ?_|((first|refine Ok.region tok ?_|refine Ok.cond ?_);conv=>whnf)|refine Ok.block ?_|((first|refine Ok.skip ?_|refine nI ?_);conv=>whnf)|(refine Or.inl ?_;(conv=>whnf);(repeat (refine aI ?_;conv=>whnf));refine⟨_,covered_at hyo hxo,rfl,?_⟩;conv=>whnf)|((first|refine Alt2.r (aI ?_)|refine rd rfl (by assumption) ?_|refine⟨_,.inl ⟨rfl,rfl⟩,?_⟩|refine⟨_,_,rfl,rfl,?_⟩);conv=>whnf)|(refine bI ?_ ?_<;>intro<;>(conv=>whnf)<;>(try (exfalso;omega)))|((first|refine aJ ?_|refine⟨_,rfl,?_⟩);conv=>whnf)|fail)
         . refine⟨(k+1,W'.set (leftOf covR K x k).length y),by dsimp only;omega,hd,?_⟩
           dsimp only
           rw[he,List.length_append,List.map_set]
           (conv=>whnf)
           rfl
         . rename_i hh
           exact absurd hyx hh
     . have hke:k=K.length:=by omega
       subst hke
       obtain⟨se,sl,sg⟩:=hK.step hx (by rw[hKK];exact hno) (by rw[hKK];exact hM)
       rw[hKK] at se sl sg
       by_cases hm:(leftOf covR K x K.length).length=W'.length
       . have hm2:(leftOf covR K x K.length).length=(W'.map trow).length:=by omega
         (try (conv=>whnf));repeat' (first|refine Ok.seq ?_|((first|refine Ok.region tok ?_|refine Ok.cond ?_|refine Ok.exit ?_|refine nI ?_|refine Alt2.l (aI ?_)|refine⟨_,.inl ⟨rfl,rfl⟩,?_⟩|refine⟨_,_,rfl,rfl,?_⟩);conv=>whnf)|(refine bI ?_ ?_<;>intro<;>(conv=>whnf)<;>(try (exfalso;omega)))|(refine aJ ?_;conv=>whnf)|fail)
         refine⟨(i+1,W'++[x]),by dsimp only;omega,sg hm,?_⟩
         dsimp only
         rw[se,List.map_append]
         (conv=>whnf)
         simp[envCat,hm]
       . have hle2:=hM.tk
         have hlt:(leftOf covR K x K.length).length<W'.length:=by
          have:=congrArg List.length hM.tk
          rw[List.length_take] at this
          omega
         have hlt2:(leftOf covR K x K.length).length<(W'.map trow).length:=by omega
         (try (conv=>whnf));repeat' (first|refine Ok.seq ?_|((first|refine Ok.region tok ?_|refine Ok.cond ?_|refine Ok.exit ?_|refine nI ?_|refine Alt2.r (aI ?_)|refine⟨_,.inl ⟨rfl,rfl⟩,?_⟩|refine⟨_,_,rfl,rfl,?_⟩);conv=>whnf)|(refine bI ?_ ?_<;>intro<;>(conv=>whnf)<;>(try (exfalso;omega)))|((first|refine aJ ?_|refine⟨_,rfl,?_⟩);conv=>whnf)|fail)
         refine⟨(i+1,W'.set (leftOf covR K x K.length).length x),by dsimp only;omega,sl hlt,?_⟩
         dsimp only
         rw[se,List.length_append,List.map_set]
         (conv=>whnf)
         rfl
 . have hie:i=l.length:=by omega
   subst hie
   rw[List.take_length] at *
   (try (conv=>whnf));repeat' (first|refine Ok.seq ?_|((first|refine Ok.region tok ?_|refine Ok.cond ?_|refine Ok.exit ?_|refine Ok.ret ?_);conv=>whnf)|(refine bI ?_ ?_<;>intro<;>(conv=>whnf)<;>(try (exfalso;omega)))|fail)
   refine Or.inr (Or.inl ?_);(conv=>whnf)
   exact⟨W,hK,rfl,rfl⟩
end Go.Proofs.YtaiondckookpiaaGreatDoor
namespace Go.Proofs.YtaiondckookpiaaGreatDoor
open Go Go.Vx Go.Shelf Go.RowKit Go.Lib Go.Sort
theorem bExtra:Builder.Extra Tryz.prog Tryz.vxStr_ren where
 sizeBuilder:=by kernel_rfl
 liesBuilder:=by kernel_rfl
 t5:=by kernel_rfl
 a5:=fun _=>by kernel_rfl
 z5:=fun _=>by kernel_rfl
 v5:=fun _=>by kernel_rfl
 infoByte:=by kernel_rfl
 cellsByte:=by kernel_rfl
 sizeByte:=by kernel_rfl
 neB5:=by decide
theorem strAt:StrC Tryz.prog 111 5:=strC Tryz.vxStr bExtra Tryz.call111
theorem bSize:∃ j,Tryz.prog.info? 146=some j/\j.size=2:=Option.map_eq_some_iff.1 (by kernel_rfl:(Tryz.prog.info? 146).map (·.size)=some 2)
theorem bPtr:Tryz.prog.underlying 144=some (.pointer 146):=by kernel_rfl
theorem bUns:Tryz.prog.underlying 172=some .unsafePointer:=by kernel_rfl
theorem bLies:liesAt Tryz.prog Tryz.prog.depth 146 (2 / Tryz.prog.cellsOf 146) 0 146 1=true:=by kernel_rfl
set_option maxHeartbeats 1000000 in
set_option maxRecDepth 100000 in
theorem copy_used(b:Nat)(w:World)(h0:w.cell? ⟨b,0,none⟩=some (.pointer (some ⟨b,0,none⟩))) :
    Calls Tryz.prog 132 #[.pointer (some ⟨b,0,none⟩)] w fun e w'=>e = .returned (.tuple #[])/\w'=w:=by
 obtain⟨j,hj,hjs⟩:=bSize
 go_enter Tryz.func132,Tryz.ntmps132
 go_wp2
 rw[Lib.run_neq_ptr_same w _ bPtr hj]
 go_wp2
 go_end0
 exact⟨rfl,rfl⟩
set_option maxHeartbeats 1000000 in
set_option maxRecDepth 100000 in
theorem copy_fresh(b:Nat)(w:World)(h0:w.cell? ⟨b,0,none⟩=some (.pointer none))(hsh:w.shape? b=some (146,2))(hfz:w.frozen? ⟨b,0,none⟩=false) :
    Calls Tryz.prog 132 #[.pointer (some ⟨b,0,none⟩)] w fun e w'=>e = .returned (.tuple #[])/\w'=w.setCell ⟨b,0,none⟩ (.pointer (some ⟨b,0,none⟩)):=by
 obtain⟨j,hj,hjs⟩:=bSize
 go_enter Tryz.func132,Tryz.ntmps132
 go_wp2
 rw[Lib.run_to_unsafe w ⟨b,0,none⟩ bPtr bUns hj (by rw[hjs];decide) hsh (Nat.zero_lt_succ 1)]
 simp only[Result.andThen]
 rw[Oper.upon_value]
 go_wp2
 rw[run_callFunc_extern Tryz.func144 (by kernel_rfl) (by kernel_rfl) (by kernel_rfl) (e:=Extern.AbiNoEscape.same) (by kernel_rfl)]
 rw[Lib.run_noEscape]
 simp only[Result.andThen]
 rw[Oper.upon_value]
 go_wp2
 rw[Lib.run_from_unsafe w ⟨b,0,none⟩ bUns bPtr hj hsh bLies]
 simp only[Result.andThen]
 rw[Oper.upon_value]
 go_wp2
 go_end0
 exact⟨rfl,rfl⟩
theorem copyAt:CopyC Tryz.prog 132 146:=⟨Tryz.call132,copy_fresh,copy_used⟩
theorem swo_bytes{α:Type}(key:α->List UInt8):SWO (fun x y:α=>Op.bytesLess (key x) (key y)) where
 irrefl:=fun x=>by
  cases h:Op.bytesLess (key x) (key x) with
  | false=>rfl
  | true=>exact absurd h (bl_irrefl _)
 trans:=fun x y z h k=>bl_trans h k
 ntrans:=fun x y z h k=>by
  cases h2:Op.bytesLess (key x) (key z) with
  | false=>rfl
  | true=>
   exfalso
   by_cases e:key x=key y
   . rw[e,k] at h2;cases h2
   . rcases bl_total e with q|q
     . rw[h] at q;cases q
     . have:=bl_trans q h2
       rw[k] at this
       cases this
set_option maxHeartbeats 2000000 in
theorem less_told(blk c Bs size:Nat)(W:World)(G:Nat->List UInt8)(hs:W.cell? ⟨Bs,0,none⟩=some (.slice (some ⟨blk,0,none⟩) size c))
    (hc:∀ t,t<size->W.cell? ⟨blk,0+(t*10+9),none⟩=some (.string (bstr (G t))))(i j:Nat)(hi:i<size)(hj:j<size)(_hsz:size<4611686018427387904) :
    Calls Tryz.prog 122 #[.int .i64 i,.int .i64 j,.pointer (some ⟨Bs,0,none⟩)] W fun e w'=>e = .returned (.bool (Op.bytesLess (G i) (G j)))/\∃ q,w'=W.drewN q:=by
 have ci:=hc i hi
 have cj:=hc j hj
 rw[Nat.zero_add] at ci cj
 go_enter Tryz.func122,Tryz.ntmps122
 go_wp2
 go_quiet (fail)
 go_wp2
 go_ret
 refine⟨?_,nq,rfl⟩
 show Ending.returned (.bool (Op.bytesLess (bstr (G i)).toList (bstr (G j)).toList))=_
 rw[bstr_toList,bstr_toList]
noncomputable def sitoldT:TypeInfo:=(Tryz.prog.info? 162).get (by kernel_rfl)
noncomputable def sitoldE:TypeInfo:=(Tryz.prog.info? 164).get (by kernel_rfl)
theorem sitoldK(n:Nat)(h2:2<=n):Lib.swapperK n sitoldE 25=9:=by
 have a:sitoldE.hasPointers=true:=by kernel_rfl
 have b:(sitoldE.bytes == 8)=false:=by kernel_rfl
 have c:(n == 0)=false:=by simp;omega
 have d:(n == 1)=false:=by simp;omega
 simp[Lib.swapperK,a,b,c,d]
set_option maxHeartbeats 2000000 in
theorem sort_told:SortC Tryz.prog 115 162 10 9 122 where
 call:=Tryz.call115
 conc:=by kernel_rfl
 big:=fun α _ enc key hk h1 hkey blk c Bs d h2 hsz w hH hblk hBs hB1 hB2=>by
  have hless:LessReadsK Tryz.prog 122 #[.pointer (some ⟨Bs,0,none⟩)] enc 10 (fun x y=>Op.bytesLess (key x) (key y)) blk 0 d.size w:=by
   intro m os dk hs i j hi hj
   have e:sortWorldK enc 10 w blk 0 m dk os=putRowK enc 10 (grow (Sort.ahead w m) os) blk 0 dk:=by
    unfold sortWorldK;rw[putRowK_grow _ _ (Sort.ahead w m) _ blk 0 _ hblk]
   have hHg:HoldsK enc 10 (grow (Sort.ahead w m) os) blk 0 d:=holdsK_grow _ _ _ _ blk 0 d hblk (holdsK_ahead _ _ _ _ _ _ _ hH)
   refine less_told blk c Bs d.size _ (fun t=>key dk[t]!) ?_ (fun t ht=>?_) i j hi hj (by omega)
   . rw[e,cell?_putRowK_other _ _ _ blk 0 dk _ (by exact hB2),cell?_grow _ _ _ (by exact hB1)];exact hBs
   . rw[e]
     have h3:=((holdsK_putRowK _ _ _ blk 0 d dk hHg hs).cell (i:=t) (c:=9) (by omega) (by omega)).1
     refine h3.trans ?_
     exact congrArg some (List.getElem!_of_getElem? (hkey dk[t]!))
  exact Any.sort_Slice_cells_sorted Tryz.vxSort 162 164 sitoldT sitoldE (by kernel_rfl) (by kernel_rfl) (by kernel_rfl) (by kernel_rfl) 25 (fun _=>by kernel_rfl) enc 10 hk (by kernel_rfl) (fun _=>by kernel_rfl)
   h1 _ (swo_bytes key) 122 _
   (enters_of Tryz.func122 (by kernel_rfl) rfl) blk 0 c d h2 hsz 153 (by rw[sitoldK _ h2];kernel_rfl) false
   (fun args W=>run_callFunc_extern Tryz.func153 (by kernel_rfl) (by kernel_rfl) (by kernel_rfl) (e:=Extern.ReflectliteSwapper.swap false) (by kernel_rfl) args W) w hless hH hblk
 tiny:=fun p n c lb w h1=>by
  rcases Nat.eq_zero_or_pos n with h|h
  . subst h
    exact Any.sort_Slice_tiny Tryz.vxSort 162 164 sitoldT sitoldE (by kernel_rfl) (by kernel_rfl) (by kernel_rfl) (by kernel_rfl) 25 (fun _=>by kernel_rfl) p 0 c h1 145 (by kernel_rfl) (.func 122) #[] lb w
  . obtain rfl:n=1:=by omega
    exact Any.sort_Slice_tiny Tryz.vxSort 162 164 sitoldT sitoldE (by kernel_rfl) (by kernel_rfl) (by kernel_rfl) (by kernel_rfl) 25 (fun _=>by kernel_rfl) p 1 c h1 146 (by kernel_rfl) (.func 122) #[] lb w
set_option maxHeartbeats 2000000 in
theorem less_term(blk c Bs size:Nat)(W:World)(G:Nat->List UInt8)(hs:W.cell? ⟨Bs,0,none⟩=some (.slice (some ⟨blk,0,none⟩) size c))
    (hc:∀ t,t<size->W.cell? ⟨blk,0+(t*11+10),none⟩=some (.string (bstr (G t))))(i j:Nat)(hi:i<size)(hj:j<size)(_hsz:size<4611686018427387904) :
    Calls Tryz.prog 116 #[.int .i64 i,.int .i64 j,.pointer (some ⟨Bs,0,none⟩)] W fun e w'=>e = .returned (.bool (Op.bytesLess (G i) (G j)))/\∃ q,w'=W.drewN q:=by
 have ci:=hc i hi
 have cj:=hc j hj
 rw[Nat.zero_add] at ci cj
 go_enter Tryz.func116,Tryz.ntmps116
 go_wp2
 go_quiet (fail)
 go_wp2
 go_ret
 refine⟨?_,nq,rfl⟩
 show Ending.returned (.bool (Op.bytesLess (bstr (G i)).toList (bstr (G j)).toList))=_
 rw[bstr_toList,bstr_toList]
noncomputable def sitermT:TypeInfo:=(Tryz.prog.info? 22).get (by kernel_rfl)
noncomputable def sitermE:TypeInfo:=(Tryz.prog.info? 112).get (by kernel_rfl)
theorem sitermK(n:Nat)(h2:2<=n):Lib.swapperK n sitermE 25=9:=by
 have a:sitermE.hasPointers=true:=by kernel_rfl
 have b:(sitermE.bytes == 8)=false:=by kernel_rfl
 have c:(n == 0)=false:=by simp;omega
 have d:(n == 1)=false:=by simp;omega
 simp[Lib.swapperK,a,b,c,d]
set_option maxHeartbeats 2000000 in
theorem sort_term:SortC Tryz.prog 115 22 11 10 116 where
 call:=Tryz.call115
 conc:=by kernel_rfl
 big:=fun α _ enc key hk h1 hkey blk c Bs d h2 hsz w hH hblk hBs hB1 hB2=>by
  have hless:LessReadsK Tryz.prog 116 #[.pointer (some ⟨Bs,0,none⟩)] enc 11 (fun x y=>Op.bytesLess (key x) (key y)) blk 0 d.size w:=by
   intro m os dk hs i j hi hj
   have e:sortWorldK enc 11 w blk 0 m dk os=putRowK enc 11 (grow (Sort.ahead w m) os) blk 0 dk:=by
    unfold sortWorldK;rw[putRowK_grow _ _ (Sort.ahead w m) _ blk 0 _ hblk]
   have hHg:HoldsK enc 11 (grow (Sort.ahead w m) os) blk 0 d:=holdsK_grow _ _ _ _ blk 0 d hblk (holdsK_ahead _ _ _ _ _ _ _ hH)
   refine less_term blk c Bs d.size _ (fun t=>key dk[t]!) ?_ (fun t ht=>?_) i j hi hj (by omega)
   . rw[e,cell?_putRowK_other _ _ _ blk 0 dk _ (by exact hB2),cell?_grow _ _ _ (by exact hB1)];exact hBs
   . rw[e]
     have h3:=((holdsK_putRowK _ _ _ blk 0 d dk hHg hs).cell (i:=t) (c:=10) (by omega) (by omega)).1
     refine h3.trans ?_
     exact congrArg some (List.getElem!_of_getElem? (hkey dk[t]!))
  exact Any.sort_Slice_cells_sorted Tryz.vxSort 22 112 sitermT sitermE (by kernel_rfl) (by kernel_rfl) (by kernel_rfl) (by kernel_rfl) 25 (fun _=>by kernel_rfl) enc 11 hk (by kernel_rfl) (fun _=>by kernel_rfl)
   h1 _ (swo_bytes key) 116 _
   (enters_of Tryz.func116 (by kernel_rfl) rfl) blk 0 c d h2 hsz 153 (by rw[sitermK _ h2];kernel_rfl) false
   (fun args W=>run_callFunc_extern Tryz.func153 (by kernel_rfl) (by kernel_rfl) (by kernel_rfl) (e:=Extern.ReflectliteSwapper.swap false) (by kernel_rfl) args W) w hless hH hblk
 tiny:=fun p n c lb w h1=>by
  rcases Nat.eq_zero_or_pos n with h|h
  . subst h
    exact Any.sort_Slice_tiny Tryz.vxSort 22 112 sitermT sitermE (by kernel_rfl) (by kernel_rfl) (by kernel_rfl) (by kernel_rfl) 25 (fun _=>by kernel_rfl) p 0 c h1 145 (by kernel_rfl) (.func 116) #[] lb w
  . obtain rfl:n=1:=by omega
    exact Any.sort_Slice_tiny Tryz.vxSort 22 112 sitermT sitermE (by kernel_rfl) (by kernel_rfl) (by kernel_rfl) (by kernel_rfl) 25 (fun _=>by kernel_rfl) p 1 c h1 146 (by kernel_rfl) (.func 116) #[] lb w
end Go.Proofs.YtaiondckookpiaaGreatDoor
namespace Go.Proofs.YtaiondckookpiaaGreatDoor
open Go Go.Vx
structure LR where
 l:List Str
 room:List (List D)
@[reducible] def lrow(x:LR):List D:=[.lst 46 (x.l.map crow) x.room]
def allL(lss:List LR):List Str:=(lss.map LR.l).flatten
theorem allL_take{lss:List LR}{i:Nat}{x:LR}(h:lss[i]? = some x):allL (lss.take (i+1))=allL (lss.take i)++x.l:=by
 unfold allL
 rw[take_snoc h]
 simp
theorem allL_le(lss:List LR)(i:Nat):(allL (lss.take i)).length<=(allL lss).length:=by
 unfold allL
 conv=>rhs;rw[<- List.take_append_drop i lss]
 rw[List.map_append,List.flatten_append,List.length_append]
 omega
theorem allL_le2{lss:List LR}{i:Nat}{x:LR}(h:lss[i]? = some x)(j:Nat):(allL (lss.take i)++x.l.take j).length<=(allL lss).length:=by
 have h1:=allL_le lss (i+1)
 rw[allL_take h] at h1
 simp at h1 ⊢
 omega
@[reducible] def trow2(x:Str × Str):List D:=[.i .i64 (x.1.length:Int),.i .u64 ((wof (car x.1) 0).toNat:Int),.i .u64 ((wof (car x.1) 1).toNat:Int),.i .u64 ((wof (car x.1) 2).toNat:Int),.i .u64 ((wof (car x.1) 3).toNat:Int),.i .u64 ((wof (one x.1) 0).toNat:Int),.i .u64 ((wof (one x.1) 1).toNat:Int),.i .u64 ((wof (one x.1) 2).toNat:Int),.i .u64 ((wof (one x.1) 3).toNat:Int),.s x.2]
def dup(c:Str):Str × Str:=(c,c)
theorem take_all2{α:Type}{l:List α}{n:Nat}(h:l.length=n):l.take n=l:=List.take_of_length_le (by omega)
theorem drop_all2{α:Type}{l:List α}{n:Nat}(h:l.length=n):l.drop n=[]:=List.drop_of_length_le (by omega)
def kf(p:Str)(ks:List Str)(i:Nat):Str:=p++(ks.take i).flatten
theorem kf_zero(p:Str)(ks:List Str):kf p ks 0=p:=by simp[kf]
theorem kf_step{p:Str}{ks:List Str}{i:Nat}{c:Str}(h:ks[i]? = some c):kf p ks (i+1)=kf p ks i++c:=by
 unfold kf
 rw[take_snoc h]
 simp
theorem kf_len{p:Str}{ks:List Str}{i n:Nat}(hp:p.length<=256)(h:∀ c ∈ ks,c.length<=256)(hi:i<=n):(kf p ks i).length<=256+n*256:=by
 have h1:=flat_len (l:=ks.take i) (n:=256) fun x hx=>h x (List.mem_of_mem_take hx)
 have h2:(ks.take i).length*256<=n*256:=Nat.mul_le_mul_right _ (by simp;omega)
 unfold kf
 rw[List.length_append]
 omega
theorem kf_key{p:Str}{ks:List Str}{n:Nat}(h:ks.length=n):Term.key ⟨p,ks⟩=kf p ks n:=by
 unfold kf Term.key
 rw[<- h,List.take_length]
theorem kf_ne{p:Str}{ks:List Str}{n:Nat}(h:p ≠ []):kf p ks n ≠ []:=fun e=>h (List.append_eq_nil_iff.1 e).1
theorem byteT:ByteT Tryz.prog 5:=by unfold ByteT;kernel_rfl
@[reducible] def tzero:List D:=[.i .i64 0,.i .u64 0,.i .u64 0,.i .u64 0,.i .u64 0,.i .u64 0,.i .u64 0,.i .u64 0,.i .u64 0,.nilS,.s []]
def NewT(p:Str)(less:List Str)(d:D)(rows:Vx.Rows):Prop:=
 rows=[]/\((termT p less=none/\d = .tup [.agg (trow ⟨⟨[],[]⟩,[]⟩),.b False])\/∃ t rm,termT p less=some t/\d = .tup [.agg (trow ⟨t,rm⟩),.b True])
set_option maxRecDepth 100000 in
set_option maxHeartbeats 8000000 in
theorem newTerm_at(p:Str)(lss:List LR){rl room:List (List D)}(hp:CN p)(hok:∀ x ∈ lss,∀ m ∈ x.l,CT m)(hn:(allL lss).length<=100000)(h1:lss.length<=100000)(h:rl=lss.map lrow) :
    FSpec Tryz.prog T 72 [.agg (crow p),.lst 58 rl room] (NewT p (allL lss)):=by
 subst h
 have hll:(lss.map lrow).length=lss.length:=by simp
 refine FSpec.of_ok tok Tryz.func72 rfl Tryz.call72 (by simp) ?_
 (try (conv=>whnf));repeat' (first|refine Ok.seq ?_|(refine Ok.region tok ?_;conv=>whnf)|refine Ok.block ?_|fail)
 refine Ok.ghost 6 46 rfl ?_
 (conv=>whnf)
 refine Ok.loopU [2,4,21,22] [6,23] 1 2 (fun (i:Nat)=>[.own 0 (metL p (allL (lss.take i))).length,.i .i64 (i:Nat)]) (fun _ b=>b) (fun (i:Nat) (_:Vx.Rows)=>[some (46,(metL p (allL (lss.take i))).map crow)]) (fun (i:Nat)=>i<=lss.length) (fun (i:Nat)=>lss.length - i) (0) (Nat.zero_le _) ?_;(conv=>whnf);refine⟨by ((conv=>whnf);first|rfl|(simp[envCat,List.take_of_length_le,cells9,crow,trow2,kf_zero];done)|(simp[envCat,List.take_of_length_le,cells9,crow,trow2,kf_zero];rw[IntKind.wrap_i64];omega)),?_⟩
 rintro i hi
 (conv=>whnf)
 by_cases hil:i<lss.length
 . obtain⟨x,hx⟩:∃ x,lss[i]? = some x:=⟨_,List.getElem?_eq_getElem hil⟩
   have hxo:=hok x (List.mem_of_getElem? hx)
   have hxl:(x.l.map crow).length=x.l.length:=by simp
   have hat:=allL_take hx
   have hxl2:x.l.length<=100000:=by have:=allL_le2 hx x.l.length;rw[List.take_length,List.length_append] at this;omega
   (try (conv=>whnf));repeat' (first|refine Ok.seq ?_|((first|refine Ok.region tok ?_|refine Ok.cond ?_);conv=>whnf)|refine Ok.block ?_|((first|refine Ok.skip ?_|refine ix _ (by assumption) ?_);conv=>whnf)|(refine bI ?_ ?_<;>intro<;>(conv=>whnf)<;>(try (exfalso;omega)))|fail)
   refine Ok.loopU [2,4,21,22,23,27,28] [6,29] 1 2 (fun (j:Nat)=>[.own 0 (metL p (allL (lss.take i)++x.l.take j)).length,.i .i64 (j:Nat)]) (fun _ b=>b) (fun (j:Nat) (_:Vx.Rows)=>[some (46,(metL p (allL (lss.take i)++x.l.take j)).map crow)]) (fun (j:Nat)=>j<=x.l.length) (fun (j:Nat)=>x.l.length - j) (0) (Nat.zero_le _) ?_;(conv=>whnf);refine⟨by ((conv=>whnf);first|rfl|(simp[envCat,List.take_of_length_le,cells9,crow,trow2,kf_zero];done)|(simp[envCat,List.take_of_length_le,cells9,crow,trow2,kf_zero];rw[IntKind.wrap_i64];omega)),?_⟩
   rintro j hj
   have hle:=allL_le2 hx j
   have hle2:=metL_le p (allL (lss.take i)++x.l.take j)
   generalize hM:metL p (allL (lss.take i)++x.l.take j)=M at *
   have hMl:(M.map crow).length=M.length:=by simp
   (conv=>whnf)
   by_cases hjl:j<x.l.length
   . obtain⟨m,hm⟩:∃ m,x.l[j]? = some m:=⟨_,List.getElem?_eq_getElem hjl⟩
     have hmo:=hxo m (List.mem_of_getElem? hm)
     have hsp:=meet_at m p hmo hp.1
     have hnext:metL p (allL (lss.take i)++x.l.take (j+1))=M++metL p [m]:=by rw[take_snoc hm,<- List.append_assoc,metL_app,hM]
     cases hmt:meetT m p with
     | none=>
      rw[hmt] at hsp
      (try (conv=>whnf));repeat' (first|refine Ok.seq ?_|((first|refine Ok.region tok ?_|refine Ok.cond ?_);conv=>whnf)|refine Ok.block ?_|((first|refine Ok.skip ?_|refine nI ?_|refine ix _ (by assumption) ?_);conv=>whnf)|(refine Or.inr (Or.inl ?_);(conv=>whnf);(repeat (refine aI ?_;conv=>whnf));refine⟨_,hsp,?_⟩;rintro _ _ ⟨rfl,rfl⟩;conv=>whnf)|((first|refine Alt2.l (aI ?_)|refine⟨_,.inl ⟨rfl,rfl⟩,?_⟩|refine⟨_,_,rfl,rfl,?_⟩);conv=>whnf)|(refine bI ?_ ?_<;>intro<;>(conv=>whnf)<;>(try (exfalso;omega)))|(refine aJ ?_;conv=>whnf)|fail)
      . rename_i h2
        exact absurd h2 (by simp)
      . refine⟨j+1,by omega,by omega,?_⟩
        rw[hnext,metL_none hmt,List.append_nil]
        (conv=>whnf)
        rfl
     | some c=>
      rw[hmt] at hsp
      (try (conv=>whnf));repeat' (first|refine Ok.seq ?_|((first|refine Ok.region tok ?_|refine Ok.cond ?_);conv=>whnf)|refine Ok.block ?_|((first|refine Ok.skip ?_|refine nI ?_|refine ix _ (by assumption) ?_);conv=>whnf)|(refine Or.inr (Or.inl ?_);(conv=>whnf);(repeat (refine aI ?_;conv=>whnf));refine⟨_,hsp,?_⟩;rintro _ _ ⟨rfl,rfl⟩;conv=>whnf)|((first|refine Alt2.l (aI ?_)|refine⟨_,.inl ⟨rfl,rfl⟩,?_⟩|refine⟨_,_,rfl,rfl,?_⟩);conv=>whnf)|(refine bI ?_ ?_<;>intro<;>(conv=>whnf)<;>(try (exfalso;omega)))|(refine aJ ?_;conv=>whnf)|fail)
      . refine⟨j+1,by omega,by omega,?_⟩
        rw[hnext,metL_some hmt]
        (conv=>whnf)
        simp[envCat]
      . rename_i h2
        exact absurd rfl h2
   . have hje:j=x.l.length:=by omega
     subst hje
     (try (conv=>whnf));repeat' (first|refine Ok.seq ?_|((first|refine Ok.region tok ?_|refine Ok.cond ?_|refine Ok.exit ?_|refine nI ?_);conv=>whnf)|(refine bI ?_ ?_<;>intro<;>(conv=>whnf)<;>(try (exfalso;omega)))|fail)
     refine⟨i+1,by omega,by omega,?_⟩
     rw[hat]
     rw[List.take_length] at hM
     rw[hM]
     (conv=>whnf)
     rfl
 . have hie:i=lss.length:=by omega
   subst hie
   rw[List.take_length]
   generalize hM:metL p (allL lss)=M
   have hML:M.length<=100000:=by have:=metL_le p (allL lss);rw[hM] at this;omega
   have hMl:(M.map crow).length=M.length:=by simp
   have hMok:∀ c ∈ M,CN c/\c.length=p.length:=by
    intro c hc
    rw[<- hM] at hc
    obtain⟨m,hm1,hm2⟩:=List.mem_filterMap.1 hc
    have hmc:CT m:=by
     unfold allL at hm1
     obtain⟨y,hy1,hy2⟩:=List.mem_flatten.1 hm1
     obtain⟨z,hz1,rfl⟩:=List.mem_map.1 hy1
     exact hok z hz1 m hy2
    have h3:=meetT_ct hm2 hmc hp.1
    have h4:=meetL_len ((meetT_eq h3.2.2).symm.trans hm2)
    exact⟨⟨h3.1,fun e=>hp.2 (by rw[e] at h4;exact List.eq_nil_of_length_eq_zero (by simpa using h4.2))⟩,h4.2.symm⟩
   (try (conv=>whnf));repeat' (first|refine Ok.seq ?_|((first|refine Ok.region tok ?_|refine Ok.cond ?_);conv=>whnf)|refine Ok.block ?_|(refine Ok.exit ?_;conv=>whnf)|(refine Or.inr (Or.inr (Or.inr (Or.inl ?_)));(conv=>whnf);(repeat (refine aI ?_;conv=>whnf));refine⟨_,greatestC_at M (by omega) (fun c hc=>(hMok c hc).1) (take_all crow M) , ?_⟩;rintro _ _ ⟨W,hW,rfl,rfl⟩<;>(refine And.intro (by simp[gRowsP,grounds,D.ground,cells9,crow,trow2,kf_zero]) ?_;conv=>whnf))|(refine bI ?_ ?_<;>intro<;>(conv=>whnf)<;>(try (exfalso;omega)))|fail)
   have hWk:=hW.n
   have hWt:=hW.tk
   have hWw:=hW.w
   rw[List.take_length] at hWk hWt
   have hKM:∀ c ∈ grG inL M,c ∈ M:=grG_sub inL M
   have hvoid:p ∈ grG inL M->termT p (allL lss)=none:=fun h=>termT_void (by rw[hM];exact h)
   have hsome:∀ ks:List Str,p ∉ grG inL M->ks.Perm (grG inL M)->ks.Pairwise (fun t u=>Op.bytesLess u t ≠ true)->termT p (allL lss)=some ⟨p,ks⟩:=fun ks h1 h2 h3=>termT_some (by rw[hM];exact h1) (by rw[hM];exact h2) h3
   generalize hK:grG inL M=K at *
   have hKok:∀ c ∈ K,CN c/\c.length=p.length:=fun c hc=>hMok c (hKM c hc)
   have hKl:K.length<=100000:=by omega
   have hWl:(W.map crow).length=W.length:=by simp
   have hWg:∀ i,i<K.length->W[i]? = K[i]?:=fun i hi=>by
    have:=congrArg (fun z:List Str=>z[i]?) hWt
    simp only[List.getElem?_take,if_pos hi] at this
    exact this
   refine Ok.loopU [2,4,6,48,49] [50] 2 2 (fun (i:Nat)=>[.i .i64 (i:Nat)]) (fun _ b=>b) (fun _ r=>r) (fun (i:Nat)=>i<=K.length/\∀ m ∈ K.take i,m ≠ p) (fun (i:Nat)=>K.length - i) (0) (⟨Nat.zero_le _,by simp⟩) ?_;(conv=>whnf);refine⟨by ((conv=>whnf);first|rfl|(simp[envCat,List.take_of_length_le,cells9,crow,trow2,kf_zero];done)|(simp[envCat,List.take_of_length_le,cells9,crow,trow2,kf_zero];rw[IntKind.wrap_i64];omega)),?_⟩
   rintro i ⟨hi2,hne⟩
   (conv=>whnf)
   by_cases hil2:i<K.length
   . obtain⟨c,hc⟩:∃ c,K[i]? = some c:=⟨_,List.getElem?_eq_getElem hil2⟩
     have hWi:W[((i:Nat):Int).toNat]? = some c:=by rw[toNat_cast,hWg i hil2,hc]
     have hcK:=hKok c (List.mem_of_getElem? hc)
     (try (conv=>whnf));repeat' (first|refine Ok.seq ?_|((first|refine Ok.region tok ?_|refine Ok.cond ?_);conv=>whnf)|refine Ok.block ?_|((first|refine Ok.skip ?_|refine rd rfl (by assumption) ?_);conv=>whnf)|(refine bI ?_ ?_<;>intro<;>(conv=>whnf)<;>(try (exfalso;omega)))|(refine aJ ?_;conv=>whnf)|fail)
     refine⟨_,eqCube,by kernel_rfl,?_⟩
     (conv=>whnf)
     (try (conv=>whnf));repeat' (first|refine Ok.seq ?_|((first|refine Ok.region tok ?_|refine Ok.cond ?_|refine Ok.skip ?_|refine Ok.ret ?_|refine nI ?_);conv=>whnf)|(refine bI ?_ ?_<;>intro<;>(conv=>whnf)<;>(try (exfalso;omega)))|fail)
     . rename_i he
       refine Or.inl ?_;(conv=>whnf)
       refine⟨rfl,.inl ⟨hvoid ?_,?_⟩⟩
       . rw[<- crow_inj hcK.1.1 hp.1 he]
         exact List.mem_of_getElem? hc
       . simp[oneD,Term.key]
     . rename_i he
       refine⟨i+1,by omega,⟨by omega,fun z hz=>?_⟩,?_⟩
       . rw[take_snoc hc] at hz
         rcases List.mem_append.1 hz with hz|hz
         . exact hne z hz
         . simp at hz
           rw[hz]
           intro e
           rw[e] at he
           exact he (eqDs_self p)
       . (conv=>whnf)
         rfl
   . have hie2:i=K.length:=by omega
     subst hie2
     rw[List.take_length] at hne
     have hpK:p ∉ K:=fun h=>hne p h rfl
     (try (conv=>whnf));repeat' (first|refine Ok.seq ?_|((first|refine Ok.region tok ?_|refine Ok.cond ?_);conv=>whnf)|refine Ok.block ?_|((first|refine Ok.exit ?_|refine⟨_,_,rfl,rfl,?_⟩);conv=>whnf)|(refine bI ?_ ?_<;>intro<;>(conv=>whnf)<;>(try (exfalso;omega)))|((first|refine aJ ?_|refine⟨_,rfl,?_⟩);conv=>whnf)|fail)
     refine Ok.loopU [2,4,6,15,62,63] [64] 3 3 (fun (i:Nat)=>[.i .i64 (i:Nat)]) (fun _ b=>b) (fun (i:Nat) (_:Vx.Rows)=>[some (46,M.map crow),some (46,W.map crow),some (164,((K.map dup).take i++List.replicate (K.length - i) ([],[])).map trow2)]) (fun (i:Nat)=>i<=K.length) (fun (i:Nat)=>K.length - i) (0) (Nat.zero_le _) ?_;(conv=>whnf);refine⟨by ((conv=>whnf);first|rfl|(simp[envCat,List.take_of_length_le,cells9,crow,trow2,kf_zero];done)|(simp[envCat,List.take_of_length_le,cells9,crow,trow2,kf_zero];rw[IntKind.wrap_i64];omega)),?_⟩
     rintro i hi3
     have hdl:(K.map dup).length=K.length:=by simp
     have hrl:((K.map dup).take i++List.replicate (K.length - i) (([],[]):Str × Str)).length=K.length:=by simp;omega
     have hrl2:(((K.map dup).take i++List.replicate (K.length - i) (([],[]):Str × Str)).map trow2).length=K.length:=by rw[List.length_map,hrl]
     (conv=>whnf)
     by_cases hil3:i<K.length
     . obtain⟨c,hc⟩:∃ c,K[i]? = some c:=⟨_,List.getElem?_eq_getElem hil3⟩
       have hWi:W[((i:Nat):Int).toNat]? = some c:=by rw[toNat_cast,hWg i hil3,hc]
       have hcK:=hKok c (List.mem_of_getElem? hc)
       have hdi:(K.map dup)[i]? = some (dup c):=by simp[hc]
       have hz:=room_at2 (ks:=K.map dup) (i:=i) (([],[]):Str × Str) hdl (by omega)
       have hst:=room_set2 (z:=(([],[]):Str × Str)) hdl hdi
       generalize hL:(K.map dup).take i++List.replicate (K.length - i) (([],[]):Str × Str)=L at *
       have hL2:∀ y:Str × Str,(L.set i y)[i]? = some y:=fun y=>List.getElem?_set_self (by omega)
       have hL3:∀ y:Str × Str,((L.set i y).map trow2).length=K.length:=fun y=>by simp[hrl]
       (try (conv=>whnf));repeat' (first|refine Ok.seq ?_|((first|refine Ok.region tok ?_|refine Ok.region_plan (id:=24) tok follows [(5,6,[]),(0,9,[]),(4,9,[]),(5,9,[6]),(6,9,[]),(0,12,[]),(2,12,[]),(4,12,[]),(5,12,[]),(6,12,[]),(9,12,[])] [.q 0,.q 1,.q 2,.q 3,.q 4,.q 5,.l 6,.q 7,.q 8,.l 9,.q 10,.q 11,.l 12] (by kernel_rfl) ?_|refine Ok.cond ?_);conv=>whnf)|refine Ok.block ?_|(refine Ok.skip ?_;conv=>whnf)|(refine Or.inl ?_;(conv=>whnf);(repeat (refine aI ?_;conv=>whnf));refine⟨_,text_at c hcK.1.1,rfl,?_⟩;conv=>whnf)|(refine rd rfl (by assumption) ?_;conv=>whnf)|(refine bI ?_ ?_<;>intro<;>(conv=>whnf)<;>(try (exfalso;omega)))|(refine aJ ?_;conv=>whnf)|fail)
       refine st (c,[]) hz (by simp) (by simp[setCells]) ?_
       rw[toNat_cast]
       (try (conv=>whnf));repeat' (first|(refine aJ ?_;conv=>whnf)|fail)
       refine st (c,c) (hL2 (c,[])) (by simp) (by simp[setCells]) ?_
       rw[toNat_cast,set_set_same,show ((c,c):Str × Str)=dup c from rfl,hst]
       (try (conv=>whnf));repeat' (first|((first|refine Ok.region tok ?_|refine nI ?_);conv=>whnf)|fail)
       refine⟨i+1,by omega,by omega,?_⟩
       (conv=>whnf)
       rfl
     . have hie3:i=K.length:=by omega
       subst hie3
       rw[Nat.sub_self,List.replicate_zero,List.append_nil,List.take_of_length_le (by simp)]
       have hkeys:∀ x ∈ ((K.map dup).map trow2).take K.length,∃ l,x[9]? = some (.s l):=by
        intro x hx
        obtain⟨y,_,rfl⟩:=List.mem_map.1 (List.mem_of_mem_take hx)
        exact⟨y.2,rfl⟩
       have hdl2:K.length<=((K.map dup).map trow2).length:=by simp
       (try (conv=>whnf));repeat' (first|(refine Ok.sortSlice tok sort_told (by (conv=>whnf);exact⟨rfl,rfl⟩) rfl rfl rfl hdl2 rfl (by decide) (by decide) hkeys (by omega) ?_)|refine Ok.seq ?_|((first|refine Ok.region tok ?_|refine Ok.cond ?_|refine Ok.exit ?_);conv=>whnf)|(refine bI ?_ ?_<;>intro<;>(conv=>whnf)<;>(try (exfalso;omega)))|fail)
       intro ys hperm hup
       rw[take_all2 (by simp:((K.map dup).map trow2).length=K.length)] at hperm
       rw[drop_all2 (by simp:((K.map dup).map trow2).length=K.length),List.append_nil]
       obtain⟨zs,hz1,rfl⟩:=perm_map_ex hperm _ rfl
       obtain⟨ks,hks,rfl⟩:=perm_map_ex hz1 _ rfl
       have hsort:ks.Pairwise fun t u=>Op.bytesLess u t ≠ true:=by
        unfold RowsUp at hup
        rw[List.pairwise_map,List.pairwise_map] at hup
        refine hup.imp fun {a b} h=>?_
        have h2:=h a b rfl rfl
        rw[h2]
        decide
       have hterm:=hsome ks hpK hks hsort
       have hkl:ks.length=K.length:=hks.length_eq
       have hkok:∀ c ∈ ks,CN c/\c.length=p.length:=fun c hc=>hKok c (hks.mem_iff.1 hc)
       clear hup hperm hz1 hsort hsome hvoid hkeys
       have hpl:=hp.1.len
       (conv=>whnf)
       refine Ok.seq ?_
       (refine Ok.region tok ?_;conv=>whnf)
       refine Ok.ghostB 3 1 5 rfl rfl ?_
       (conv=>whnf)
       (try (conv=>whnf));repeat' (first|refine Ok.seq ?_|(refine Ok.region tok ?_;conv=>whnf)|(refine Or.inl ?_;(conv=>whnf);(repeat (refine aI ?_;conv=>whnf));refine⟨_,text_at p hp.1,rfl,?_⟩;conv=>whnf)|fail)
       refine Or.inr (Or.inr (Or.inl ?_));(conv=>whnf);refine⟨_,_,Tryz.func110,rfl,Tryz.call110,?_⟩;(conv=>whnf)
       (try (conv=>whnf));repeat' (first|refine Ok.seq ?_|(refine Ok.region tok ?_;conv=>whnf)|fail)
       refine Or.inr (Or.inr (Or.inr (Or.inr ?_)))
       (conv=>whnf)
       refine effW_fresh copyAt rfl ?_
       (conv=>whnf)
       (try (conv=>whnf));repeat' (first|((refine And.intro byteT ?_);conv=>whnf)|refine Ok.seq ?_|(refine Ok.region tok ?_;conv=>whnf)|refine Ok.block ?_|((first|refine Ok.ret ?_|refine⟨_,_,rfl,rfl,?_⟩|refine aJ ?_);conv=>whnf)|fail)
       refine Ok.loopU [2,4,6,18,88,89] [90] 4 4 (fun (i:Nat)=>[.i .i64 (i:Nat)]) (fun (i:Nat) (_:List (List D))=>[crow p,tzero,[.own 2 K.length],[.bp 3 0,.own 3 (kf p ks i).length]]) (fun (i:Nat) (_:Vx.Rows)=>[some (46,M.map crow),some (46,(ks.take i++W.drop i).map crow),some (164,(ks.map dup).map trow2),some (5,(kf p ks i).map bcell)]) (fun (i:Nat)=>i<=K.length) (fun (i:Nat)=>K.length - i) (0) (Nat.zero_le _) ?_;(conv=>whnf);refine⟨by ((conv=>whnf);first|rfl|(simp[envCat,List.take_of_length_le,cells9,crow,trow2,kf_zero];done)|(simp[envCat,List.take_of_length_le,cells9,crow,trow2,kf_zero];rw[IntKind.wrap_i64];omega)),?_⟩
       rintro i hi4
       have hfl:(kf p ks i).length<=256+100000*256:=kf_len hpl (fun c hc=>(hkok c hc).1.1.len) (by omega)
       have hbl:((kf p ks i).map bcell).length=(kf p ks i).length:=List.length_map _
       have htl:((ks.map dup).map trow2).length=K.length:=by simp[hkl]
       have hml:((ks.take i++W.drop i).map crow).length=W.length:=by simp;omega
       have hml2:∀ y,(((ks.take i++W.drop i).set i y).map crow).length=W.length:=fun y=>by simp;omega
       (conv=>whnf)
       by_cases hil4:i<K.length
       . obtain⟨c,hc⟩:∃ c,ks[i]? = some c:=⟨_,List.getElem?_eq_getElem (by omega)⟩
         have hco:=hkok c (List.mem_of_getElem? hc)
         have hcl:=hco.1.1.len
         have hdi:(ks.map dup)[((i:Nat):Int).toNat]? = some (dup c):=by simp[hc]
         obtain⟨y,hy⟩:=over_at (ks:=ks) (W:=W) (i:=i) (by omega) (by omega)
         have hst:=over_set (W:=W) hc (by omega)
         have hnx:=kf_step (p:=p) hc
         (try (conv=>whnf));repeat' (first|refine Ok.seq ?_|((first|refine Ok.region tok ?_|refine Ok.cond ?_);conv=>whnf)|refine Ok.block ?_|((first|refine Ok.skip ?_|refine rd rfl (by assumption) ?_);conv=>whnf)|(refine bI ?_ ?_<;>intro<;>(conv=>whnf)<;>(try (exfalso;omega)))|(refine aJ ?_;conv=>whnf)|fail)
         refine st c hy (by simp) (by simp[setCells,dup]) ?_
         rw[toNat_cast]
         (try (conv=>whnf));repeat' (first|(refine Ok.region tok ?_;conv=>whnf)|fail)
         refine Or.inr (Or.inr (Or.inl ?_));(conv=>whnf);refine⟨_,_,Tryz.func110,rfl,Tryz.call110,?_⟩;(conv=>whnf)
         (try (conv=>whnf));repeat' (first|refine Ok.seq ?_|(refine Ok.region tok ?_;conv=>whnf)|fail)
         refine Or.inr (Or.inr (Or.inr (Or.inr ?_)))
         (conv=>whnf)
         refine effW_used copyAt rfl ?_
         (conv=>whnf)
         have hdc:(dup c).2.length<=256:=hcl
         (try (conv=>whnf));repeat' (first|((refine And.intro byteT ?_);conv=>whnf)|refine Ok.seq ?_|((first|refine Ok.region tok ?_|refine Ok.ret ?_|refine nI ?_|refine⟨_,_,rfl,rfl,?_⟩|refine aJ ?_);conv=>whnf)|fail)
         refine⟨i+1,by omega,by omega,?_⟩
         rw[<- hst,hnx]
         (conv=>whnf)
         simp[envCat,dup]
       . have hie4:i=K.length:=by omega
         subst hie4
         (try (conv=>whnf));repeat' (first|refine Ok.seq ?_|((first|refine Ok.region tok ?_|refine Ok.region_plan (id:=35) tok follows [(0,4,[]),(2,4,[])] [.q 0,.q 1,.l 2,.q 3,.l 4,.q 5] (by kernel_rfl) ?_|refine Ok.cond ?_|refine Ok.exit ?_);conv=>whnf)|(refine bI ?_ ?_<;>intro<;>(conv=>whnf)<;>(try (exfalso;omega)))|fail)
         have hkey:=kf_key (p:=p) hkl
         have hne0:kf p ks K.length ≠ []:=kf_ne hp.2
         have htk:((ks.take K.length++W.drop K.length).map crow).take K.length=ks.map crow:=by
          rw[<- hkl,List.take_length,List.map_append]
          exact List.take_left' (by simp)
         refine Or.inr (Or.inr (Or.inr ?_))
         (conv=>whnf)
         refine effK_string strAt rfl rfl rfl (by rw[hbl];exact Nat.le_refl _) (take_all bcell _) hne0 ?_
         (conv=>whnf)
         (try (conv=>whnf));repeat' (first|(refine Ok.ret ?_;conv=>whnf)|fail)
         refine Or.inl ?_;(conv=>whnf)
         refine⟨rfl,.inr ⟨⟨p,ks⟩,((ks.take K.length++W.drop K.length).map crow).drop K.length,hterm,?_⟩⟩
         rw[htk]
         simp only[oneD,trow,hkey]
end Go.Proofs.YtaiondckookpiaaGreatDoor
namespace Go.Proofs.YtaiondckookpiaaGreatDoor
open Go Go.Vx
def szT(l:List Term):Nat:=(l.map fun t=>1+t.less.length).sum
theorem szT_snoc(l:List Term)(t:Term):szT (l++[t])=szT l+(1+t.less.length):=by simp[szT]
theorem szT_le{l:List Term}(h:∀ t ∈ l,t.less.length<=1048576):szT l<=l.length*1048577:=by
 induction l with
 | nil=>simp[szT]
 | cons t l ih=>
  have h1:=ih fun x hx=>h x (by simp[hx])
  have h2:=h t (by simp)
  simp only[szT,List.map_cons,List.sum_cons,List.length_cons] at h1 ⊢
  rw[Nat.add_mul]
  omega
set_option maxHeartbeats 4000000 in
theorem size_at(bits:Int)(l:List TR){rl room:List (List D)}(hl:l.length<=1048576)(hok:∀ x ∈ l,x.t.less.length<=1048576)(h:rl=l.map trow):FSpec Tryz.prog T 60 [.agg [.i .i64 bits,.lst 112 rl room]] (fun d _=>d = .i .i64 (szT (l.map TR.t):Nat)):=by
 subst h
 have hll:(l.map trow).length=l.length:=by simp
 refine FSpec.of_ok tok Tryz.func60 rfl Tryz.call60 (by simp) ?_
 (try (conv=>whnf));repeat' (first|refine Ok.seq ?_|(refine Ok.region tok ?_;conv=>whnf)|refine Ok.block ?_|fail)
 refine Ok.loopU [7,8] [3,9] 0 1 (fun (i:Nat)=>[.i .i64 (szT ((l.take i).map TR.t):Nat),.i .i64 (i:Nat)]) (fun _ b=>b) (fun _ r=>r) (fun (i:Nat)=>i<=l.length) (fun (i:Nat)=>l.length - i) (0) (Nat.zero_le _) ?_;(conv=>whnf);refine⟨by ((conv=>whnf);first|rfl|(simp[envCat,List.take_of_length_le,cells9,crow,trow];done)|(simp[envCat,List.take_of_length_le,cells9,crow,trow];rw[IntKind.wrap_i64];omega)),?_⟩
 rintro i hi
 have hs:szT ((l.take i).map TR.t)<=1048576*1048577:=by
  refine Nat.le_trans (szT_le fun t ht=>?_) (Nat.mul_le_mul_right _ (by simp;omega))
  obtain⟨x,hx,rfl⟩:=List.mem_map.1 ht
  exact hok x (List.mem_of_mem_take hx)
 (conv=>whnf)
 by_cases hil:i<l.length
 . obtain⟨x,hx⟩:∃ x,l[i]? = some x:=⟨_,List.getElem?_eq_getElem hil⟩
   have hxo:=hok x (List.mem_of_getElem? hx)
   have hxl:(x.t.less.map crow).length=x.t.less.length:=by simp
   have hnx:szT ((l.take (i+1)).map TR.t)=szT ((l.take i).map TR.t)+(1+x.t.less.length):=by rw[take_snoc hx,List.map_append];exact szT_snoc _ _
   generalize szT ((l.take i).map TR.t)=S at *
   (try (conv=>whnf));repeat' (first|refine Ok.seq ?_|((first|refine Ok.region tok ?_|refine Ok.cond ?_);conv=>whnf)|refine Ok.block ?_|((first|refine Ok.skip ?_|refine nI ?_|refine ix _ (by assumption) ?_);conv=>whnf)|(refine bI ?_ ?_<;>intro<;>(conv=>whnf)<;>(try (exfalso;omega)))|fail)
   refine⟨i+1,by omega,by omega,?_⟩
   rw[hnx]
   (conv=>whnf)
   simp[envCat]
 . have hie:i=l.length:=by omega
   subst hie
   rw[List.take_length]
   (try (conv=>whnf));repeat' (first|refine Ok.seq ?_|((first|refine Ok.region tok ?_|refine Ok.cond ?_|refine Ok.exit ?_|refine Ok.ret ?_);conv=>whnf)|(refine bI ?_ ?_<;>intro<;>(conv=>whnf)<;>(try (exfalso;omega)))|fail)
   refine Or.inl ?_;(conv=>whnf)
   rfl
theorem grG_map{α β:Type}(f:α->β)(R:β->β->Prop)(l:List α):(grG (fun a b=>R (f a) (f b)) l).map f=grG R (l.map f):=by
 have step:∀ (k:List α) (x:α),(addG (fun a b=>R (f a) (f b)) k x).map f=addG R (k.map f) (f x):=by
  intro k x
  by_cases h:∃ y ∈ k,R (f x) (f y)
  . rw[addG_in h,addG_in (by obtain⟨y,h1,h2⟩:=h;exact⟨f y,List.mem_map_of_mem h1,h2⟩)]
  . have h1:∀ y ∈ k,¬ R (f x) (f y):=fun y hy h2=>h ⟨y,hy,h2⟩
    rw[addG_out (R:=fun a b=>R (f a) (f b)) h1,addG_out (R:=R) (by
     intro y hy
     obtain⟨z,hz,rfl⟩:=List.mem_map.1 hy
     exact h1 z hz)]
    rw[List.map_append,List.filter_map]
    rfl
 have go:∀ (l k:List α),(l.foldl (addG (fun a b=>R (f a) (f b))) k).map f=(l.map f).foldl (addG R) (k.map f):=by
  intro l
  induction l with
  | nil=>intro k;rfl
  | cons x l ih=>intro k;rw[List.foldl_cons,ih,step];rfl
 exact go l []
theorem grG_len{α:Type}(R:α->α->Prop)(l:List α):(grG R l).length<=l.length:=by
 have step:∀ (k:List α) (x:α),(addG R k x).length<=k.length+1:=by
  intro k x
  by_cases h:∃ y ∈ k,R x y
  . rw[addG_in h];omega
  . rw[addG_out (fun y hy h2=>h ⟨y,hy,h2⟩),List.length_append]
    exact Nat.add_le_add_right (List.length_filter_le _ _) 1
 have go:∀ (l k:List α),(l.foldl (addG R) k).length<=k.length+l.length:=by
  intro l
  induction l with
  | nil=>intro k;simp
  | cons x l ih=>
   intro k
   have h1:=ih (addG R k x)
   have h2:=step k x
   simp only[List.foldl_cons,List.length_cons]
   omega
 show (l.foldl (addG R) []).length<=l.length
 have:=go l []
 simpa using this
def passedV:Value:=.iface 154 (.agg #[])
structure TO(n:Nat)(x:TR):Prop where
 tn:TN x
 ok:x.t.Ok n
set_option maxRecDepth 100000 in
set_option maxHeartbeats 8000000 in
theorem form_at(bits:Int)(n:Nat)(l:List TR){rl room:List (List D)}(hl:l.length<=1048576)(hok:∀ x ∈ l,TO n x)(h:rl=l.map trow)(hsz:szT (formT (l.map TR.t))<=128) :
    FSpec Tryz.prog T 65 [.i .i64 bits,.lst 112 rl room] (fun d rows=>∃ (ks:List TR) (rm:List (List D)),d = .agg [.i .i64 bits,.lst 112 (ks.map trow) rm]/\rows=[]/\ks.map TR.t=formT (l.map TR.t)/\∀ x ∈ ks,x ∈ l):=by
 subst h
 refine FSpec.of_ok tok Tryz.func65 rfl Tryz.call65 (by simp) ?_
 refine Ok.seq ?_
 (refine Ok.region tok ?_;conv=>whnf)
 refine Ok.seq ?_
 (refine Ok.region tok ?_;conv=>whnf)
 right
 left
 (conv=>whnf)
 refine⟨_,greatestT_at l hl (fun x hx=>(hok x hx).tn) rfl,?_⟩
 rintro d rows ⟨W,hW,rfl,rfl⟩
 have hWk:=hW.n
 have hWt:=hW.tk
 rw[List.take_length] at hWk hWt
 have hKl:(grG covR l).map TR.t=grG covT (l.map TR.t):=grG_map TR.t covT l
 have hKm:∀ x ∈ grG covR l,x ∈ l:=grG_sub covR l
 have hKn:=grG_len covR l
 have hWw:=hW.w
 have hkp:(W.map trow).length=W.length:=by simp
 generalize grG covR l=K at *
 have hkeys:∀ x ∈ (W.map trow).take K.length,∃ l,x[10]? = some (.s l):=by
  intro x hx
  obtain⟨y,_,rfl⟩:=List.mem_map.1 (List.mem_of_mem_take hx)
  exact⟨y.t.key,rfl⟩
 have htk:(W.map trow).take K.length=K.map trow:=by rw[<- List.map_take,hWt]
 (conv=>whnf)
 refine Ok.seq ?_
 refine Ok.sortSlice tok sort_term (by (conv=>whnf);exact⟨rfl,rfl⟩) rfl rfl rfl (by rw[hkp];exact hWk) rfl (by decide) (by decide) hkeys (by omega) ?_
 intro ys hperm hup
 rw[htk] at hperm
 obtain⟨ks,hks,rfl⟩:=perm_map_ex hperm _ rfl
 have hkl:ks.length=K.length:=hks.length_eq
 have hsort:(ks.map TR.t).Pairwise fun t u=>Op.bytesLess u.key t.key ≠ true:=by
  unfold RowsUp at hup
  rw[List.pairwise_map] at hup ⊢
  refine hup.imp fun {a b} h=>?_
  have h2:=h a.t.key b.t.key rfl rfl
  rw[h2]
  decide
 have hform:ks.map TR.t=formT (l.map TR.t):=formT_eq (n:=n) (fun t ht=>by
  obtain⟨x,hx,rfl⟩:=List.mem_map.1 ht
  exact (hok x hx).ok) (by rw[<- hKl];exact hks.map _) hsort
 have hmem:∀ x ∈ ks,x ∈ l:=fun x hx=>hKm x (hks.mem_iff.1 hx)
 have hrow:((ks.map trow++(W.map trow).drop K.length).take K.length)=ks.map trow:=by
  rw[<- hkl]
  exact List.take_left' (by simp)
 have hrl:(ks.map trow++(W.map trow).drop K.length).length=W.length:=by simp;omega
 clear hup hperm hkeys
 rw[<- hform] at hsz
 (conv=>whnf)
 (try (conv=>whnf));repeat' (first|refine Ok.seq ?_|((first|refine Ok.region tok ?_|refine Ok.cond ?_|refine Ok.skip ?_|refine Ok.ret ?_);conv=>whnf)|(refine Or.inl ?_;(conv=>whnf);(repeat (refine aI ?_;conv=>whnf));refine⟨_,size_at bits ks (by omega) (fun x hx=>(hok x (hmem x hx)).tn.n) hrow,rfl,?_⟩;conv=>whnf)|(refine bI ?_ ?_<;>intro<;>(conv=>whnf)<;>(try (exfalso;omega)))|fail)
 refine Or.inl ?_;(conv=>whnf)
 rw[hrow]
 exact⟨ks,_,rfl,rfl,hform,hmem⟩
set_option maxRecDepth 100000 in
set_option maxHeartbeats 8000000 in
theorem form_pan(bits:Int)(n:Nat)(l:List TR){rl room:List (List D)}(hl:l.length<=1048576)(hok:∀ x ∈ l,TO n x)(h:rl=l.map trow)(hsz:128<szT (formT (l.map TR.t))) :
    PSpec Tryz.prog T 65 [.i .i64 bits,.lst 112 rl room] passedV:=by
 subst h
 refine PSpec.of_ok Tryz.func65 rfl Tryz.call65 (by simp) ?_
 refine Ok.seq ?_
 (refine Ok.region tok ?_;conv=>whnf)
 refine Ok.seq ?_
 (refine Ok.region tok ?_;conv=>whnf)
 right
 left
 (conv=>whnf)
 refine⟨_,greatestT_at l hl (fun x hx=>(hok x hx).tn) rfl,?_⟩
 rintro d rows ⟨W,hW,rfl,rfl⟩
 have hWk:=hW.n
 have hWt:=hW.tk
 rw[List.take_length] at hWk hWt
 have hKl:(grG covR l).map TR.t=grG covT (l.map TR.t):=grG_map TR.t covT l
 have hKm:∀ x ∈ grG covR l,x ∈ l:=grG_sub covR l
 have hKn:=grG_len covR l
 have hWw:=hW.w
 have hkp:(W.map trow).length=W.length:=by simp
 generalize grG covR l=K at *
 have hkeys:∀ x ∈ (W.map trow).take K.length,∃ l,x[10]? = some (.s l):=by
  intro x hx
  obtain⟨y,_,rfl⟩:=List.mem_map.1 (List.mem_of_mem_take hx)
  exact⟨y.t.key,rfl⟩
 have htk:(W.map trow).take K.length=K.map trow:=by rw[<- List.map_take,hWt]
 (conv=>whnf)
 refine Ok.seq ?_
 refine Ok.sortSlice tok sort_term (by (conv=>whnf);exact⟨rfl,rfl⟩) rfl rfl rfl (by rw[hkp];exact hWk) rfl (by decide) (by decide) hkeys (by omega) ?_
 intro ys hperm hup
 rw[htk] at hperm
 obtain⟨ks,hks,rfl⟩:=perm_map_ex hperm _ rfl
 have hkl:ks.length=K.length:=hks.length_eq
 have hsort:(ks.map TR.t).Pairwise fun t u=>Op.bytesLess u.key t.key ≠ true:=by
  unfold RowsUp at hup
  rw[List.pairwise_map] at hup ⊢
  refine hup.imp fun {a b} h=>?_
  have h2:=h a.t.key b.t.key rfl rfl
  rw[h2]
  decide
 have hform:ks.map TR.t=formT (l.map TR.t):=formT_eq (n:=n) (fun t ht=>by
  obtain⟨x,hx,rfl⟩:=List.mem_map.1 ht
  exact (hok x hx).ok) (by rw[<- hKl];exact hks.map _) hsort
 have hmem:∀ x ∈ ks,x ∈ l:=fun x hx=>hKm x (hks.mem_iff.1 hx)
 have hrow:((ks.map trow++(W.map trow).drop K.length).take K.length)=ks.map trow:=by
  rw[<- hkl]
  exact List.take_left' (by simp)
 have hrl:(ks.map trow++(W.map trow).drop K.length).length=W.length:=by simp;omega
 clear hup hperm hkeys
 rw[<- hform] at hsz
 (conv=>whnf)
 (try (conv=>whnf));repeat' (first|(refine Ok.region_throw (fun _=>by kernel_rfl) (by kernel_rfl) (by decide) (by decide) ?_)|refine Ok.seq ?_|((first|refine Ok.region tok ?_|refine Ok.cond ?_);conv=>whnf)|(refine Or.inl ?_;(conv=>whnf);(repeat (refine aI ?_;conv=>whnf));refine⟨_,size_at bits ks (by omega) (fun x hx=>(hok x (hmem x hx)).tn.n) hrow,rfl,?_⟩;conv=>whnf)|(refine bI ?_ ?_<;>intro<;>(conv=>whnf)<;>(try (exfalso;omega)))|fail)
 rfl
end Go.Proofs.YtaiondckookpiaaGreatDoor
namespace Go.Proofs.YtaiondckookpiaaGreatDoor
open Go Go.Vx
@[reducible] def srow(s:Str):List D:=[.s s]
set_option maxHeartbeats 4000000 in
theorem rmeet_at(c d:Str)(hc:c.length<=100000):FSpec Tryz.prog T 73 [.s c,.s d] (fun r rows=>r = .tup [.s ((meetT c d).getD []),.b ((meetT c d).isSome=true)]/\rows=[]):=by
 refine FSpec.of_ok tok Tryz.func73 rfl Tryz.call73 (by simp) ?_
 have hnone:meetT c d=none->(D.tup [.s [],.b False]) = .tup [.s ((meetT c d).getD []),.b ((meetT c d).isSome=true)]:=fun h=>by rw[h];simp
 (try (conv=>whnf));repeat' (first|refine Ok.seq ?_|((first|refine Ok.region tok ?_|refine Ok.cond ?_);conv=>whnf)|refine Ok.block ?_|((first|refine Ok.skip ?_|refine Ok.ret ?_|refine⟨_,_,rfl,rfl,?_⟩);conv=>whnf)|(refine bI ?_ ?_<;>intro<;>(conv=>whnf)<;>(try (exfalso;omega)))|((first|refine aJ ?_|refine⟨_,rfl,?_⟩);conv=>whnf)|fail)
 . rename_i h
   refine Or.inl ?_;(conv=>whnf)
   refine⟨hnone ?_,rfl⟩
   unfold meetT
   split
   . rfl
   . cases hm:meetL c d with
     | none=>rfl
     | some m=>have:=meetL_len hm;omega
 . rename_i h h2
   refine Or.inl ?_;(conv=>whnf)
   refine⟨hnone ?_,rfl⟩
   unfold meetT
   rw[if_pos (List.eq_nil_of_length_eq_zero (by omega))]
 . rename_i h h2
   have hl:c.length=d.length:=by omega
   have hne:c ≠ []:=fun e=>by rw[e] at h2;simp at h2
   refine Ok.loopU [0,1,6] [7] 1 0 (fun (x:Nat × Str)=>[.i .i64 (x.1:Nat)]) (fun _ b=>b) (fun (x:Nat × Str) (_:Vx.Rows)=>[some (5,(x.2++List.replicate (c.length - x.1) 0).map bcell)]) (fun (x:Nat × Str)=>x.1<=c.length/\meetL (c.take x.1) (d.take x.1)=some x.2) (fun (x:Nat × Str)=>c.length - x.1) ((0,[])) (⟨Nat.zero_le _,by simp[meetL]⟩) ?_;(conv=>whnf);refine⟨by ((conv=>whnf);first|rfl|(simp[envCat,List.take_of_length_le,bcell,srow];done)|(simp[envCat,List.take_of_length_le,bcell,srow];rw[IntKind.wrap_i64];omega)),?_⟩
   rintro⟨i,m⟩ ⟨hi,hm⟩
   dsimp only at hi hm ⊢
   have hml:m.length=i:=by have:=meetL_len hm;simp at this;omega
   have hrl:(m++List.replicate (c.length - i) (0:UInt8)).length=c.length:=by simp;omega
   have hrl2:((m++List.replicate (c.length - i) (0:UInt8)).map bcell).length=c.length:=by rw[List.length_map,hrl]
   (conv=>whnf)
   by_cases hil:i<c.length
   . obtain⟨a,ha⟩:∃ a,c[i]? = some a:=⟨_,List.getElem?_eq_getElem hil⟩
     obtain⟨b,hb⟩:∃ b,d[i]? = some b:=⟨_,List.getElem?_eq_getElem (by omega)⟩
     have haI:c[((i:Nat):Int).toNat]? = some a:=ha
     have hbI:d[((i:Nat):Int).toNat]? = some b:=hb
     have hz:=fill2_at hml hil
     have hs2:=fun b y=>fill2_set (b:=b) (y:=y) hml hil
     have hs1:=fun b=>fill2_set1 (b:=b) hml hil
     generalize hL:m++List.replicate (c.length - i) (0:UInt8)=L at *
     have hL2:∀ y:UInt8,(L.set i y)[i]? = some y:=fun y=>List.getElem?_set_self (by omega)
     have hL3:∀ y:UInt8,((L.set i y).map bcell).length=c.length:=fun y=>by simp[hrl]
     by_cases hx:a=120
     . subst hx
       have hn:(((120:UInt8).toNat:Nat):Int)=120:=rfl
       have hst:=meetL_step ha hb hm (show meet1 120 b=some b from rfl)
       (try (conv=>whnf));repeat' (first|refine Ok.seq ?_|((first|refine Ok.region tok ?_|refine Ok.cond ?_);conv=>whnf)|refine Ok.block ?_|((first|refine Ok.skip ?_|refine⟨_,by assumption,?_⟩);conv=>whnf)|(refine bI ?_ ?_<;>intro<;>(conv=>whnf)<;>(try (exfalso;omega)))|(refine aJ ?_;conv=>whnf)|fail)
       refine st 120 hz (by simp[bcell]) (by simp[setCells,bcell]) ?_
       rw[toNat_cast]
       (try (conv=>whnf));repeat' (first|refine Ok.seq ?_|((first|refine Ok.region tok ?_|refine Ok.cond ?_|refine⟨_,by assumption,?_⟩);conv=>whnf)|(refine bI ?_ ?_<;>intro<;>(conv=>whnf)<;>(try (exfalso;omega)))|((first|refine aJ ?_|refine num_any ?_);conv=>whnf)|fail)
       refine st b (hL2 120) (by simp[bcell]) (by simp[setCells,bcell]) ?_
       rw[toNat_cast,hs2]
       (try (conv=>whnf));repeat' (first|((first|refine Ok.region tok ?_|refine nI ?_);conv=>whnf)|fail)
       refine⟨(i+1,m++[b]),by dsimp only;omega,⟨by dsimp only;omega,hst⟩,?_⟩
       (conv=>whnf)
       rfl
     . have hx2:=u8_ne hx
       rw[show (((120:UInt8).toNat:Nat):Int)=120 from rfl] at hx2
       by_cases hb1:b=120\/b=a
       . have hst:=meetL_step ha hb hm (show meet1 a b=some a by unfold meet1;rw[if_neg hx,if_pos hb1])
         have hb3:((b.toNat:Nat):Int)=120\/((b.toNat:Nat):Int)=((a.toNat:Nat):Int):=by
          rcases hb1 with rfl|rfl
          . exact .inl rfl
          . exact .inr rfl
         (try (conv=>whnf));repeat' (first|refine Ok.seq ?_|((first|refine Ok.region tok ?_|refine Ok.cond ?_);conv=>whnf)|refine Ok.block ?_|((first|refine Ok.skip ?_|refine⟨_,by assumption,?_⟩);conv=>whnf)|(refine bI ?_ ?_<;>intro<;>(conv=>whnf)<;>(try (exfalso;omega)))|((first|refine aJ ?_|refine num_any ?_);conv=>whnf)|fail)
         refine st a hz (by simp[bcell]) (by simp[setCells,bcell]) ?_
         rw[toNat_cast,hs1]
         (try (conv=>whnf));repeat' (first|refine Ok.seq ?_|((first|refine Ok.region tok ?_|refine Ok.region_draw tok follows (by kernel_rfl) ?_|refine Ok.cond ?_|refine Ok.skip ?_|refine nI ?_|refine⟨_,by assumption,?_⟩);conv=>whnf)|(refine bI ?_ ?_<;>intro<;>(conv=>whnf)<;>(try (exfalso;omega)))|((first|refine aJ ?_|refine num_any ?_);conv=>whnf)|fail)
         all_goals
          refine⟨(i+1,m++[a]),by dsimp only;omega,⟨by dsimp only;omega,hst⟩,?_⟩
          (conv=>whnf)
          rfl
       . have hst:=meetL_stop ha hb (show meet1 a b=none by unfold meet1;rw[if_neg hx,if_neg hb1])
         have hb3:=u8_ne (fun e=>hb1 (.inl e):b ≠ 120)
         have hb4:=u8_ne (fun e=>hb1 (.inr e):b ≠ a)
         rw[show (((120:UInt8).toNat:Nat):Int)=120 from rfl] at hb3
         (try (conv=>whnf));repeat' (first|refine Ok.seq ?_|((first|refine Ok.region tok ?_|refine Ok.cond ?_);conv=>whnf)|refine Ok.block ?_|((first|refine Ok.skip ?_|refine⟨_,by assumption,?_⟩);conv=>whnf)|(refine bI ?_ ?_<;>intro<;>(conv=>whnf)<;>(try (exfalso;omega)))|((first|refine aJ ?_|refine num_any ?_);conv=>whnf)|fail)
         refine st a hz (by simp[bcell]) (by simp[setCells,bcell]) ?_
         rw[toNat_cast,hs1]
         (try (conv=>whnf));repeat' (first|refine Ok.seq ?_|((first|refine Ok.region tok ?_|refine Ok.region_draw tok follows (by kernel_rfl) ?_|refine Ok.cond ?_|refine Ok.ret ?_|refine⟨_,by assumption,?_⟩);conv=>whnf)|(refine bI ?_ ?_<;>intro<;>(conv=>whnf)<;>(try (exfalso;omega)))|((first|refine aJ ?_|refine num_any ?_);conv=>whnf)|fail)
         all_goals
          refine Or.inl ?_;(conv=>whnf)
          refine⟨hnone ?_,rfl⟩
          rw[meetT_eq hne,hst]
   . have hie:i=c.length:=by omega
     subst hie
     rw[List.take_length,hl,List.take_length] at hm
     rw[Nat.sub_self,List.replicate_zero,List.append_nil]
     (try (conv=>whnf));repeat' (first|refine Ok.seq ?_|((first|refine Ok.region tok ?_|refine Ok.cond ?_|refine Ok.exit ?_);conv=>whnf)|(refine bI ?_ ?_<;>intro<;>(conv=>whnf)<;>(try (exfalso;omega)))|(refine aJ ?_;conv=>whnf)|fail)
     refine⟨m,by rw[<- hml];exact take_all bcell m,?_⟩
     (try (conv=>whnf));repeat' (first|(refine Ok.ret ?_;conv=>whnf)|fail)
     refine Or.inl ?_;(conv=>whnf)
     refine⟨?_,rfl⟩
     rw[meetT_eq hne,hm]
     simp[oneD]
set_option maxHeartbeats 4000000 in
theorem rinside_at(c d:Str)(hc:c.length<=100000):FSpec Tryz.prog T 78 [.s c,.s d] (fun r _=>r = .b (inT c d)):=by
 refine FSpec.of_ok tok Tryz.func78 rfl Tryz.call78 (by simp) ?_
 (try (conv=>whnf));repeat' (first|refine Ok.seq ?_|((first|refine Ok.region tok ?_|refine Ok.cond ?_);conv=>whnf)|refine Ok.block ?_|((first|refine Ok.skip ?_|refine Ok.ret ?_);conv=>whnf)|(refine bI ?_ ?_<;>intro<;>(conv=>whnf)<;>(try (exfalso;omega)))|fail)
 . rename_i h
   refine Or.inl ?_;(conv=>whnf)
   show D.b False=_
   exact congrArg D.b (propext ⟨fun h=>h.elim,fun h2=>by have:=inL_len h2.2;omega⟩)
 . rename_i h h2
   refine Or.inl ?_;(conv=>whnf)
   show D.b False=_
   exact congrArg D.b (propext ⟨fun h=>h.elim,fun h3=>h3.1 (List.eq_nil_of_length_eq_zero (by omega))⟩)
 . rename_i h h2
   have hl:c.length=d.length:=by omega
   have hne:c ≠ []:=fun e=>by rw[e] at h2;simp at h2
   refine Ok.loopU [0,1] [5] 0 0 (fun (i:Nat)=>[.i .i64 (i:Nat)]) (fun _ b=>b) (fun _ r=>r) (fun (i:Nat)=>i<=c.length/\∀ (k:Nat) a b,k<i->c[k]? = some a->d[k]? = some b->b=120\/b=a) (fun (i:Nat)=>c.length - i) (0) (⟨Nat.zero_le _,fun k _ _ hk=>absurd hk (by omega)⟩) ?_;(conv=>whnf);refine⟨by ((conv=>whnf);first|rfl|(simp[envCat,List.take_of_length_le,bcell,srow];done)|(simp[envCat,List.take_of_length_le,bcell,srow];rw[IntKind.wrap_i64];omega)),?_⟩
   rintro i ⟨hi,hall⟩
   (conv=>whnf)
   by_cases hil:i<c.length
   . obtain⟨a,ha⟩:∃ a,c[i]? = some a:=⟨_,List.getElem?_eq_getElem hil⟩
     obtain⟨b,hb⟩:∃ b,d[i]? = some b:=⟨_,List.getElem?_eq_getElem (by omega)⟩
     have haI:c[((i:Nat):Int).toNat]? = some a:=ha
     have hbI:d[((i:Nat):Int).toNat]? = some b:=hb
     have step:(b=120\/b=a)->∀ (k:Nat) x y,k<i+1->c[k]? = some x->d[k]? = some y->y=120\/y=x:=fun hh k x y hk hx hy=>by
      by_cases hki:k=i
      . subst hki
        rw[ha] at hx
        rw[hb] at hy
        cases hx
        cases hy
        exact hh
      . exact hall k x y (by omega) hx hy
     by_cases hb1:b=120\/b=a
     . have hb3:((b.toNat:Nat):Int)=120\/((b.toNat:Nat):Int)=((a.toNat:Nat):Int):=by
         rcases hb1 with rfl|rfl
         . exact .inl rfl
         . exact .inr rfl
       (try (conv=>whnf));repeat' (first|refine Ok.seq ?_|((first|refine Ok.region tok ?_|refine Ok.region_draw tok follows (by kernel_rfl) ?_|refine Ok.cond ?_);conv=>whnf)|refine Ok.block ?_|((first|refine Ok.skip ?_|refine nI ?_|refine⟨_,by assumption,?_⟩);conv=>whnf)|(refine bI ?_ ?_<;>intro<;>(conv=>whnf)<;>(try (exfalso;omega)))|((first|refine aJ ?_|refine num_any ?_);conv=>whnf)|fail)
       all_goals
        refine⟨i+1,by omega,⟨by omega,step hb1⟩,?_⟩
        (conv=>whnf)
        rfl
     . have hb3:=u8_ne (fun e=>hb1 (.inl e):b ≠ 120)
       have hb4:=u8_ne (fun e=>hb1 (.inr e):b ≠ a)
       rw[show (((120:UInt8).toNat:Nat):Int)=120 from rfl] at hb3
       (try (conv=>whnf));repeat' (first|refine Ok.seq ?_|((first|refine Ok.region tok ?_|refine Ok.region_draw tok follows (by kernel_rfl) ?_|refine Ok.cond ?_);conv=>whnf)|refine Ok.block ?_|((first|refine Ok.skip ?_|refine Ok.ret ?_|refine⟨_,by assumption,?_⟩);conv=>whnf)|(refine bI ?_ ?_<;>intro<;>(conv=>whnf)<;>(try (exfalso;omega)))|((first|refine aJ ?_|refine num_any ?_);conv=>whnf)|fail)
       all_goals
        refine Or.inl ?_;(conv=>whnf)
        show D.b False=_
        exact congrArg D.b (propext ⟨fun h=>h.elim,fun h3=>hb1 ((inL_iff.1 h3.2).2 i a b ha hb)⟩)
   . have hie:i=c.length:=by omega
     subst hie
     (try (conv=>whnf));repeat' (first|refine Ok.seq ?_|((first|refine Ok.region tok ?_|refine Ok.cond ?_|refine Ok.exit ?_|refine Ok.ret ?_);conv=>whnf)|(refine bI ?_ ?_<;>intro<;>(conv=>whnf)<;>(try (exfalso;omega)))|fail)
     refine Or.inl ?_;(conv=>whnf)
     show D.b True=_
     exact congrArg D.b (propext ⟨fun _=>⟨hne,inL_iff.2 ⟨hl,fun k x y hx hy=>hall k x y (List.getElem?_eq_some_iff.1 hx).1 hx hy⟩⟩,fun _=>trivial⟩)
theorem inTL{c d:Str}(h:c ≠ []):inT c d=inL c d:=propext ⟨fun h=>h.2,fun k=>⟨h,k⟩⟩
set_option maxHeartbeats 8000000 in
theorem rput_at(l:List Str)(c:Str){rl rm:List (List D)}(hl:l.length<=100000)(hok:∀ x ∈ l,x ≠ []/\x.length<=100000)(hc:c ≠ [])(hcl:c.length<=100000)(h:rl=l.map srow) :
    FSpec Tryz.prog T 123 [.lst 9 rl rm,.s c] (fun d rows=>∃ rm',d = .lst 9 ((putG inL blt l c).map srow) rm'/\rows=[]):=by
 subst h
 have hll:(l.map srow).length=l.length:=by simp
 refine FSpec.of_ok tok Tryz.func123 rfl Tryz.call123 (by simp) ?_
 (try (conv=>whnf));repeat' (first|refine Ok.seq ?_|(refine Ok.region tok ?_;conv=>whnf)|refine Ok.block ?_|fail)
 refine Ok.loopU [0,1] [5] 0 0 (fun (i:Nat)=>[.i .i64 (i:Nat)]) (fun _ b=>b) (fun _ r=>r) (fun (i:Nat)=>i<=l.length/\∀ x ∈ l.take i,¬ inL c x) (fun (i:Nat)=>l.length - i) (0) (⟨Nat.zero_le _,by simp⟩) ?_;(conv=>whnf);refine⟨by ((conv=>whnf);first|rfl|(simp[envCat,List.take_of_length_le,bcell,srow];done)|(simp[envCat,List.take_of_length_le,bcell,srow];rw[IntKind.wrap_i64];omega)),?_⟩
 rintro i ⟨hi,hno⟩
 (conv=>whnf)
 by_cases hil:i<l.length
 . obtain⟨x,hx⟩:∃ x,l[i]? = some x:=⟨_,List.getElem?_eq_getElem hil⟩
   have hsp:=rinside_at c x hcl
   rw[inTL hc] at hsp
   (try (conv=>whnf));repeat' (first|refine Ok.seq ?_|((first|refine Ok.region tok ?_|refine Ok.cond ?_);conv=>whnf)|refine Ok.block ?_|((first|refine Ok.skip ?_|refine Ok.ret ?_|refine nI ?_|refine ix _ (by assumption) ?_);conv=>whnf)|(refine Or.inl ?_;(conv=>whnf);(repeat (refine aI ?_;conv=>whnf));refine⟨_,hsp,rfl,?_⟩;conv=>whnf)|(refine bI ?_ ?_<;>intro<;>(conv=>whnf)<;>(try (exfalso;omega)))|fail)
   . rename_i hin
     refine Or.inl ?_;(conv=>whnf)
     refine⟨rm,?_,rfl⟩
     rw[putG_in ⟨x,List.mem_of_getElem? hx,hin⟩]
     rfl
   . rename_i hin
     refine⟨i+1,by omega,⟨by omega,fun z hz=>?_⟩,?_⟩
     . rw[take_snoc hx] at hz
       rcases List.mem_append.1 hz with hz|hz
       . exact hno z hz
       . simp at hz;rw[hz];exact hin
     . (conv=>whnf)
       rfl
 . have hie:i=l.length:=by omega
   subst hie
   rw[List.take_length] at hno
   have hno2:¬ ∃ y ∈ l,inL c y:=fun⟨y,hy,h⟩=>hno y hy h
   (try (conv=>whnf));repeat' (first|refine Ok.seq ?_|((first|refine Ok.region tok ?_|refine Ok.cond ?_);conv=>whnf)|refine Ok.block ?_|(refine Ok.exit ?_;conv=>whnf)|(refine bI ?_ ?_<;>intro<;>(conv=>whnf)<;>(try (exfalso;omega)))|fail)
   refine Ok.ghost 6 9 rfl ?_
   (conv=>whnf)
   refine Ok.asB 7 rfl ?_
   (conv=>whnf)
   refine Ok.loopU [0,1] [6,7,8] 1 0 (fun (x:Nat × List Str × Prop)=>[.own 0 x.2.1.length,.b x.2.2,.i .i64 (x.1:Nat)]) (fun _ b=>b) (fun (x:Nat × List Str × Prop) (_:Vx.Rows)=>[some (9,x.2.1.map srow)]) (fun (x:Nat × List Str × Prop)=>x.1<=l.length/\PutSt inL blt l c x.1 x.2.1 x.2.2/\x.2.1.length<=2*x.1) (fun (x:Nat × List Str × Prop)=>l.length - x.1) ((0,[],False)) (⟨Nat.zero_le _,PutSt.zero,by simp⟩) ?_;(conv=>whnf);refine⟨by ((conv=>whnf);first|rfl|(simp[envCat,List.take_of_length_le,bcell,srow];done)|(simp[envCat,List.take_of_length_le,bcell,srow];rw[IntKind.wrap_i64];omega)),?_⟩
   rintro⟨i,m,dn⟩ ⟨hi,hP,hml⟩
   dsimp only at hi hP hml ⊢
   have hmm:(m.map srow).length=m.length:=by simp
   (conv=>whnf)
   by_cases hil:i<l.length
   . obtain⟨x,hx⟩:∃ x,l[i]? = some x:=⟨_,List.getElem?_eq_getElem hil⟩
     have hxo:=hok x (List.mem_of_getElem? hx)
     have hsp:=rinside_at x c hxo.2
     rw[inTL hxo.1] at hsp
     by_cases hin:inL x c
     . have hP2:=hP.skip hx hin
       (try (conv=>whnf));repeat' (first|refine Ok.seq ?_|((first|refine Ok.region tok ?_|refine Ok.cond ?_);conv=>whnf)|refine Ok.block ?_|((first|refine Ok.skip ?_|refine Ok.exit ?_|refine nI ?_|refine ix _ (by assumption) ?_);conv=>whnf)|(refine Or.inl ?_;(conv=>whnf);(repeat (refine aI ?_;conv=>whnf));refine⟨_,hsp,rfl,?_⟩;conv=>whnf)|((first|refine Alt2.l (aI ?_)|refine⟨_,.inl ⟨rfl,rfl⟩,?_⟩|refine⟨_,_,rfl,rfl,?_⟩);conv=>whnf)|(refine bI ?_ ?_<;>intro<;>(conv=>whnf)<;>(try (exfalso;omega)))|(refine aJ ?_;conv=>whnf)|fail)
       . refine⟨(i+1,m,dn),by dsimp only;omega,⟨by dsimp only;omega,hP2,by dsimp only;omega⟩,?_⟩
         (conv=>whnf)
         rfl
       all_goals exact absurd hin (by assumption)
     . (try (conv=>whnf));repeat' (first|(refine Ok.asB' 7 rfl ?_)|refine Ok.seq ?_|((first|refine Ok.region tok ?_|refine Ok.cond ?_);conv=>whnf)|refine Ok.block ?_|((first|refine Ok.skip ?_|refine Ok.exit ?_|refine nI ?_|refine ix _ (by assumption) ?_);conv=>whnf)|(refine Or.inl ?_;(conv=>whnf);(repeat (refine aI ?_;conv=>whnf));refine⟨_,hsp,rfl,?_⟩;conv=>whnf)|((first|refine Alt2.l (aI ?_)|refine⟨_,.inl ⟨rfl,rfl⟩,?_⟩|refine⟨_,_,rfl,rfl,?_⟩);conv=>whnf)|(refine bI ?_ ?_<;>intro<;>(conv=>whnf)<;>(try (exfalso;omega)))|(refine aJ ?_;conv=>whnf)|fail)
       . exact absurd (by assumption) hin
       . rename_i hdn hlt
         refine⟨(i+1,m++[c]++[x],True),by dsimp only;omega,⟨by dsimp only;omega,hP.new hx hin hdn hlt,by simp;omega⟩,?_⟩
         (conv=>whnf)
         simp[envCat]
       . rename_i hdn hlt
         refine⟨(i+1,m++[x],dn),by dsimp only;omega,⟨by dsimp only;omega,hP.old hx hin (.inr hlt),by simp;omega⟩,?_⟩
         (conv=>whnf)
         simp[envCat]
       . rename_i hdn
         refine⟨(i+1,m++[x],dn),by dsimp only;omega,⟨by dsimp only;omega,hP.old hx hin (.inl (Classical.not_not.1 hdn)),by simp;omega⟩,?_⟩
         (conv=>whnf)
         simp[envCat]
   . have hie2:i=l.length:=by omega
     subst hie2
     have hfin:=hP.fin hno2
     (try (conv=>whnf));repeat' (first|refine Ok.seq ?_|((first|refine Ok.region tok ?_|refine Ok.cond ?_|refine Ok.skip ?_|refine Ok.exit ?_|refine Ok.ret ?_|refine Alt2.l (aI ?_)|refine⟨_,.inl ⟨rfl,rfl⟩,?_⟩|refine⟨_,_,rfl,rfl,?_⟩);conv=>whnf)|(refine bI ?_ ?_<;>intro<;>(conv=>whnf)<;>(try (exfalso;omega)))|(refine aJ ?_;conv=>whnf)|fail)
     . rename_i hdn
       rw[if_neg hdn] at hfin
       refine Or.inl ?_;(conv=>whnf)
       refine⟨[],?_,rfl⟩
       rw[hfin,List.take_length,List.drop_length,List.map_append]
       rfl
     . rename_i hdn
       rw[if_pos (Classical.not_not.1 hdn)] at hfin
       refine Or.inl ?_;(conv=>whnf)
       refine⟨[],?_,rfl⟩
       rw[hfin,List.take_of_length_le (by simp),List.drop_of_length_le (by simp)]
       rfl
noncomputable def PK(p:Str)(less:List Str):List Str:=(metL p less).foldl (putG inL blt) []
theorem PK_none{p m:Str}{less:List Str}{i:Nat}(h:less[i]? = some m)(hm:meetT m p=none):PK p (less.take (i+1))=PK p (less.take i):=by
 unfold PK
 rw[take_snoc h,metL_app,metL_none hm,List.append_nil]
theorem PK_some{p m c:Str}{less:List Str}{i:Nat}(h:less[i]? = some m)(hm:meetT m p=some c):PK p (less.take (i+1))=putG inL blt (PK p (less.take i)) c:=by
 unfold PK
 rw[take_snoc h,metL_app,metL_some hm,List.foldl_append]
 rfl
open Classical in
theorem putG_len{α:Type}(R L:α->α->Prop)(k:List α)(c:α):(putG R L k c).length<=k.length+1:=by
 unfold putG
 split
 . omega
 . rw[(insG_perm L c _).length_eq,List.length_cons]
   exact Nat.add_le_add_right (List.length_filter_le _ _) 1
theorem PK_len(p:Str)(less:List Str)(i:Nat):(PK p (less.take i)).length<=i:=by
 have go:∀ (l k:List Str),(l.foldl (putG inL blt) k).length<=k.length+l.length:=by
  intro l
  induction l with
  | nil=>intro k;simp
  | cons x l ih=>
   intro k
   have h1:=ih (putG inL blt k x)
   have h2:=putG_len inL blt k x
   simp only[List.foldl_cons,List.length_cons]
   omega
 have h1:=go (metL p (less.take i)) []
 have h2:=metL_le p (less.take i)
 have h3:=List.length_take_le i less
 unfold PK
 simp only[List.length_nil] at h1
 omega
theorem PK_mem{p:Str}{less:List Str}{c:Str}(h:c ∈ PK p less):c ∈ metL p less:=
 (putG_fold (R:=inL) (L:=blt) inL_refl (fun _ _ _=>inL_trans) blt_trans blt_total (metL p less)).1.sub c h
theorem metL_wide{p:Str}{less:List Str}{c:Str}(h:c ∈ metL p less):c.length=p.length:=by
 obtain⟨m,_,hm⟩:=List.mem_filterMap.1 h
 unfold meetT at hm
 split at hm
 . cases hm
 . exact (meetL_len hm).2.symm
theorem termT_pk0{p:Str}{less:List Str}(h:PK p less=[p]):termT p less=none:=by
 unfold PK at h
 unfold termT
 simp only
 rw[if_pos h]
theorem termT_pk1{p:Str}{less:List Str}(h:PK p less ≠ [p]):termT p less=some ⟨p,PK p less⟩:=by
 unfold PK at h
 unfold termT
 simp only
 rw[if_neg h]
 rfl
theorem one_is{α:Type}{l:List α}{x y:α}(h1:l.length=1)(h2:l[0]? = some x):l=[y] ↔ x=y:=by
 match l,h1 with
 | [z],_=>simp at h2;subst h2;simp
@[reducible] def drow(x:TR):List D:=[.s x.t.p,.lst 9 (x.t.less.map srow) x.room]
def RTerm(p:Str)(less:List Str)(d:D)(rows:Vx.Rows):Prop:=
 rows=[]/\((termT p less=none/\d = .tup [.agg (drow ⟨⟨[],[]⟩,[]⟩),.b False])\/∃ t rm,termT p less=some t/\d = .tup [.agg (drow ⟨t,rm⟩),.b True])
set_option maxHeartbeats 8000000 in
theorem rterm_at(p:Str)(less:List Str){rl rm:List (List D)}(hp:p ≠ [])(hpl:p.length<=256)(hl:less.length<=100000)(hok:∀ m ∈ less,m.length<=256)(h:rl=less.map srow) :
    FSpec Tryz.prog T 74 [.s p,.lst 9 rl rm] (RTerm p less):=by
 subst h
 have hll:(less.map srow).length=less.length:=by simp
 refine FSpec.of_ok tok Tryz.func74 rfl Tryz.call74 (by simp) ?_
 (try (conv=>whnf));repeat' (first|refine Ok.seq ?_|(refine Ok.region tok ?_;conv=>whnf)|refine Ok.block ?_|fail)
 refine Ok.nilC 1 1 9 rfl rfl ?_
 (conv=>whnf)
 refine Ok.loopU [0,1,4,6] [7] 0 2 (fun (x:Nat × List (List D))=>[.i .i64 (x.1:Nat)]) (fun (x:Nat × List (List D)) (_:List (List D))=>[[.s [],.nilS],[.s p,.lst 9 ((PK p (less.take x.1)).map srow) x.2]]) (fun _ r=>r) (fun (x:Nat × List (List D))=>x.1<=less.length) (fun (x:Nat × List (List D))=>less.length - x.1) ((0,[])) (Nat.zero_le _) ?_;(conv=>whnf);refine⟨by ((conv=>whnf);first|rfl|(simp[envCat,List.take_of_length_le,bcell,srow];done)|(simp[envCat,List.take_of_length_le,bcell,srow];rw[IntKind.wrap_i64];omega)),?_⟩
 rintro⟨i,rm1⟩ hi
 dsimp only at hi ⊢
 have hkl:=PK_len p less i
 have hkm:∀ x ∈ PK p (less.take i),x ≠ []/\x.length<=100000:=fun x hx=>by
  have:=metL_wide (PK_mem hx)
  exact⟨fun e=>hp (List.eq_nil_of_length_eq_zero (by rw[<- this,e];rfl)),by omega⟩
 (conv=>whnf)
 by_cases hil:i<less.length
 . obtain⟨m,hm⟩:∃ m,less[i]? = some m:=⟨_,List.getElem?_eq_getElem hil⟩
   have hmo:=hok m (List.mem_of_getElem? hm)
   have hsp:=rmeet_at m p (by omega)
   cases hmt:meetT m p with
   | none=>
    rw[hmt] at hsp
    (try (conv=>whnf));repeat' (first|refine Ok.seq ?_|((first|refine Ok.region tok ?_|refine Ok.cond ?_);conv=>whnf)|refine Ok.block ?_|((first|refine Ok.skip ?_|refine nI ?_|refine ix _ (by assumption) ?_);conv=>whnf)|(refine Or.inr (Or.inl ?_);(conv=>whnf);(repeat (refine aI ?_;conv=>whnf));refine⟨_,hsp,?_⟩;rintro _ _ ⟨rfl,rfl⟩<;>(conv=>whnf))|(refine bI ?_ ?_<;>intro<;>(conv=>whnf)<;>(try (exfalso;omega)))|fail)
    . rename_i h2
      exact absurd h2 (by simp)
    . refine⟨(i+1,rm1),by dsimp only;omega,by dsimp only;omega,?_⟩
      dsimp only
      rw[PK_none hm hmt]
      (conv=>whnf)
      rfl
   | some c=>
    rw[hmt] at hsp
    have hcw:c ≠ []/\c.length<=100000:=by
     unfold meetT at hmt
     split at hmt
     . cases hmt
     . have:=meetL_len hmt
       exact⟨fun e=>hp (List.eq_nil_of_length_eq_zero (by rw[this.2,e];rfl)),by omega⟩
    (try (conv=>whnf));repeat' (first|refine Ok.seq ?_|((first|refine Ok.region tok ?_|refine Ok.cond ?_);conv=>whnf)|refine Ok.block ?_|((first|refine Ok.skip ?_|refine nI ?_|refine ix _ (by assumption) ?_);conv=>whnf)|(refine Or.inr (Or.inl ?_);(conv=>whnf);(repeat (refine aI ?_;conv=>whnf));refine⟨_,hsp,?_⟩;rintro _ _ ⟨rfl,rfl⟩<;>(conv=>whnf))|(refine Or.inr (Or.inl ?_);(conv=>whnf);(repeat (refine aI ?_;conv=>whnf));refine⟨_,rput_at (PK p (less.take i)) c (by omega) hkm hcw.1 hcw.2 rfl , ?_⟩;rintro _ _ ⟨rm2,rfl,rfl⟩<;>(conv=>whnf))|(refine bI ?_ ?_<;>intro<;>(conv=>whnf)<;>(try (exfalso;omega)))|fail)
    . rename_i rm2
      refine⟨(i+1,rm2),by dsimp only;omega,by dsimp only;omega,?_⟩
      dsimp only
      rw[PK_some hm hmt]
      (conv=>whnf)
      rfl
    . rename_i h2
      exact absurd rfl h2
 . have hie:i=less.length:=by omega
   subst hie
   rw[List.take_length] at hkl ⊢
   have ht0:=termT_pk0 (p:=p) (less:=less)
   have ht1:=termT_pk1 (p:=p) (less:=less)
   generalize PK p less=K at *
   have hKl:(K.map srow).length=K.length:=by simp
   (try (conv=>whnf));repeat' (first|refine Ok.seq ?_|((first|refine Ok.region tok ?_|refine Ok.cond ?_|refine Ok.skip ?_|refine Ok.exit ?_|refine Ok.ret ?_|refine ixI_new (by omega) (by omega) fun _ _=>?_);conv=>whnf)|(refine bI ?_ ?_<;>intro<;>(conv=>whnf)<;>(try (exfalso;omega)))|fail)
   . rename_i h1 x hx hxp
     have h1':K.length=1:=by omega
     refine Or.inl ?_;(conv=>whnf)
     refine⟨rfl,.inl ⟨ht0 ((one_is h1' hx).2 hxp),rfl⟩⟩
   . rename_i h1 x hx hxp
     have h1':K.length=1:=by omega
     refine Or.inl ?_;(conv=>whnf)
     exact⟨rfl,.inr ⟨_,rm1,ht1 (fun e=>hxp ((one_is h1' hx).1 e)),rfl⟩⟩
   . rename_i h1
     refine Or.inl ?_;(conv=>whnf)
     exact⟨rfl,.inr ⟨_,rm1,ht1 (fun e=>by rw[e] at h1;simp at h1),rfl⟩⟩
end Go.Proofs.YtaiondckookpiaaGreatDoor
namespace Go.Proofs.YtaiondckookpiaaGreatDoor
open Go Go.Vx
structure RN2(x:TR):Prop where
 p:x.t.p ≠ []/\x.t.p.length<=256
 less:∀ m ∈ x.t.less,m ≠ []/\m.length<=256
 n:x.t.less.length<=1048576
set_option maxHeartbeats 4000000 in
theorem rahead_at{a b:TR}(ha:RN2 a)(hb:RN2 b):FSpec Tryz.prog T 118 [.agg (drow a),.agg (drow b)] (fun r _=>r = .b (aheadT a.t b.t)):=by
 have han:=ha.n
 have hbn:=hb.n
 have hal:(a.t.less.map srow).length=a.t.less.length:=by simp
 have hbl:(b.t.less.map srow).length=b.t.less.length:=by simp
 refine FSpec.of_ok tok Tryz.func118 rfl Tryz.call118 (by simp) ?_
 (try (conv=>whnf));repeat' (first|refine Ok.seq ?_|refine OkL.cons ?_|((first|refine Ok.region tok ?_|refine Ok.region_draw tok follows (by kernel_rfl) ?_|refine Ok.cond ?_);conv=>whnf)|refine Ok.block ?_|((first|refine Ok.skip ?_|refine Ok.exit ?_|refine Ok.ret ?_|refine nI ?_|refine ix _ (by assumption) ?_|refine ixI (by omega) (by assumption) ?_|refine ix_new _ (by omega) fun _ _=>?_|refine ixI_new (by omega) (by omega) fun _ _=>?_|refine⟨_,by assumption,?_⟩|refine Alt2.l (aI ?_)|refine Alt2.r (aI ?_));conv=>whnf)|(refine Ok.scope ?_)|((first|refine Ok.label ?_|refine rd rfl (by assumption) ?_|refine⟨_,.inl ⟨rfl,rfl⟩,?_⟩|refine⟨_,_,rfl,rfl,?_⟩);conv=>whnf)|(refine bI ?_ ?_<;>intro<;>(conv=>whnf)<;>(try (exfalso;omega)))|((first|refine aJ ?_|refine num_any ?_|refine⟨_,rfl,?_⟩);conv=>whnf)|fail)
 . rename_i h
   refine Or.inl ?_;(conv=>whnf)
   show D.b _=_
   refine congrArg D.b (propext ?_)
   unfold aheadT
   simp[lexL,h]
 . rename_i h
   have hpe:a.t.p=b.t.p:=Classical.not_not.1 h
   have hA:aheadT a.t b.t ↔ lexL a.t.less b.t.less:=by unfold aheadT;rw[hpe];exact lexL_cons _ _ _
   refine Ok.loopU [2,3] [5] 0 2 (fun (i:Nat)=>[.i .i64 (i:Nat)]) (fun _ b=>b) (fun _ r=>r) (fun (i:Nat)=>i<=a.t.less.length/\i<=b.t.less.length/\a.t.less.take i=b.t.less.take i) (fun (i:Nat)=>a.t.less.length - i) (0) (⟨Nat.zero_le _,Nat.zero_le _,by simp⟩) ?_;(conv=>whnf);refine⟨by ((conv=>whnf);first|rfl|(simp[envCat,List.take_of_length_le,srow,drow];done)|(simp[envCat,List.take_of_length_le,srow,drow];rw[IntKind.wrap_i64];omega)),?_⟩
   rintro i ⟨hi,hi2,htk⟩
   (conv=>whnf)
   by_cases hil:i<a.t.less.length/\i<b.t.less.length
   . obtain⟨x,hx⟩:∃ x,a.t.less[i]? = some x:=⟨_,List.getElem?_eq_getElem hil.1⟩
     obtain⟨y,hy⟩:∃ y,b.t.less[i]? = some y:=⟨_,List.getElem?_eq_getElem hil.2⟩
     (try (conv=>whnf));repeat' (first|refine Ok.seq ?_|refine OkL.cons ?_|((first|refine Ok.region tok ?_|refine Ok.region_draw tok follows (by kernel_rfl) ?_|refine Ok.cond ?_);conv=>whnf)|refine Ok.block ?_|((first|refine Ok.skip ?_|refine Ok.exit ?_|refine Ok.ret ?_|refine nI ?_|refine ix _ (by assumption) ?_|refine ixI (by omega) (by assumption) ?_|refine ix_new _ (by omega) fun _ _=>?_|refine ixI_new (by omega) (by omega) fun _ _=>?_|refine⟨_,by assumption,?_⟩|refine Alt2.l (aI ?_)|refine Alt2.r (aI ?_));conv=>whnf)|(refine Ok.scope ?_)|((first|refine Ok.label ?_|refine rd rfl (by assumption) ?_|refine⟨_,.inl ⟨rfl,rfl⟩,?_⟩|refine⟨_,_,rfl,rfl,?_⟩);conv=>whnf)|(refine bI ?_ ?_<;>intro<;>(conv=>whnf)<;>(try (exfalso;omega)))|((first|refine aJ ?_|refine num_any ?_|refine⟨_,rfl,?_⟩);conv=>whnf)|fail)
     . rename_i hne
       refine Or.inl ?_;(conv=>whnf)
       show D.b _=_
       refine congrArg D.b (propext ?_)
       rw[hA]
       exact (lexL_differ htk hx hy hne).symm
     . rename_i hne
       have hxy:x=y:=Classical.not_not.1 hne
       refine⟨i+1,by omega,⟨by omega,by omega,by rw[take_snoc hx,take_snoc hy,htk,hxy]⟩,?_⟩
       (conv=>whnf)
       rfl
   . have hend:i=a.t.less.length\/i=b.t.less.length:=by omega
     (try (conv=>whnf));repeat' (first|refine Ok.seq ?_|refine OkL.cons ?_|((first|refine Ok.region tok ?_|refine Ok.region_draw tok follows (by kernel_rfl) ?_|refine Ok.cond ?_);conv=>whnf)|refine Ok.block ?_|((first|refine Ok.skip ?_|refine Ok.exit ?_|refine Ok.ret ?_|refine nI ?_|refine ix _ (by assumption) ?_|refine ixI (by omega) (by assumption) ?_|refine ix_new _ (by omega) fun _ _=>?_|refine ixI_new (by omega) (by omega) fun _ _=>?_|refine⟨_,by assumption,?_⟩|refine Alt2.l (aI ?_)|refine Alt2.r (aI ?_));conv=>whnf)|(refine Ok.scope ?_)|((first|refine Ok.label ?_|refine rd rfl (by assumption) ?_|refine⟨_,.inl ⟨rfl,rfl⟩,?_⟩|refine⟨_,_,rfl,rfl,?_⟩);conv=>whnf)|(refine bI ?_ ?_<;>intro<;>(conv=>whnf)<;>(try (exfalso;omega)))|((first|refine aJ ?_|refine num_any ?_|refine⟨_,rfl,?_⟩);conv=>whnf)|fail)
     all_goals
      refine Or.inl ?_;(conv=>whnf)
      show D.b _=_
      refine congrArg D.b (propext ?_)
      rw[hA,lexL_end htk hi hi2 hend]
      omega
set_option maxHeartbeats 4000000 in
theorem rcovered_at{a b:TR}(ha:RN2 a)(hb:RN2 b):FSpec Tryz.prog T 117 [.agg (drow a),.agg (drow b)] (fun r _=>r = .b (covR a b)):=by
 have han:=ha.n
 have hbn:=hb.n
 have hal:(a.t.less.map srow).length=a.t.less.length:=by simp
 have hbl:(b.t.less.map srow).length=b.t.less.length:=by simp
 have hpl:=ha.p.2
 refine FSpec.of_ok tok Tryz.func117 rfl Tryz.call117 (by simp) ?_
 (try (conv=>whnf));repeat' (first|refine Ok.seq ?_|refine OkL.cons ?_|((first|refine Ok.region tok ?_|refine Ok.region_plan (id:=6) tok follows [(1,7,[4,3]),(4,7,[]),(6,7,[])] [.q 0,.q 1,.q 2,.q 3,.q 4,.q 5,.q 6,.l 7,.q 8,.q 9,.q 10,.q 11,.q 12] (by kernel_rfl) ?_|refine Ok.region_draw tok follows (by kernel_rfl) ?_|refine Ok.cond ?_);conv=>whnf)|refine Ok.block ?_|((first|refine Ok.skip ?_|refine Ok.exit ?_|refine Ok.ret ?_|refine nI ?_|refine ix _ (by assumption) ?_|refine ixI (by omega) (by assumption) ?_|refine ix_new _ (by omega) fun _ _=>?_|refine ixI_new (by omega) (by omega) fun _ _=>?_|refine⟨_,by assumption,?_⟩);conv=>whnf)|(refine Or.inl ?_;(conv=>whnf);(repeat (refine aI ?_;conv=>whnf));refine⟨_,rinside_at a.t.p b.t.p (by omega),rfl,?_⟩;conv=>whnf)|(refine⟨_,rinside_at a.t.p b.t.p (by omega),rfl,?_⟩;conv=>whnf)|(refine Or.inr (Or.inl ?_);(conv=>whnf);(repeat (refine aI ?_;conv=>whnf));refine⟨_,rinside_at a.t.p b.t.p (by omega),?_⟩;rintro _ _ ⟨rfl,rfl⟩;conv=>whnf)|((first|refine Alt2.l (aI ?_)|refine Alt2.r (aI ?_));conv=>whnf)|(refine Ok.scope ?_)|((first|refine Ok.label ?_|refine rd rfl (by assumption) ?_|refine⟨_,.inl ⟨rfl,rfl⟩,?_⟩|refine⟨_,_,rfl,rfl,?_⟩);conv=>whnf)|(refine bI ?_ ?_<;>intro<;>(conv=>whnf)<;>(try (exfalso;omega)))|((first|refine aJ ?_|refine num_any ?_|refine⟨_,rfl,?_⟩);conv=>whnf)|fail)
 . rename_i h
   refine Or.inl ?_;(conv=>whnf)
   show D.b False=_
   exact congrArg D.b (propext ⟨fun h=>h.elim,fun h2=>h h2.1⟩)
 . rename_i h
   have hin:inT a.t.p b.t.p:=Classical.not_not.1 h
   refine Ok.loopU [2,3] [5] 0 2 (fun (i:Nat)=>[.i .i64 (i:Nat)]) (fun _ b=>b) (fun _ r=>r) (fun (i:Nat)=>i<=b.t.less.length/\∀ m ∈ b.t.less.take i,∀ c,meetT m a.t.p=some c->∃ n ∈ a.t.less,inT c n) (fun (i:Nat)=>b.t.less.length - i) (0) (⟨Nat.zero_le _,by simp⟩) ?_;(conv=>whnf);refine⟨by ((conv=>whnf);first|rfl|(simp[envCat,List.take_of_length_le,srow,drow];done)|(simp[envCat,List.take_of_length_le,srow,drow];rw[IntKind.wrap_i64];omega)),?_⟩
   rintro i ⟨hi,hall⟩
   (conv=>whnf)
   by_cases hil:i<b.t.less.length
   . obtain⟨m,hm⟩:∃ m,b.t.less[i]? = some m:=⟨_,List.getElem?_eq_getElem hil⟩
     have hmo:=hb.less m (List.mem_of_getElem? hm)
     have step:(∀ c,meetT m a.t.p=some c->∃ n ∈ a.t.less,inT c n)->∀ z ∈ b.t.less.take (i+1),∀ c,meetT z a.t.p=some c->∃ n ∈ a.t.less,inT c n:=fun h z hz=>by
      rw[take_snoc hm] at hz
      rcases List.mem_append.1 hz with hz|hz
      . exact hall z hz
      . simp at hz;rw[hz];exact h
     have hsp:=rmeet_at m a.t.p (by omega)
     cases hmt:meetT m a.t.p with
     | none=>
      rw[hmt] at hsp
      (try (conv=>whnf));repeat' (first|refine Ok.seq ?_|refine OkL.cons ?_|((first|refine Ok.region tok ?_|refine Ok.region_plan (id:=6) tok follows [(1,7,[4,3]),(4,7,[]),(6,7,[])] [.q 0,.q 1,.q 2,.q 3,.q 4,.q 5,.q 6,.l 7,.q 8,.q 9,.q 10,.q 11,.q 12] (by kernel_rfl) ?_|refine Ok.region_draw tok follows (by kernel_rfl) ?_|refine Ok.cond ?_);conv=>whnf)|refine Ok.block ?_|((first|refine Ok.skip ?_|refine Ok.exit ?_|refine Ok.ret ?_|refine nI ?_|refine ix _ (by assumption) ?_|refine ixI (by omega) (by assumption) ?_|refine ix_new _ (by omega) fun _ _=>?_|refine ixI_new (by omega) (by omega) fun _ _=>?_|refine⟨_,by assumption,?_⟩);conv=>whnf)|(refine Or.inr (Or.inl ?_);(conv=>whnf);(repeat (refine aI ?_;conv=>whnf));refine⟨_,hsp,?_⟩;rintro _ _ ⟨rfl,rfl⟩<;>(conv=>whnf))|((first|refine Alt2.l (aI ?_)|refine Alt2.r (aI ?_));conv=>whnf)|(refine Ok.scope ?_)|((first|refine Ok.label ?_|refine rd rfl (by assumption) ?_|refine⟨_,.inl ⟨rfl,rfl⟩,?_⟩|refine⟨_,_,rfl,rfl,?_⟩);conv=>whnf)|(refine bI ?_ ?_<;>intro<;>(conv=>whnf)<;>(try (exfalso;omega)))|((first|refine aJ ?_|refine num_any ?_|refine⟨_,rfl,?_⟩);conv=>whnf)|fail)
      . refine⟨i+1,by omega,⟨by omega,step fun c hc=>by rw[hmt] at hc;cases hc⟩,?_⟩
        (conv=>whnf)
        rfl
      . rename_i h2
        exact absurd (by simp) h2
     | some c=>
      rw[hmt] at hsp
      have hcl:c.length<=100000:=by
       unfold meetT at hmt
       split at hmt
       . cases hmt
       . have:=meetL_len hmt;omega
      (try (conv=>whnf));repeat' (first|refine Ok.seq ?_|refine OkL.cons ?_|((first|refine Ok.region tok ?_|refine Ok.region_plan (id:=6) tok follows [(1,7,[4,3]),(4,7,[]),(6,7,[])] [.q 0,.q 1,.q 2,.q 3,.q 4,.q 5,.q 6,.l 7,.q 8,.q 9,.q 10,.q 11,.q 12] (by kernel_rfl) ?_|refine Ok.region_draw tok follows (by kernel_rfl) ?_|refine Ok.cond ?_);conv=>whnf)|refine Ok.block ?_|((first|refine Ok.skip ?_|refine Ok.exit ?_|refine Ok.ret ?_|refine nI ?_|refine ix _ (by assumption) ?_|refine ixI (by omega) (by assumption) ?_|refine ix_new _ (by omega) fun _ _=>?_|refine ixI_new (by omega) (by omega) fun _ _=>?_|refine⟨_,by assumption,?_⟩);conv=>whnf)|(refine Or.inr (Or.inl ?_);(conv=>whnf);(repeat (refine aI ?_;conv=>whnf));refine⟨_,hsp,?_⟩;rintro _ _ ⟨rfl,rfl⟩<;>(conv=>whnf))|((first|refine Alt2.l (aI ?_)|refine Alt2.r (aI ?_));conv=>whnf)|(refine Ok.scope ?_)|((first|refine Ok.label ?_|refine rd rfl (by assumption) ?_|refine⟨_,.inl ⟨rfl,rfl⟩,?_⟩|refine⟨_,_,rfl,rfl,?_⟩);conv=>whnf)|(refine bI ?_ ?_<;>intro<;>(conv=>whnf)<;>(try (exfalso;omega)))|((first|refine aJ ?_|refine num_any ?_|refine⟨_,rfl,?_⟩);conv=>whnf)|fail)
      . rename_i h2
        exact absurd rfl h2
      . refine Ok.asB 8 rfl ?_
        (conv=>whnf)
        refine Ok.loopU [2,3,5,6] [8,9] 0 2 (fun (x:Nat × Prop)=>[.b x.2,.i .i64 (x.1:Nat)]) (fun _ b=>b) (fun _ r=>r) (fun (x:Nat × Prop)=>x.1<=a.t.less.length/\(x.2 ↔ ∃ n ∈ a.t.less.take x.1,inT c n)) (fun (x:Nat × Prop)=>a.t.less.length - x.1) ((0,False)) (⟨Nat.zero_le _,by simp⟩) ?_;(conv=>whnf);refine⟨by ((conv=>whnf);first|rfl|(simp[envCat,List.take_of_length_le,srow,drow];done)|(simp[envCat,List.take_of_length_le,srow,drow];rw[IntKind.wrap_i64];omega)),?_⟩
        rintro⟨j,pin⟩ ⟨hj,hpin⟩
        dsimp only at hj hpin ⊢
        have more:pin->∃ n ∈ a.t.less,inT c n:=fun h=>by
         obtain⟨n,hn,hcn⟩:=hpin.1 h
         exact⟨n,List.mem_of_mem_take hn,hcn⟩
        (conv=>whnf)
        by_cases hjl:j<a.t.less.length
        . obtain⟨n,hn⟩:∃ n,a.t.less[j]? = some n:=⟨_,List.getElem?_eq_getElem hjl⟩
          (try (conv=>whnf));repeat' (first|refine Ok.seq ?_|refine OkL.cons ?_|((first|refine Ok.region tok ?_|refine Ok.region_plan (id:=6) tok follows [(1,7,[4,3]),(4,7,[]),(6,7,[])] [.q 0,.q 1,.q 2,.q 3,.q 4,.q 5,.q 6,.l 7,.q 8,.q 9,.q 10,.q 11,.q 12] (by kernel_rfl) ?_|refine Ok.region_draw tok follows (by kernel_rfl) ?_|refine Ok.cond ?_);conv=>whnf)|refine Ok.block ?_|((first|refine Ok.skip ?_|refine Ok.exit ?_|refine Ok.ret ?_|refine nI ?_|refine ix _ (by assumption) ?_|refine ixI (by omega) (by assumption) ?_|refine ix_new _ (by omega) fun _ _=>?_|refine ixI_new (by omega) (by omega) fun _ _=>?_|refine⟨_,by assumption,?_⟩);conv=>whnf)|(refine Or.inl ?_;(conv=>whnf);(repeat (refine aI ?_;conv=>whnf));refine⟨_,rinside_at c n hcl,rfl,?_⟩;conv=>whnf)|(refine⟨_,rinside_at c n hcl,rfl,?_⟩;conv=>whnf)|(refine Or.inr (Or.inl ?_);(conv=>whnf);(repeat (refine aI ?_;conv=>whnf));refine⟨_,rinside_at c n hcl,?_⟩;rintro _ _ ⟨rfl,rfl⟩;conv=>whnf)|((first|refine Alt2.l (aI ?_)|refine Alt2.r (aI ?_));conv=>whnf)|(refine Ok.scope ?_)|((first|refine Ok.label ?_|refine rd rfl (by assumption) ?_|refine⟨_,.inl ⟨rfl,rfl⟩,?_⟩|refine⟨_,_,rfl,rfl,?_⟩);conv=>whnf)|(refine bI ?_ ?_<;>intro<;>(conv=>whnf)<;>(try (exfalso;omega)))|((first|refine aJ ?_|refine num_any ?_|refine⟨_,rfl,?_⟩);conv=>whnf)|fail)
          . rename_i hnp
            refine⟨(j+1,inT c n),by dsimp only;omega,⟨by dsimp only;omega,?_⟩,?_⟩
            . dsimp only
              rw[take_snoc hn]
              constructor
              . intro h;exact⟨n,by simp,h⟩
              . rintro⟨z,hz,hcz⟩
                rcases List.mem_append.1 hz with hz|hz
                . exact absurd (hpin.2 ⟨z,hz,hcz⟩) hnp
                . simp at hz;rw[<- hz];exact hcz
            . (conv=>whnf)
              rfl
          . rename_i h1 h2
            exact absurd h2 h1
          . rename_i h1 h2
            refine⟨i+1,by omega,⟨by omega,step fun c' hc'=>?_⟩,?_⟩
            . rw[hmt] at hc'
              cases hc'
              exact more (Classical.not_not.1 h1)
            . (conv=>whnf)
              rfl
        . have hje:j=a.t.less.length:=by omega
          subst hje
          rw[List.take_length] at hpin
          (try (conv=>whnf));repeat' (first|refine Ok.seq ?_|refine OkL.cons ?_|((first|refine Ok.region tok ?_|refine Ok.region_plan (id:=6) tok follows [(1,7,[4,3]),(4,7,[]),(6,7,[])] [.q 0,.q 1,.q 2,.q 3,.q 4,.q 5,.q 6,.l 7,.q 8,.q 9,.q 10,.q 11,.q 12] (by kernel_rfl) ?_|refine Ok.region_draw tok follows (by kernel_rfl) ?_|refine Ok.cond ?_);conv=>whnf)|refine Ok.block ?_|((first|refine Ok.skip ?_|refine Ok.exit ?_|refine Ok.ret ?_|refine nI ?_|refine ix _ (by assumption) ?_|refine ixI (by omega) (by assumption) ?_|refine ix_new _ (by omega) fun _ _=>?_|refine ixI_new (by omega) (by omega) fun _ _=>?_|refine⟨_,by assumption,?_⟩|refine Alt2.l (aI ?_)|refine Alt2.r (aI ?_));conv=>whnf)|(refine Ok.scope ?_)|((first|refine Ok.label ?_|refine rd rfl (by assumption) ?_|refine⟨_,.inl ⟨rfl,rfl⟩,?_⟩|refine⟨_,_,rfl,rfl,?_⟩);conv=>whnf)|(refine bI ?_ ?_<;>intro<;>(conv=>whnf)<;>(try (exfalso;omega)))|((first|refine aJ ?_|refine num_any ?_|refine⟨_,rfl,?_⟩);conv=>whnf)|fail)
          . rename_i h1
            refine Or.inl ?_;(conv=>whnf)
            show D.b False=_
            refine congrArg D.b (propext ⟨fun h=>h.elim,fun h2=>h1 (hpin.2 ?_)⟩)
            exact h2.2 m (List.mem_of_getElem? hm) c hmt
          . rename_i h1
            refine⟨i+1,by omega,⟨by omega,step fun c' hc'=>?_⟩,?_⟩
            . rw[hmt] at hc'
              cases hc'
              exact hpin.1 (Classical.not_not.1 h1)
            . (conv=>whnf)
              rfl
   . have hie:i=b.t.less.length:=by omega
     subst hie
     rw[List.take_length] at hall
     (try (conv=>whnf));repeat' (first|refine Ok.seq ?_|refine OkL.cons ?_|((first|refine Ok.region tok ?_|refine Ok.region_plan (id:=6) tok follows [(1,7,[4,3]),(4,7,[]),(6,7,[])] [.q 0,.q 1,.q 2,.q 3,.q 4,.q 5,.q 6,.l 7,.q 8,.q 9,.q 10,.q 11,.q 12] (by kernel_rfl) ?_|refine Ok.region_draw tok follows (by kernel_rfl) ?_|refine Ok.cond ?_);conv=>whnf)|refine Ok.block ?_|((first|refine Ok.skip ?_|refine Ok.exit ?_|refine Ok.ret ?_|refine nI ?_|refine ix _ (by assumption) ?_|refine ixI (by omega) (by assumption) ?_|refine ix_new _ (by omega) fun _ _=>?_|refine ixI_new (by omega) (by omega) fun _ _=>?_|refine⟨_,by assumption,?_⟩|refine Alt2.l (aI ?_)|refine Alt2.r (aI ?_));conv=>whnf)|(refine Ok.scope ?_)|((first|refine Ok.label ?_|refine rd rfl (by assumption) ?_|refine⟨_,.inl ⟨rfl,rfl⟩,?_⟩|refine⟨_,_,rfl,rfl,?_⟩);conv=>whnf)|(refine bI ?_ ?_<;>intro<;>(conv=>whnf)<;>(try (exfalso;omega)))|((first|refine aJ ?_|refine num_any ?_|refine⟨_,rfl,?_⟩);conv=>whnf)|fail)
     refine Or.inl ?_;(conv=>whnf)
     show D.b True=_
     exact congrArg D.b (propext ⟨fun _=>⟨hin,hall⟩,fun _=>trivial⟩)
end Go.Proofs.YtaiondckookpiaaGreatDoor
namespace Go.Proofs.YtaiondckookpiaaGreatDoor
open Go Go.Vx
set_option maxRecDepth 100000 in
set_option maxHeartbeats 8000000 in
theorem rform_at(bits:Int)(n:Nat)(l:List TR){rl rm:List (List D)}(hl:l.length<=100000)(hok:∀ x ∈ l,RN2 x/\x.t.Ok n)(h:rl=l.map drow):FSpec Tryz.prog T 68 [.i .i64 bits,.lst 120 rl rm]
    (fun d rows=>∃ (ks:List TR) (rm':List (List D)),d = .agg [.i .i64 bits,.lst 120 (ks.map drow) rm']/\rows=[]/\ks.map TR.t=formT (l.map TR.t)/\∀ x ∈ ks,x ∈ l):=by
 subst h
 have hll:(l.map drow).length=l.length:=by simp
 refine FSpec.of_ok tok Tryz.func68 rfl Tryz.call68 (by simp) ?_
 (try (conv=>whnf));repeat' (first|refine Ok.seq ?_|refine OkL.cons ?_|((first|refine Ok.region tok ?_|refine Ok.cond ?_);conv=>whnf)|refine Ok.block ?_|((first|refine Ok.skip ?_|refine Ok.exit ?_|refine Ok.ret ?_|refine nI ?_|refine ix _ (by assumption) ?_|refine ixI (by omega) (by assumption) ?_|refine ix_new _ (by omega) fun _ _=>?_|refine ixI_new (by omega) (by omega) fun _ _=>?_|refine⟨_,by assumption,?_⟩|refine Alt2.l (aI ?_)|refine Alt2.r (aI ?_));conv=>whnf)|(refine Ok.scope ?_)|((first|refine Ok.label ?_|refine rd rfl (by assumption) ?_|refine⟨_,.inl ⟨rfl,rfl⟩,?_⟩|refine⟨_,_,rfl,rfl,?_⟩);conv=>whnf)|(refine bI ?_ ?_<;>intro<;>(conv=>whnf)<;>(try (exfalso;omega)))|((first|refine aJ ?_|refine num_any ?_|refine⟨_,rfl,?_⟩);conv=>whnf)|fail)
 refine Ok.ghost 5 120 rfl ?_
 (conv=>whnf)
 refine Ok.loopU [0,1,4] [5,6] 1 1 (fun (i:Nat)=>[.own 0 (grG covR (l.take i)).length,.i .i64 (i:Nat)]) (fun _ b=>b) (fun (i:Nat) (_:Vx.Rows)=>[some (120,(grG covR (l.take i)).map drow)]) (fun (i:Nat)=>i<=l.length) (fun (i:Nat)=>l.length - i) (0) (Nat.zero_le _) ?_;(conv=>whnf);refine⟨by ((conv=>whnf);first|rfl|(simp[envCat,List.take_of_length_le,srow,drow];done)|(simp[envCat,List.take_of_length_le,srow,drow];rw[IntKind.wrap_i64];omega)),?_⟩
 rintro i hi
 have hKn:=grG_len covR (l.take i)
 have hKl:((grG covR (l.take i)).map drow).length=(grG covR (l.take i)).length:=by simp
 (conv=>whnf)
 by_cases hil:i<l.length
 . obtain⟨x,hx⟩:∃ x,l[i]? = some x:=⟨_,List.getElem?_eq_getElem hil⟩
   have hxo:=hok x (List.mem_of_getElem? hx)
   have hnext:=grG_take (R:=covR) hx
   have hKm:∀ y ∈ grG covR (l.take i),RN2 y:=fun y hy=>(hok y (List.take_subset _ _ (grG_sub covR _ y hy))).1
   have hln:(l.take i).length<=i:=List.length_take_le _ _
   generalize grG covR (l.take i)=K at *
   (try (conv=>whnf));repeat' (first|refine Ok.seq ?_|refine OkL.cons ?_|((first|refine Ok.region tok ?_|refine Ok.region_plan (id:=27) tok follows [(5,6,[]),(1,7,[]),(5,7,[6]),(6,7,[]),(1,9,[]),(5,9,[]),(6,9,[]),(7,9,[])] [.q 0,.q 1,.q 2,.q 3,.q 4,.q 5,.l 6,.l 7,.q 8,.l 9] (by kernel_rfl) ?_|refine Ok.region_draw tok follows (by kernel_rfl) ?_|refine Ok.cond ?_);conv=>whnf)|refine Ok.block ?_|((first|refine Ok.skip ?_|refine Ok.exit ?_|refine Ok.ret ?_|refine nI ?_|refine ix _ (by assumption) ?_|refine ixI (by omega) (by assumption) ?_|refine ix_new _ (by omega) fun _ _=>?_|refine ixI_new (by omega) (by omega) fun _ _=>?_|refine⟨_,by assumption,?_⟩|refine Alt2.l (aI ?_)|refine Alt2.r (aI ?_));conv=>whnf)|(refine Ok.scope ?_)|((first|refine Ok.label ?_|refine rd rfl (by assumption) ?_|refine⟨_,.inl ⟨rfl,rfl⟩,?_⟩|refine⟨_,_,rfl,rfl,?_⟩);conv=>whnf)|(refine bI ?_ ?_<;>intro<;>(conv=>whnf)<;>(try (exfalso;omega)))|((first|refine aJ ?_|refine num_any ?_|refine⟨_,rfl,?_⟩);conv=>whnf)|fail)
   refine Ok.asB 7 rfl ?_
   (conv=>whnf)
   refine Ok.loopU [0,1,4,5,6] [7,8] 1 1 (fun (y:Nat × Prop)=>[.b y.2,.i .i64 (y.1:Nat)]) (fun _ b=>b) (fun _ r=>r) (fun (y:Nat × Prop)=>y.1<=K.length/\(y.2 ↔ ∃ z ∈ K.take y.1,covR x z)) (fun (y:Nat × Prop)=>K.length - y.1) ((0,False)) (⟨Nat.zero_le _,by simp⟩) ?_;(conv=>whnf);refine⟨by ((conv=>whnf);first|rfl|(simp[envCat,List.take_of_length_le,srow,drow];done)|(simp[envCat,List.take_of_length_le,srow,drow];rw[IntKind.wrap_i64];omega)),?_⟩
   rintro⟨j,pin⟩ ⟨hj,hpin⟩
   dsimp only at hj hpin ⊢
   have skip:pin->grG covR (l.take (i+1))=K:=fun h=>by
    obtain⟨z,hz,hc⟩:=hpin.1 h
    rw[hnext,addG_in ⟨z,List.mem_of_mem_take hz,hc⟩]
   (conv=>whnf)
   by_cases hjl:j<K.length
   . obtain⟨y,hy⟩:∃ y,K[j]? = some y:=⟨_,List.getElem?_eq_getElem hjl⟩
     have hyI:K[((j:Nat):Int).toNat]? = some y:=hy
     have hyo:=hKm y (List.mem_of_getElem? hy)
     (try (conv=>whnf));repeat' (first|refine Ok.seq ?_|refine OkL.cons ?_|((first|refine Ok.region tok ?_|refine Ok.region_plan (id:=27) tok follows [(5,6,[]),(1,7,[]),(5,7,[6]),(6,7,[]),(1,9,[]),(5,9,[]),(6,9,[]),(7,9,[])] [.q 0,.q 1,.q 2,.q 3,.q 4,.q 5,.l 6,.l 7,.q 8,.l 9] (by kernel_rfl) ?_|refine Ok.region_draw tok follows (by kernel_rfl) ?_|refine Ok.cond ?_);conv=>whnf)|refine Ok.block ?_|((first|refine Ok.skip ?_|refine Ok.exit ?_|refine Ok.ret ?_|refine nI ?_|refine ix _ (by assumption) ?_|refine ixI (by omega) (by assumption) ?_|refine ix_new _ (by omega) fun _ _=>?_|refine ixI_new (by omega) (by omega) fun _ _=>?_|refine⟨_,by assumption,?_⟩);conv=>whnf)|(refine Or.inl ?_;(conv=>whnf);(repeat (refine aI ?_;conv=>whnf));refine⟨_,rcovered_at hxo.1 hyo,rfl,?_⟩;conv=>whnf)|(refine⟨_,rcovered_at hxo.1 hyo,rfl,?_⟩;conv=>whnf)|(refine Or.inr (Or.inl ?_);(conv=>whnf);(repeat (refine aI ?_;conv=>whnf));refine⟨_,rcovered_at hxo.1 hyo,?_⟩;rintro _ _ ⟨rfl,rfl⟩;conv=>whnf)|((first|refine Alt2.l (aI ?_)|refine Alt2.r (aI ?_));conv=>whnf)|(refine Ok.scope ?_)|((first|refine Ok.label ?_|refine rd rfl (by assumption) ?_|refine⟨_,.inl ⟨rfl,rfl⟩,?_⟩|refine⟨_,_,rfl,rfl,?_⟩);conv=>whnf)|(refine bI ?_ ?_<;>intro<;>(conv=>whnf)<;>(try (exfalso;omega)))|((first|refine aJ ?_|refine num_any ?_|refine⟨_,rfl,?_⟩);conv=>whnf)|fail)
     . rename_i hnp
       refine⟨(j+1,covR x y),by dsimp only;omega,⟨by dsimp only;omega,?_⟩,?_⟩
       . dsimp only
         rw[take_snoc hy]
         constructor
         . intro h;exact⟨y,by simp,h⟩
         . rintro⟨z,hz,hcz⟩
           rcases List.mem_append.1 hz with hz|hz
           . exact absurd (hpin.2 ⟨z,hz,hcz⟩) hnp
           . simp at hz;rw[<- hz];exact hcz
       . (conv=>whnf)
         rfl
     . rename_i h1 h2
       refine⟨i+1,by omega,by omega,?_⟩
       rw[skip h2]
       (conv=>whnf)
       rfl
     . rename_i h1 h2
       exact absurd h2 h1
   . have hje:j=K.length:=by omega
     subst hje
     rw[List.take_length] at hpin
     (try (conv=>whnf));repeat' (first|refine Ok.seq ?_|refine OkL.cons ?_|((first|refine Ok.region tok ?_|refine Ok.region_plan (id:=27) tok follows [(5,6,[]),(1,7,[]),(5,7,[6]),(6,7,[]),(1,9,[]),(5,9,[]),(6,9,[]),(7,9,[])] [.q 0,.q 1,.q 2,.q 3,.q 4,.q 5,.l 6,.l 7,.q 8,.l 9] (by kernel_rfl) ?_|refine Ok.region_draw tok follows (by kernel_rfl) ?_|refine Ok.cond ?_);conv=>whnf)|refine Ok.block ?_|((first|refine Ok.skip ?_|refine Ok.exit ?_|refine Ok.ret ?_|refine nI ?_|refine ix _ (by assumption) ?_|refine ixI (by omega) (by assumption) ?_|refine ix_new _ (by omega) fun _ _=>?_|refine ixI_new (by omega) (by omega) fun _ _=>?_|refine⟨_,by assumption,?_⟩|refine Alt2.l (aI ?_)|refine Alt2.r (aI ?_));conv=>whnf)|(refine Ok.scope ?_)|((first|refine Ok.label ?_|refine rd rfl (by assumption) ?_|refine⟨_,.inl ⟨rfl,rfl⟩,?_⟩|refine⟨_,_,rfl,rfl,?_⟩);conv=>whnf)|(refine bI ?_ ?_<;>intro<;>(conv=>whnf)<;>(try (exfalso;omega)))|((first|refine aJ ?_|refine num_any ?_|refine⟨_,rfl,?_⟩);conv=>whnf)|fail)
     . rename_i h2
       refine⟨i+1,by omega,by omega,?_⟩
       rw[skip h2]
       (conv=>whnf)
       rfl
     . rename_i h2
       have hno:∀ z ∈ K,¬ covR x z:=fun z hz hc=>h2 (hpin.2 ⟨z,hz,hc⟩)
       refine Ok.ghost 9 120 rfl ?_
       (conv=>whnf)
       refine Ok.loopU [0,1,4,5,6] [9,10] 2 1 (fun (j:Nat)=>[.own 1 (leftOf covR K x j).length,.i .i64 (j:Nat)]) (fun _ b=>b) (fun (j:Nat) (_:Vx.Rows)=>[some (120,K.map drow),some (120,(leftOf covR K x j).map drow)]) (fun (j:Nat)=>j<=K.length) (fun (j:Nat)=>K.length - j) (0) (Nat.zero_le _) ?_;(conv=>whnf);refine⟨by ((conv=>whnf);first|rfl|(simp[envCat,List.take_of_length_le,srow,drow];done)|(simp[envCat,List.take_of_length_le,srow,drow];rw[IntKind.wrap_i64];omega)),?_⟩
       rintro j hj
       have hle:=leftOf_le (R:=covR) K x j
       have hlm:((leftOf covR K x j).map drow).length=(leftOf covR K x j).length:=by simp
       (conv=>whnf)
       by_cases hjl2:j<K.length
       . obtain⟨y,hy⟩:∃ y,K[j]? = some y:=⟨_,List.getElem?_eq_getElem hjl2⟩
         have hyI:K[((j:Nat):Int).toNat]? = some y:=hy
         have hyo:=hKm y (List.mem_of_getElem? hy)
         (try (conv=>whnf));repeat' (first|refine Ok.seq ?_|refine OkL.cons ?_|((first|refine Ok.region tok ?_|refine Ok.region_plan (id:=27) tok follows [(5,6,[]),(1,7,[]),(5,7,[6]),(6,7,[]),(1,9,[]),(5,9,[]),(6,9,[]),(7,9,[])] [.q 0,.q 1,.q 2,.q 3,.q 4,.q 5,.l 6,.l 7,.q 8,.l 9] (by kernel_rfl) ?_|refine Ok.region_draw tok follows (by kernel_rfl) ?_|refine Ok.cond ?_);conv=>whnf)|refine Ok.block ?_|((first|refine Ok.skip ?_|refine Ok.exit ?_|refine Ok.ret ?_|refine nI ?_|refine ix _ (by assumption) ?_|refine ixI (by omega) (by assumption) ?_|refine ix_new _ (by omega) fun _ _=>?_|refine ixI_new (by omega) (by omega) fun _ _=>?_|refine⟨_,by assumption,?_⟩);conv=>whnf)|(refine Or.inl ?_;(conv=>whnf);(repeat (refine aI ?_;conv=>whnf));refine⟨_,rcovered_at hyo hxo.1,rfl,?_⟩;conv=>whnf)|(refine⟨_,rcovered_at hyo hxo.1,rfl,?_⟩;conv=>whnf)|(refine Or.inr (Or.inl ?_);(conv=>whnf);(repeat (refine aI ?_;conv=>whnf));refine⟨_,rcovered_at hyo hxo.1,?_⟩;rintro _ _ ⟨rfl,rfl⟩;conv=>whnf)|((first|refine Alt2.l (aI ?_)|refine Alt2.r (aI ?_));conv=>whnf)|(refine Ok.scope ?_)|((first|refine Ok.label ?_|refine rd rfl (by assumption) ?_|refine⟨_,.inl ⟨rfl,rfl⟩,?_⟩|refine⟨_,_,rfl,rfl,?_⟩);conv=>whnf)|(refine bI ?_ ?_<;>intro<;>(conv=>whnf)<;>(try (exfalso;omega)))|((first|refine aJ ?_|refine num_any ?_|refine⟨_,rfl,?_⟩);conv=>whnf)|fail)
         . rename_i hc
           refine⟨j+1,by omega,by omega,?_⟩
           rw[leftOf_step_keep hy hc]
           (conv=>whnf)
           simp[envCat]
         . rename_i hc
           refine⟨j+1,by omega,by omega,?_⟩
           rw[leftOf_step_drop hy (Classical.not_not.1 hc)]
           (conv=>whnf)
           rfl
       . have hje2:j=K.length:=by omega
         subst hje2
         have hall:=leftOf_all K x hno
         (try (conv=>whnf));repeat' (first|((refine Ok.into (c:=.region 4 _ _) 0 1 rfl (by decide) (by simp) ?_);conv=>whnf)|refine Ok.seq ?_|refine OkL.cons ?_|((first|refine Ok.region tok ?_|refine Ok.region_plan (id:=27) tok follows [(5,6,[]),(1,7,[]),(5,7,[6]),(6,7,[]),(1,9,[]),(5,9,[]),(6,9,[]),(7,9,[])] [.q 0,.q 1,.q 2,.q 3,.q 4,.q 5,.l 6,.l 7,.q 8,.l 9] (by kernel_rfl) ?_|refine Ok.region_draw tok follows (by kernel_rfl) ?_|refine Ok.cond ?_);conv=>whnf)|refine Ok.block ?_|((first|refine Ok.skip ?_|refine Ok.exit ?_|refine Ok.ret ?_|refine nI ?_|refine ix _ (by assumption) ?_|refine ixI (by omega) (by assumption) ?_|refine ix_new _ (by omega) fun _ _=>?_|refine ixI_new (by omega) (by omega) fun _ _=>?_|refine⟨_,by assumption,?_⟩|refine Alt2.l (aI ?_)|refine Alt2.r (aI ?_));conv=>whnf)|(refine Ok.scope ?_)|((first|refine Ok.label ?_|refine rd rfl (by assumption) ?_|refine⟨_,.inl ⟨rfl,rfl⟩,?_⟩|refine⟨_,_,rfl,rfl,?_⟩);conv=>whnf)|(refine bI ?_ ?_<;>intro<;>(conv=>whnf)<;>(try (exfalso;omega)))|((first|refine aJ ?_|refine num_any ?_|refine⟨_,rfl,?_⟩);conv=>whnf)|fail)
         refine⟨i+1,by omega,by omega,?_⟩
         rw[hnext,<- hall]
         (conv=>whnf)
         simp[envCat]
 . have hie:i=l.length:=by omega
   subst hie
   rw[List.take_length] at hKn hKl ⊢
   have hKt:(grG covR l).map TR.t=grG covT (l.map TR.t):=grG_map TR.t covT l
   have hKm:∀ x ∈ grG covR l,x ∈ l:=grG_sub covR l
   have hnd:(grG covR l).Pairwise fun a b=>a.t ≠ b.t:=by
    have:=grG_differ (l:=l.map TR.t) (n:=n) fun t ht=>by
     obtain⟨x,hx,rfl⟩:=List.mem_map.1 ht
     exact (hok x hx).2
    rw[<- hKt,List.pairwise_map] at this
    exact this
   generalize grG covR l=K at *
   (try (conv=>whnf));repeat' (first|refine Ok.seq ?_|refine OkL.cons ?_|((first|refine Ok.region tok ?_|refine Ok.region_plan (id:=27) tok follows [(5,6,[]),(1,7,[]),(5,7,[6]),(6,7,[]),(1,9,[]),(5,9,[]),(6,9,[]),(7,9,[])] [.q 0,.q 1,.q 2,.q 3,.q 4,.q 5,.l 6,.l 7,.q 8,.l 9] (by kernel_rfl) ?_|refine Ok.region_draw tok follows (by kernel_rfl) ?_|refine Ok.cond ?_);conv=>whnf)|refine Ok.block ?_|((first|refine Ok.skip ?_|refine Ok.exit ?_|refine Ok.ret ?_|refine nI ?_|refine ix _ (by assumption) ?_|refine ixI (by omega) (by assumption) ?_|refine ix_new _ (by omega) fun _ _=>?_|refine ixI_new (by omega) (by omega) fun _ _=>?_|refine⟨_,by assumption,?_⟩|refine Alt2.l (aI ?_)|refine Alt2.r (aI ?_));conv=>whnf)|(refine Ok.scope ?_)|((first|refine Ok.label ?_|refine rd rfl (by assumption) ?_|refine⟨_,.inl ⟨rfl,rfl⟩,?_⟩|refine⟨_,_,rfl,rfl,?_⟩);conv=>whnf)|(refine bI ?_ ?_<;>intro<;>(conv=>whnf)<;>(try (exfalso;omega)))|((first|refine aJ ?_|refine num_any ?_|refine⟨_,rfl,?_⟩);conv=>whnf)|fail)
   refine Ok.ghostB 1 1 120 rfl rfl ?_
   (conv=>whnf)
   refine Ok.loopU [4,11] [5] 2 2 (fun (y:List TR × List TR × Nat)=>[.own 0 y.2.2]) (fun (y:List TR × List TR × Nat) (_:List (List D))=>[[.i .i64 0,.nilS],[.i .i64 bits,.own 1 y.1.length]]) (fun (y:List TR × List TR × Nat) (_:Vx.Rows)=>[some (120,y.2.1.map drow),some (120,y.1.map drow)]) (fun (y:List TR × List TR × Nat)=>Sel TR.t K y.1 y.2.1 y.2.2/\y.1.length+y.2.2=K.length) (fun (y:List TR × List TR × Nat)=>y.2.2) (([],K,K.length)) (⟨Sel.zero,by simp⟩) ?_;(conv=>whnf);refine⟨by ((conv=>whnf);first|rfl|(simp[envCat,List.take_of_length_le,srow,drow];done)|(simp[envCat,List.take_of_length_le,srow,drow];rw[IntKind.wrap_i64];omega)),?_⟩
   rintro⟨S,W,m⟩ ⟨hS,hlen⟩
   dsimp only at hS hlen ⊢
   have hWm:=hS.le
   have hWl:(W.map drow).length=W.length:=by simp
   have hSl:(S.map drow).length=S.length:=by simp
   have hWk:∀ (i:Nat) w,i<m->W[i]? = some w->RN2 w:=fun i w hi hw=>(hok w (hKm w (hS.perm.mem_iff.1 (List.mem_append_right _ (List.mem_of_getElem? (by rw[List.getElem?_take,if_pos hi];exact hw)))))).1
   (conv=>whnf)
   by_cases hm0:0<m
   . (try (conv=>whnf));repeat' (first|refine Ok.seq ?_|refine OkL.cons ?_|((first|refine Ok.region tok ?_|refine Ok.region_plan (id:=27) tok follows [(5,6,[]),(1,7,[]),(5,7,[6]),(6,7,[]),(1,9,[]),(5,9,[]),(6,9,[]),(7,9,[])] [.q 0,.q 1,.q 2,.q 3,.q 4,.q 5,.l 6,.l 7,.q 8,.l 9] (by kernel_rfl) ?_|refine Ok.region_draw tok follows (by kernel_rfl) ?_|refine Ok.cond ?_);conv=>whnf)|refine Ok.block ?_|((first|refine Ok.skip ?_|refine Ok.exit ?_|refine Ok.ret ?_|refine nI ?_|refine ix _ (by assumption) ?_|refine ixI (by omega) (by assumption) ?_|refine ix_new _ (by omega) fun _ _=>?_|refine ixI_new (by omega) (by omega) fun _ _=>?_|refine⟨_,by assumption,?_⟩|refine Alt2.l (aI ?_)|refine Alt2.r (aI ?_));conv=>whnf)|(refine Ok.scope ?_)|((first|refine Ok.label ?_|refine rd rfl (by assumption) ?_|refine⟨_,.inl ⟨rfl,rfl⟩,?_⟩|refine⟨_,_,rfl,rfl,?_⟩);conv=>whnf)|(refine bI ?_ ?_<;>intro<;>(conv=>whnf)<;>(try (exfalso;omega)))|((first|refine aJ ?_|refine num_any ?_|refine⟨_,rfl,?_⟩);conv=>whnf)|fail)
     refine Ok.loopU [4,5,11] [12,13] 2 2 (fun (z:Nat × Nat)=>[.i .i64 (z.1:Nat),.i .i64 (z.2:Nat)]) (fun _ b=>b) (fun _ r=>r) (fun (z:Nat × Nat)=>z.1<m/\z.2<=m/\∀ j,j<z.2->∀ w v,W[j]? = some w->W[z.1]? = some v->¬ aheadT w.t v.t) (fun (z:Nat × Nat)=>m - z.2) ((0,1)) (⟨hm0,hm0,fun j hj w v hw hv=>by
      have:j=0:=by dsimp only at hj;omega
      subst this
      rw[hw] at hv
      cases hv
      exact ahead_irrefl _⟩) ?_;(conv=>whnf);refine⟨by ((conv=>whnf);first|rfl|(simp[envCat,List.take_of_length_le,srow,drow];done)|(simp[envCat,List.take_of_length_le,srow,drow];rw[IntKind.wrap_i64];omega)),?_⟩
     rintro⟨k,i⟩ ⟨hk,hi2,hmin⟩
     dsimp only at hk hi2 hmin ⊢
     obtain⟨v,hv⟩:∃ v,W[k]? = some v:=⟨_,List.getElem?_eq_getElem (by omega)⟩
     have hvI:W[((k:Nat):Int).toNat]? = some v:=hv
     have hvo:=hWk k v hk hv
     (conv=>whnf)
     by_cases hil2:i<m
     . obtain⟨w,hw⟩:∃ w,W[i]? = some w:=⟨_,List.getElem?_eq_getElem (by omega)⟩
       have hwI:W[((i:Nat):Int).toNat]? = some w:=hw
       have hwo:=hWk i w hil2 hw
       (try (conv=>whnf));repeat' (first|refine Ok.seq ?_|refine OkL.cons ?_|((first|refine Ok.region tok ?_|refine Ok.region_plan (id:=27) tok follows [(5,6,[]),(1,7,[]),(5,7,[6]),(6,7,[]),(1,9,[]),(5,9,[]),(6,9,[]),(7,9,[])] [.q 0,.q 1,.q 2,.q 3,.q 4,.q 5,.l 6,.l 7,.q 8,.l 9] (by kernel_rfl) ?_|refine Ok.region_draw tok follows (by kernel_rfl) ?_|refine Ok.cond ?_);conv=>whnf)|refine Ok.block ?_|((first|refine Ok.skip ?_|refine Ok.exit ?_|refine Ok.ret ?_|refine nI ?_|refine ix _ (by assumption) ?_|refine ixI (by omega) (by assumption) ?_|refine ix_new _ (by omega) fun _ _=>?_|refine ixI_new (by omega) (by omega) fun _ _=>?_|refine⟨_,by assumption,?_⟩);conv=>whnf)|(refine Or.inl ?_;(conv=>whnf);(repeat (refine aI ?_;conv=>whnf));refine⟨_,rahead_at hwo hvo,rfl,?_⟩;conv=>whnf)|(refine⟨_,rahead_at hwo hvo,rfl,?_⟩;conv=>whnf)|(refine Or.inr (Or.inl ?_);(conv=>whnf);(repeat (refine aI ?_;conv=>whnf));refine⟨_,rahead_at hwo hvo,?_⟩;rintro _ _ ⟨rfl,rfl⟩;conv=>whnf)|((first|refine Alt2.l (aI ?_)|refine Alt2.r (aI ?_));conv=>whnf)|(refine Ok.scope ?_)|((first|refine Ok.label ?_|refine rd rfl (by assumption) ?_|refine⟨_,.inl ⟨rfl,rfl⟩,?_⟩|refine⟨_,_,rfl,rfl,?_⟩);conv=>whnf)|(refine bI ?_ ?_<;>intro<;>(conv=>whnf)<;>(try (exfalso;omega)))|((first|refine aJ ?_|refine num_any ?_|refine⟨_,rfl,?_⟩);conv=>whnf)|fail)
       . rename_i hah
         refine⟨(i,i+1),by dsimp only;omega,⟨by dsimp only;omega,by dsimp only;omega,fun j hj a b ha hb=>?_⟩,?_⟩
         . dsimp only at hj hb
           rw[hw] at hb
           cases hb
           by_cases hji:j=i
           . subst hji
             rw[hw] at ha
             cases ha
             exact ahead_irrefl _
           . intro h2
             exact hmin j (by omega) a v ha hv (ahead_trans _ _ _ h2 hah)
         . (conv=>whnf)
           rfl
       . rename_i hah
         refine⟨(k,i+1),by dsimp only;omega,⟨by dsimp only;omega,by dsimp only;omega,fun j hj a b ha hb=>?_⟩,?_⟩
         . dsimp only at hj hb
           by_cases hji:j=i
           . subst hji
             rw[hw] at ha
             cases ha
             rw[hv] at hb
             cases hb
             exact hah
           . exact hmin j (by omega) a b ha hb
         . (conv=>whnf)
           rfl
     . have hie2:i=m:=by omega
       subst hie2
       obtain⟨z,hz⟩:∃ z,W[i - 1]? = some z:=⟨_,List.getElem?_eq_getElem (by omega)⟩
       have hzI:W[(((i:Nat):Int) - 1).toNat]? = some z:=by rw[show (((i:Nat):Int) - 1).toNat=i - 1 by omega];exact hz
       have hnx:=hS.step hnd hv hk hz fun j hj a ha=>hmin j hj a v ha hv
       (try (conv=>whnf));repeat' (first|refine Ok.seq ?_|refine OkL.cons ?_|((first|refine Ok.region tok ?_|refine Ok.region_plan (id:=27) tok follows [(5,6,[]),(1,7,[]),(5,7,[6]),(6,7,[]),(1,9,[]),(5,9,[]),(6,9,[]),(7,9,[])] [.q 0,.q 1,.q 2,.q 3,.q 4,.q 5,.l 6,.l 7,.q 8,.l 9] (by kernel_rfl) ?_|refine Ok.region_draw tok follows (by kernel_rfl) ?_|refine Ok.cond ?_);conv=>whnf)|refine Ok.block ?_|((first|refine Ok.skip ?_|refine Ok.exit ?_|refine Ok.ret ?_|refine nI ?_|refine ix _ (by assumption) ?_|refine ixI (by omega) (by assumption) ?_|refine ix_new _ (by omega) fun _ _=>?_|refine ixI_new (by omega) (by omega) fun _ _=>?_|refine⟨_,by assumption,?_⟩|refine Alt2.l (aI ?_)|refine Alt2.r (aI ?_));conv=>whnf)|(refine Ok.scope ?_)|((first|refine Ok.label ?_|refine rd rfl (by assumption) ?_|refine⟨_,.inl ⟨rfl,rfl⟩,?_⟩|refine⟨_,_,rfl,rfl,?_⟩);conv=>whnf)|(refine bI ?_ ?_<;>intro<;>(conv=>whnf)<;>(try (exfalso;omega)))|((first|refine aJ ?_|refine num_any ?_|refine⟨_,rfl,?_⟩);conv=>whnf)|fail)
       refine st z hvI (by simp) (by simp[setCells]) ?_
       rw[toNat_cast]
       have hWs:((W.set k z).map drow).length=W.length:=by simp
       (try (conv=>whnf));repeat' (first|refine Ok.seq ?_|refine OkL.cons ?_|((first|refine Ok.region tok ?_|refine Ok.region_plan (id:=27) tok follows [(5,6,[]),(1,7,[]),(5,7,[6]),(6,7,[]),(1,9,[]),(5,9,[]),(6,9,[]),(7,9,[])] [.q 0,.q 1,.q 2,.q 3,.q 4,.q 5,.l 6,.l 7,.q 8,.l 9] (by kernel_rfl) ?_|refine Ok.region_draw tok follows (by kernel_rfl) ?_|refine Ok.cond ?_);conv=>whnf)|refine Ok.block ?_|((first|refine Ok.skip ?_|refine Ok.exit ?_|refine Ok.ret ?_|refine nI ?_|refine ix _ (by assumption) ?_|refine ixI (by omega) (by assumption) ?_|refine ix_new _ (by omega) fun _ _=>?_|refine ixI_new (by omega) (by omega) fun _ _=>?_|refine⟨_,by assumption,?_⟩|refine Alt2.l (aI ?_)|refine Alt2.r (aI ?_));conv=>whnf)|(refine Ok.scope ?_)|((first|refine Ok.label ?_|refine rd rfl (by assumption) ?_|refine⟨_,.inl ⟨rfl,rfl⟩,?_⟩|refine⟨_,_,rfl,rfl,?_⟩);conv=>whnf)|(refine bI ?_ ?_<;>intro<;>(conv=>whnf)<;>(try (exfalso;omega)))|((first|refine aJ ?_|refine num_any ?_|refine⟨_,rfl,?_⟩);conv=>whnf)|fail)
       refine⟨i - 1,rfl,(by show ((i:Nat):Int) - 1=((i - 1:Nat):Int);omega),by omega,?_⟩
       (try (conv=>whnf));repeat' (first|refine Ok.seq ?_|refine OkL.cons ?_|((first|refine Ok.region tok ?_|refine Ok.region_plan (id:=27) tok follows [(5,6,[]),(1,7,[]),(5,7,[6]),(6,7,[]),(1,9,[]),(5,9,[]),(6,9,[]),(7,9,[])] [.q 0,.q 1,.q 2,.q 3,.q 4,.q 5,.l 6,.l 7,.q 8,.l 9] (by kernel_rfl) ?_|refine Ok.region_draw tok follows (by kernel_rfl) ?_|refine Ok.cond ?_);conv=>whnf)|refine Ok.block ?_|((first|refine Ok.skip ?_|refine Ok.exit ?_|refine Ok.ret ?_|refine nI ?_|refine ix _ (by assumption) ?_|refine ixI (by omega) (by assumption) ?_|refine ix_new _ (by omega) fun _ _=>?_|refine ixI_new (by omega) (by omega) fun _ _=>?_|refine⟨_,by assumption,?_⟩|refine Alt2.l (aI ?_)|refine Alt2.r (aI ?_));conv=>whnf)|(refine Ok.scope ?_)|((first|refine Ok.label ?_|refine rd rfl (by assumption) ?_|refine⟨_,.inl ⟨rfl,rfl⟩,?_⟩|refine⟨_,_,rfl,rfl,?_⟩);conv=>whnf)|(refine bI ?_ ?_<;>intro<;>(conv=>whnf)<;>(try (exfalso;omega)))|((first|refine aJ ?_|refine num_any ?_|refine⟨_,rfl,?_⟩);conv=>whnf)|fail)
       refine⟨(S++[v],W.set k z,i - 1),by dsimp only;omega,⟨hnx,by simp;omega⟩,?_⟩
       (conv=>whnf)
       simp[envCat]
   . have hme:m=0:=by omega
     subst hme
     obtain⟨hp,hs⟩:=hS.fin
     have hform:S.map TR.t=formT (l.map TR.t):=formT_sel (n:=n) (fun t ht=>by
      obtain⟨x,hx,rfl⟩:=List.mem_map.1 ht
      exact (hok x hx).2) (by rw[<- hKt];exact hp.map _) (by rw[List.pairwise_map];exact hs)
     (try (conv=>whnf));repeat' (first|refine Ok.seq ?_|refine OkL.cons ?_|((first|refine Ok.region tok ?_|refine Ok.region_plan (id:=27) tok follows [(5,6,[]),(1,7,[]),(5,7,[6]),(6,7,[]),(1,9,[]),(5,9,[]),(6,9,[]),(7,9,[])] [.q 0,.q 1,.q 2,.q 3,.q 4,.q 5,.l 6,.l 7,.q 8,.l 9] (by kernel_rfl) ?_|refine Ok.region_draw tok follows (by kernel_rfl) ?_|refine Ok.cond ?_);conv=>whnf)|refine Ok.block ?_|((first|refine Ok.skip ?_|refine Ok.exit ?_|refine Ok.ret ?_|refine nI ?_|refine ix _ (by assumption) ?_|refine ixI (by omega) (by assumption) ?_|refine ix_new _ (by omega) fun _ _=>?_|refine ixI_new (by omega) (by omega) fun _ _=>?_|refine⟨_,by assumption,?_⟩|refine Alt2.l (aI ?_)|refine Alt2.r (aI ?_));conv=>whnf)|(refine Ok.scope ?_)|((first|refine Ok.label ?_|refine rd rfl (by assumption) ?_|refine⟨_,.inl ⟨rfl,rfl⟩,?_⟩|refine⟨_,_,rfl,rfl,?_⟩);conv=>whnf)|(refine bI ?_ ?_<;>intro<;>(conv=>whnf)<;>(try (exfalso;omega)))|((first|refine aJ ?_|refine num_any ?_|refine⟨_,rfl,?_⟩);conv=>whnf)|fail)
     refine Or.inl ?_;(conv=>whnf)
     refine⟨S,[],?_,rfl,hform,fun x hx=>hKm x (hp.mem_iff.1 hx)⟩
     show D.agg [_,.lst 120 ((S.map drow).take S.length) ((S.map drow).drop S.length)]=_
     rw[List.take_of_length_le (by simp),List.drop_of_length_le (by simp)]
end Go.Proofs.YtaiondckookpiaaGreatDoor
namespace Go.Proofs.YtaiondckookpiaaGreatDoor
open Go Go.Vx
theorem tTail_nil:tTail []=[]:=rfl
theorem szS_eq(l:List Term):szT l=szS l:=rfl
structure SpOk(n:Nat)(l:List TR):Prop where
 n256:n<=256
 size:szS (l.map TR.t)<=1048576
 wide:∀ x ∈ l,x.t.wide n
 pos:l ≠ []->0<n
theorem SpOk.nil{n:Nat}(h:n<=256):SpOk n []:=⟨h,by simp[szS],by simp,fun h=>absurd rfl h⟩
theorem SpOk.len{n:Nat}{l:List TR}(h:SpOk n l):l.length<=1048576:=by
 have h1:=szS_len (l.map TR.t)
 have h2:=h.size
 rw[List.length_map] at h1
 omega
theorem SpOk.less{n:Nat}{l:List TR}(h:SpOk n l){x:TR}(hx:x ∈ l):x.t.less.length<=1048576:=by
 have h1:=szS_mem (List.mem_map_of_mem (f:=TR.t) hx)
 have h2:=h.size
 omega
theorem SpOk.w256{n:Nat}{l:List TR}(h:SpOk n l):∀ t ∈ l.map TR.t,t.p.length<=256/\∀ m ∈ t.less,m.length<=256:=by
 intro t ht
 obtain⟨x,hx,rfl⟩:=List.mem_map.1 ht
 have h1:=h.wide x hx
 have h2:=h.n256
 exact⟨by rw[h1.1];exact h2,fun m hm=>by rw[h1.2 m hm];exact h2⟩
theorem SpOk.sep{n:Nat}{l:List TR}(h:SpOk n l)(i:Nat):(sepT ((l.map TR.t).take i)).length<=257*1048576:=by
 have h1:=sepT_len (l:=(l.map TR.t).take i) fun t ht=>h.w256 t (List.mem_of_mem_take ht)
 have h2:=szS_take (l.map TR.t) i
 have h3:=h.size
 omega
theorem SpOk.pre{n:Nat}{l:List TR}(h:SpOk n l)(i:Nat):(preT (l.map TR.t) i).length<=257*1048576+1:=by
 unfold preT
 split
 . simp
 . have:=h.sep i
   rw[List.length_append,List.length_singleton]
   omega
theorem SpOk.tail{n:Nat}{l:List TR}(h:SpOk n l){x:TR}(hx:x ∈ l)(j:Nat):(tTail (x.t.less.take j)).length<=257*1048576:=by
 have h1:=tTail_len (l:=x.t.less.take j) fun m hm=>(h.w256 x.t (List.mem_map_of_mem hx)).2 m (List.mem_of_mem_take hm)
 have h2:=h.less hx
 have h3:(x.t.less.take j).length<=x.t.less.length:=by simp;omega
 omega
theorem bits_at(b:Int)(d:D)(hd:∃ e r m,d = .lst e r m):FSpec Tryz.prog T 58 [.agg [.i .i64 b,d]] (fun r _=>r = .i .i64 b):=by
 obtain⟨e,r,m,rfl⟩:=hd
 refine FSpec.of_ok tok Tryz.func58 rfl Tryz.call58 (by simp) ?_
 (try (conv=>whnf));repeat' (first|refine Ok.seq ?_|((first|refine Ok.region tok ?_|refine Ok.ret ?_);conv=>whnf)|fail)
 refine Or.inl ?_;(conv=>whnf)
 rfl
def noneB(b:Int):Int:=if b<1\/256<b then 0 else b
theorem none_at(b:Int):FSpec Tryz.prog T 54 [.i .i64 b] (fun r rows=>r = .agg [.i .i64 (noneB b),.lst 112 [] []]/\rows=[]):=by
 refine FSpec.of_ok tok Tryz.func54 rfl Tryz.call54 (by simp) ?_
 (try (conv=>whnf));repeat' (first|refine Ok.seq ?_|((first|refine Ok.region tok ?_|refine Ok.cond ?_|refine Ok.skip ?_|refine Ok.ret ?_);conv=>whnf)|(refine bI ?_ ?_<;>intro<;>(conv=>whnf)<;>(try (exfalso;omega)))|fail)
 all_goals
  refine Or.inl ?_;(conv=>whnf)
  refine⟨?_,rfl⟩
  unfold noneB
  first|rw[if_pos (by omega)];rfl|rw[if_neg (by omega)];rfl
theorem rnone_at(b:Int):FSpec Tryz.prog T 55 [.i .i64 b] (fun r rows=>r = .agg [.i .i64 (noneB b),.lst 120 [] []]/\rows=[]):=by
 refine FSpec.of_ok tok Tryz.func55 rfl Tryz.call55 (by simp) ?_
 (try (conv=>whnf));repeat' (first|refine Ok.seq ?_|((first|refine Ok.region tok ?_|refine Ok.cond ?_|refine Ok.skip ?_|refine Ok.ret ?_);conv=>whnf)|(refine bI ?_ ?_<;>intro<;>(conv=>whnf)<;>(try (exfalso;omega)))|fail)
 all_goals
  refine Or.inl ?_;(conv=>whnf)
  refine⟨?_,rfl⟩
  unfold noneB
  first|rw[if_pos (by omega)];rfl|rw[if_neg (by omega)];rfl
set_option maxHeartbeats 4000000 in
theorem rsize_at(bits:Int)(l:List TR){rl room:List (List D)}(hl:l.length<=1048576)(hok:∀ x ∈ l,x.t.less.length<=1048576)(h:rl=l.map drow):FSpec Tryz.prog T 104 [.agg [.i .i64 bits,.lst 120 rl room]] (fun d _=>d = .i .i64 (szT (l.map TR.t):Nat)):=by
 subst h
 have hll:(l.map drow).length=l.length:=by simp
 refine FSpec.of_ok tok Tryz.func104 rfl Tryz.call104 (by simp) ?_
 (try (conv=>whnf));repeat' (first|refine Ok.seq ?_|(refine Ok.region tok ?_;conv=>whnf)|refine Ok.block ?_|fail)
 refine Ok.loopU [1] [3,4] 0 1 (fun (i:Nat)=>[.i .i64 (szT ((l.take i).map TR.t):Nat),.i .i64 (i:Nat)]) (fun _ b=>b) (fun _ r=>r) (fun (i:Nat)=>i<=l.length) (fun (i:Nat)=>l.length - i) (0) (Nat.zero_le _) ?_;(conv=>whnf);refine⟨by ((conv=>whnf);first|rfl|(simp[envCat,List.take_of_length_le,srow,drow,trow,bcell,sepT_nil,tTail_nil];done)|(simp[envCat,List.take_of_length_le,srow,drow,trow,bcell,sepT_nil,tTail_nil];rw[IntKind.wrap_i64];omega)),?_⟩
 rintro i hi
 have hs:szT ((l.take i).map TR.t)<=1048576*1048577:=by
  refine Nat.le_trans (szT_le fun t ht=>?_) (Nat.mul_le_mul_right _ (by simp;omega))
  obtain⟨x,hx,rfl⟩:=List.mem_map.1 ht
  exact hok x (List.mem_of_mem_take hx)
 (conv=>whnf)
 by_cases hil:i<l.length
 . obtain⟨x,hx⟩:∃ x,l[i]? = some x:=⟨_,List.getElem?_eq_getElem hil⟩
   have hxo:=hok x (List.mem_of_getElem? hx)
   have hxl:(x.t.less.map srow).length=x.t.less.length:=by simp
   have hnx:szT ((l.take (i+1)).map TR.t)=szT ((l.take i).map TR.t)+(1+x.t.less.length):=by rw[take_snoc hx,List.map_append];exact szT_snoc _ _
   generalize szT ((l.take i).map TR.t)=S at *
   (try (conv=>whnf));repeat' (first|refine Ok.seq ?_|((first|refine Ok.region tok ?_|refine Ok.cond ?_);conv=>whnf)|refine Ok.block ?_|((first|refine Ok.skip ?_|refine nI ?_|refine ix _ (by assumption) ?_);conv=>whnf)|(refine bI ?_ ?_<;>intro<;>(conv=>whnf)<;>(try (exfalso;omega)))|fail)
   refine⟨i+1,by omega,by omega,?_⟩
   rw[hnx]
   (conv=>whnf)
   simp[envCat]
   omega
 . have hie:i=l.length:=by omega
   subst hie
   rw[List.take_length]
   (try (conv=>whnf));repeat' (first|refine Ok.seq ?_|((first|refine Ok.region tok ?_|refine Ok.cond ?_|refine Ok.exit ?_|refine Ok.ret ?_);conv=>whnf)|(refine bI ?_ ?_<;>intro<;>(conv=>whnf)<;>(try (exfalso;omega)))|fail)
   refine Or.inl ?_;(conv=>whnf)
   rfl
theorem rbound_at(bits:Int)(l:List TR){rl room:List (List D)}(hl:l.length<=1048576)(hok:∀ x ∈ l,x.t.less.length<=1048576)(h:rl=l.map drow):FSpec Tryz.prog T 67 [.agg [.i .i64 bits,.lst 120 rl room]]
    (fun d rows=>rows=[]/\((szT (l.map TR.t)<=128/\d = .tup [.agg [.i .i64 bits,.lst 120 (l.map drow) room],.i .i64 0])\/(128<szT (l.map TR.t)/\d = .tup [.agg [.i .i64 0,.lst 120 [] []],.i .i64 3]))):=by
 subst h
 refine FSpec.of_ok tok Tryz.func67 rfl Tryz.call67 (by simp) ?_
 (try (conv=>whnf));repeat' (first|refine Ok.seq ?_|((first|refine Ok.region tok ?_|refine Ok.cond ?_|refine Ok.skip ?_|refine Ok.ret ?_);conv=>whnf)|(refine Or.inl ?_;(conv=>whnf);(repeat (refine aI ?_;conv=>whnf));refine⟨_,rsize_at bits l hl hok rfl,rfl,?_⟩;conv=>whnf)|(refine bI ?_ ?_<;>intro<;>(conv=>whnf)<;>(try (exfalso;omega)))|fail)
 . rename_i h
   refine Or.inl ?_;(conv=>whnf)
   exact⟨rfl,.inr ⟨by omega,rfl⟩⟩
 . rename_i h
   refine Or.inl ?_;(conv=>whnf)
   exact⟨rfl,.inl ⟨by omega,rfl⟩⟩
set_option maxRecDepth 100000 in
set_option maxHeartbeats 8000000 in
theorem rtext_at(bits:Int)(n:Nat)(l:List TR){rl room:List (List D)}(hok:SpOk n l)(h:rl=l.map drow):FSpec Tryz.prog T 105 [.agg [.i .i64 bits,.lst 120 rl room]] (fun d _=>d = .s (textS (l.map TR.t))):=by
 subst h
 have hll:(l.map drow).length=l.length:=by simp
 have hln:=hok.len
 have hn:=hok.n256
 refine FSpec.of_ok tok Tryz.func105 rfl Tryz.call105 (by simp) ?_
 (try (conv=>whnf));repeat' (first|refine Ok.seq ?_|((first|refine Ok.region tok ?_|refine Ok.cond ?_);conv=>whnf)|refine Ok.block ?_|((first|refine Ok.skip ?_|refine Ok.ret ?_);conv=>whnf)|(refine bI ?_ ?_<;>intro<;>(conv=>whnf)<;>(try (exfalso;omega)))|fail)
 . rename_i h
   refine Or.inl ?_;(conv=>whnf)
   have:l=[]:=List.eq_nil_of_length_eq_zero (by omega)
   subst this
   unfold textS
   rw[if_pos (by rfl)]
   rfl
 . rename_i h
   have hne:l.map TR.t ≠ []:=fun e=>h (by have:=congrArg List.length e;simp at this;simp[this])
   refine Ok.ghost 3 5 rfl ?_
   (conv=>whnf)
   refine Ok.loopU [1] [3,4] 1 1 (fun (i:Nat)=>[.own 0 (sepT ((l.map TR.t).take i)).length,.i .i64 (i:Nat)]) (fun _ b=>b) (fun (i:Nat) (_:Vx.Rows)=>[some (5,(sepT ((l.map TR.t).take i)).map bcell)]) (fun (i:Nat)=>i<=l.length) (fun (i:Nat)=>l.length - i) (0) (Nat.zero_le _) ?_;(conv=>whnf);refine⟨by ((conv=>whnf);first|rfl|(simp[envCat,List.take_of_length_le,srow,drow,trow,bcell,sepT_nil,tTail_nil];done)|(simp[envCat,List.take_of_length_le,srow,drow,trow,bcell,sepT_nil,tTail_nil];rw[IntKind.wrap_i64];omega)),?_⟩
   rintro i hi
   have hsl:=hok.sep i
   have hsm:((sepT ((l.map TR.t).take i)).map bcell).length=(sepT ((l.map TR.t).take i)).length:=List.length_map _
   (conv=>whnf)
   by_cases hil:i<l.length
   . obtain⟨x,hx⟩:∃ x,l[i]? = some x:=⟨_,List.getElem?_eq_getElem hil⟩
     have hxm:=List.mem_of_getElem? hx
     have hxw:=hok.wide x hxm
     have hpl:x.t.p.length<=256:=by rw[hxw.1];exact hn
     have hxl:(x.t.less.map srow).length=x.t.less.length:=by simp
     have hxn:=hok.less hxm
     have hxt:(l.map TR.t)[i]? = some x.t:=by simp[hx]
     have hstep:=sepT_step hxt
     have hpre:=hok.pre i
     have hjoin:∀ (s:St) (Q:Exit->St->Prop) (c:Code),True:=fun _ _ _=>trivial
     by_cases hi0:i=0
     . have hp0:preT (l.map TR.t) i=[]:=by rw[hi0];rfl
       have hs0:sepT ((l.map TR.t).take i)=[]:=by rw[hi0];rfl
       rw[hs0] at hsl hsm ⊢
       rw[hp0] at hpre hstep
       (conv=>whnf)
       (try (conv=>whnf));repeat' (first|((refine And.intro byteT ?_);conv=>whnf)|refine Ok.seq ?_|((first|refine Ok.region tok ?_|refine Ok.cond ?_);conv=>whnf)|refine Ok.block ?_|((first|refine Ok.skip ?_|refine ix _ (by assumption) ?_|refine⟨_,_,rfl,rfl,?_⟩);conv=>whnf)|(refine bI ?_ ?_<;>intro<;>(conv=>whnf)<;>(try (exfalso;omega)))|(refine aJ ?_;conv=>whnf)|fail)
       refine Ok.loopU [1,4] [3,5] 1 1 (fun (j:Nat)=>[.own 0 (([]:Str)++x.t.p++tTail (x.t.less.take j)).length,.i .i64 (j:Nat)]) (fun _ b=>b) (fun (j:Nat) (_:Vx.Rows)=>[some (5,(([]:Str)++x.t.p++tTail (x.t.less.take j)).map bcell)]) (fun (j:Nat)=>j<=x.t.less.length) (fun (j:Nat)=>x.t.less.length - j) (0) (Nat.zero_le _) ?_;(conv=>whnf);refine⟨by ((conv=>whnf);first|rfl|(simp[envCat,List.take_of_length_le,srow,drow,trow,bcell,sepT_nil,tTail_nil];done)|(simp[envCat,List.take_of_length_le,srow,drow,trow,bcell,sepT_nil,tTail_nil];rw[IntKind.wrap_i64];omega)),?_⟩
       rintro j hj
       have htl:=hok.tail hxm j
       have hFl:(([]:Str)++x.t.p++tTail (x.t.less.take j)).length<=257*1048576+1+256+257*1048576:=by rw[List.length_append,List.length_append];omega
       have hFm:((([]:Str)++x.t.p++tTail (x.t.less.take j)).map bcell).length=(([]:Str)++x.t.p++tTail (x.t.less.take j)).length:=List.length_map _
       (conv=>whnf)
       by_cases hjl:j<x.t.less.length
       . obtain⟨m,hm⟩:∃ m,x.t.less[j]? = some m:=⟨_,List.getElem?_eq_getElem hjl⟩
         have hml:m.length<=256:=by rw[hxw.2 m (List.mem_of_getElem? hm)];exact hn
         have hmI:x.t.less[((j:Nat):Int).toNat]? = some m:=hm
         have hts:=tTail_snoc hm
         (try (conv=>whnf));repeat' (first|((refine And.intro byteT ?_);conv=>whnf)|refine Ok.seq ?_|((first|refine Ok.region tok ?_|refine Ok.cond ?_);conv=>whnf)|refine Ok.block ?_|((first|refine Ok.skip ?_|refine nI ?_|refine ix _ (by assumption) ?_|refine Alt2.l (aI ?_)|refine⟨_,.inl ⟨rfl,rfl⟩,?_⟩|refine⟨_,_,rfl,rfl,?_⟩);conv=>whnf)|(refine bI ?_ ?_<;>intro<;>(conv=>whnf)<;>(try (exfalso;omega)))|(refine aJ ?_;conv=>whnf)|fail)
         refine⟨j+1,by omega,by omega,?_⟩
         rw[hts,<- List.append_assoc,<- List.append_assoc]
         generalize hF:([]:Str)++x.t.p++tTail (x.t.less.take j)=F at *
         (conv=>whnf)
         simp[envCat,bcell]
       . have hje:j=x.t.less.length:=by omega
         subst hje
         rw[List.take_length]
         (try (conv=>whnf));repeat' (first|refine Ok.seq ?_|((first|refine Ok.region tok ?_|refine Ok.cond ?_|refine Ok.exit ?_|refine nI ?_|refine ix _ (by assumption) ?_);conv=>whnf)|(refine bI ?_ ?_<;>intro<;>(conv=>whnf)<;>(try (exfalso;omega)))|fail)
         refine⟨i+1,by omega,by omega,?_⟩
         rw[hstep]
         unfold ttxt
         rw[<- List.append_assoc]
         (conv=>whnf)
         rfl
     . have hp0:preT (l.map TR.t) i=sepT ((l.map TR.t).take i)++[43]:=by unfold preT;rw[if_neg hi0]
       rw[hp0] at hpre hstep
       (conv=>whnf)
       (try (conv=>whnf));repeat' (first|((refine And.intro byteT ?_);conv=>whnf)|refine Ok.seq ?_|((first|refine Ok.region tok ?_|refine Ok.cond ?_);conv=>whnf)|refine Ok.block ?_|((first|refine Ok.skip ?_|refine ix _ (by assumption) ?_|refine Alt2.l (aI ?_)|refine⟨_,.inl ⟨rfl,rfl⟩,?_⟩|refine⟨_,_,rfl,rfl,?_⟩);conv=>whnf)|(refine bI ?_ ?_<;>intro<;>(conv=>whnf)<;>(try (exfalso;omega)))|(refine aJ ?_;conv=>whnf)|fail)
       refine Ok.loopU [1,4] [3,5] 1 1 (fun (j:Nat)=>[.own 0 ((sepT ((l.map TR.t).take i)++[43])++x.t.p++tTail (x.t.less.take j)).length,.i .i64 (j:Nat)]) (fun _ b=>b) (fun (j:Nat) (_:Vx.Rows)=>[some (5,((sepT ((l.map TR.t).take i)++[43])++x.t.p++tTail (x.t.less.take j)).map bcell)]) (fun (j:Nat)=>j<=x.t.less.length) (fun (j:Nat)=>x.t.less.length - j) (0) (Nat.zero_le _) ?_;(conv=>whnf);refine⟨by ((conv=>whnf);first|rfl|(simp[envCat,List.take_of_length_le,srow,drow,trow,bcell,sepT_nil,tTail_nil];done)|(simp[envCat,List.take_of_length_le,srow,drow,trow,bcell,sepT_nil,tTail_nil];rw[IntKind.wrap_i64];omega)),?_⟩
       rintro j hj
       have htl:=hok.tail hxm j
       have hFl:((sepT ((l.map TR.t).take i)++[43])++x.t.p++tTail (x.t.less.take j)).length<=257*1048576+1+256+257*1048576:=by rw[List.length_append,List.length_append];omega
       have hFm:(((sepT ((l.map TR.t).take i)++[43])++x.t.p++tTail (x.t.less.take j)).map bcell).length=((sepT ((l.map TR.t).take i)++[43])++x.t.p++tTail (x.t.less.take j)).length:=List.length_map _
       (conv=>whnf)
       by_cases hjl:j<x.t.less.length
       . obtain⟨m,hm⟩:∃ m,x.t.less[j]? = some m:=⟨_,List.getElem?_eq_getElem hjl⟩
         have hml:m.length<=256:=by rw[hxw.2 m (List.mem_of_getElem? hm)];exact hn
         have hmI:x.t.less[((j:Nat):Int).toNat]? = some m:=hm
         have hts:=tTail_snoc hm
         (try (conv=>whnf));repeat' (first|((refine And.intro byteT ?_);conv=>whnf)|refine Ok.seq ?_|((first|refine Ok.region tok ?_|refine Ok.cond ?_);conv=>whnf)|refine Ok.block ?_|((first|refine Ok.skip ?_|refine nI ?_|refine ix _ (by assumption) ?_|refine Alt2.l (aI ?_)|refine⟨_,.inl ⟨rfl,rfl⟩,?_⟩|refine⟨_,_,rfl,rfl,?_⟩);conv=>whnf)|(refine bI ?_ ?_<;>intro<;>(conv=>whnf)<;>(try (exfalso;omega)))|(refine aJ ?_;conv=>whnf)|fail)
         refine⟨j+1,by omega,by omega,?_⟩
         rw[hts,<- List.append_assoc,<- List.append_assoc]
         generalize hF:(sepT ((l.map TR.t).take i)++[43])++x.t.p++tTail (x.t.less.take j)=F at *
         (conv=>whnf)
         simp[envCat,bcell]
       . have hje:j=x.t.less.length:=by omega
         subst hje
         rw[List.take_length]
         (try (conv=>whnf));repeat' (first|refine Ok.seq ?_|((first|refine Ok.region tok ?_|refine Ok.cond ?_|refine Ok.exit ?_|refine nI ?_|refine ix _ (by assumption) ?_);conv=>whnf)|(refine bI ?_ ?_<;>intro<;>(conv=>whnf)<;>(try (exfalso;omega)))|fail)
         refine⟨i+1,by omega,by omega,?_⟩
         rw[hstep]
         unfold ttxt
         rw[<- List.append_assoc]
         (conv=>whnf)
         rfl
   . have hie:i=l.length:=by omega
     subst hie
     rw[List.take_of_length_le (by simp)] at hsl hsm ⊢
     (try (conv=>whnf));repeat' (first|refine Ok.seq ?_|((first|refine Ok.region tok ?_|refine Ok.cond ?_|refine Ok.exit ?_);conv=>whnf)|(refine bI ?_ ?_<;>intro<;>(conv=>whnf)<;>(try (exfalso;omega)))|(refine aJ ?_;conv=>whnf)|fail)
     refine⟨sepT (l.map TR.t),take_all bcell _,?_⟩
     (try (conv=>whnf));repeat' (first|(refine Ok.ret ?_;conv=>whnf)|fail)
     refine Or.inl ?_;(conv=>whnf)
     unfold textS
     rw[if_neg hne]
     rfl
end Go.Proofs.YtaiondckookpiaaGreatDoor
namespace Go.Proofs.YtaiondckookpiaaGreatDoor
open Go Go.Vx
def bcl(i:Nat):D:=match i with|0=>.nilB 146|_+1=>.bp 1 0
end Go.Proofs.YtaiondckookpiaaGreatDoor
