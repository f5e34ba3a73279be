/- The walks and the plain laws that a law of spaces needs, part 4 of 4. -/
import Derived.Test.YtaiondckookpiaaQDC
import Derived.Tactics
import Derived.Tactics2
set_option linter.unusedVariables false
set_option linter.unusedSimpArgs false
namespace Go.Proofs.Ytaiondckookpiaa
open Go Go.Vx
set_option maxRecDepth 100000 in
set_option maxHeartbeats 8000000 in
theorem form_at(bits:Int)(n:Nat)(l:List TR){rl room:List (List D)}(hl:l.length<=1048576)(hok:∀ x ∈ l,TO n x)(h:rl=l.map trow)(hsz:szT (formT (l.map TR.t))<=128) :
    FSpec Try.prog T 17 [.i .i64 bits,.lst 52 rl room] (fun d rows=>∃ (ks:List TR) (rm:List (List D)),d = .agg [.i .i64 bits,.lst 52 (ks.map trow) rm]/\rows=[]/\ks.map TR.t=formT (l.map TR.t)/\∀ x ∈ ks,x ∈ l):=by
 subst h
 refine FSpec.of_ok tok Try.func17 rfl Try.call17 (by simp) ?_
 refine Ok.seq ?_
 (refine Ok.region tok ?_;conv=>whnf)
 refine Ok.seq ?_
 (refine Ok.region tok ?_;conv=>whnf)
 right
 left
 (conv=>whnf)
 refine⟨_,greatestT_at l hl (fun x hx=>(hok x hx).tn) rfl,?_⟩
 rintro d rows ⟨W,hW,rfl,rfl⟩
 have hWk:=hW.n
 have hWt:=hW.tk
 rw[List.take_length] at hWk hWt
 have hKl:(grG covR l).map TR.t=grG covT (l.map TR.t):=grG_map TR.t covT l
 have hKm:∀ x ∈ grG covR l,x ∈ l:=grG_sub covR l
 have hKn:=grG_len covR l
 have hWw:=hW.w
 have hkp:(W.map trow).length=W.length:=by simp
 generalize grG covR l=K at *
 have hkeys:∀ x ∈ (W.map trow).take K.length,∃ l,x[10]? = some (.s l):=by
  intro x hx
  obtain⟨y,_,rfl⟩:=List.mem_map.1 (List.mem_of_mem_take hx)
  exact⟨y.t.key,rfl⟩
 have htk:(W.map trow).take K.length=K.map trow:=by rw[<- List.map_take,hWt]
 (conv=>whnf)
 refine Ok.seq ?_
 refine Ok.sortSlice tok sort_term (by (conv=>whnf);exact⟨rfl,rfl⟩) rfl rfl rfl (by rw[hkp];exact hWk) rfl (by decide) (by decide) hkeys (by omega) ?_
 intro ys hperm hup
 rw[htk] at hperm
 obtain⟨ks,hks,rfl⟩:=perm_map_ex hperm _ rfl
 have hkl:ks.length=K.length:=hks.length_eq
 have hsort:(ks.map TR.t).Pairwise fun t u=>Op.bytesLess u.key t.key ≠ true:=by
  unfold RowsUp at hup
  rw[List.pairwise_map] at hup ⊢
  refine hup.imp fun {a b} h=>?_
  have h2:=h a.t.key b.t.key rfl rfl
  rw[h2]
  decide
 have hform:ks.map TR.t=formT (l.map TR.t):=formT_eq (n:=n) (fun t ht=>by
  obtain⟨x,hx,rfl⟩:=List.mem_map.1 ht
  exact (hok x hx).ok) (by rw[<- hKl];exact hks.map _) hsort
 have hmem:∀ x ∈ ks,x ∈ l:=fun x hx=>hKm x (hks.mem_iff.1 hx)
 have hrow:((ks.map trow++(W.map trow).drop K.length).take K.length)=ks.map trow:=by
  rw[<- hkl]
  exact List.take_left' (by simp)
 have hrl:(ks.map trow++(W.map trow).drop K.length).length=W.length:=by simp;omega
 clear hup hperm hkeys
 rw[<- hform] at hsz
 (conv=>whnf)
 (try (conv=>whnf));repeat' (first|refine Ok.seq ?_|((first|refine Ok.region tok ?_|refine Ok.cond ?_|refine Ok.skip ?_|refine Ok.ret ?_);conv=>whnf)|(refine Or.inl ?_;(conv=>whnf);(repeat (refine aI ?_;conv=>whnf));refine⟨_,size_at bits ks (by omega) (fun x hx=>(hok x (hmem x hx)).tn.n) hrow,rfl,?_⟩;conv=>whnf)|(refine bI ?_ ?_<;>intro<;>(conv=>whnf)<;>(try (exfalso;omega)))|fail)
 refine Or.inl ?_;(conv=>whnf)
 rw[hrow]
 exact⟨ks,_,rfl,rfl,hform,hmem⟩
set_option maxRecDepth 100000 in
set_option maxHeartbeats 8000000 in
theorem form_pan(bits:Int)(n:Nat)(l:List TR){rl room:List (List D)}(hl:l.length<=1048576)(hok:∀ x ∈ l,TO n x)(h:rl=l.map trow)(hsz:128<szT (formT (l.map TR.t))) :
    PSpec Try.prog T 17 [.i .i64 bits,.lst 52 rl room] passedV:=by
 subst h
 refine PSpec.of_ok Try.func17 rfl Try.call17 (by simp) ?_
 refine Ok.seq ?_
 (refine Ok.region tok ?_;conv=>whnf)
 refine Ok.seq ?_
 (refine Ok.region tok ?_;conv=>whnf)
 right
 left
 (conv=>whnf)
 refine⟨_,greatestT_at l hl (fun x hx=>(hok x hx).tn) rfl,?_⟩
 rintro d rows ⟨W,hW,rfl,rfl⟩
 have hWk:=hW.n
 have hWt:=hW.tk
 rw[List.take_length] at hWk hWt
 have hKl:(grG covR l).map TR.t=grG covT (l.map TR.t):=grG_map TR.t covT l
 have hKm:∀ x ∈ grG covR l,x ∈ l:=grG_sub covR l
 have hKn:=grG_len covR l
 have hWw:=hW.w
 have hkp:(W.map trow).length=W.length:=by simp
 generalize grG covR l=K at *
 have hkeys:∀ x ∈ (W.map trow).take K.length,∃ l,x[10]? = some (.s l):=by
  intro x hx
  obtain⟨y,_,rfl⟩:=List.mem_map.1 (List.mem_of_mem_take hx)
  exact⟨y.t.key,rfl⟩
 have htk:(W.map trow).take K.length=K.map trow:=by rw[<- List.map_take,hWt]
 (conv=>whnf)
 refine Ok.seq ?_
 refine Ok.sortSlice tok sort_term (by (conv=>whnf);exact⟨rfl,rfl⟩) rfl rfl rfl (by rw[hkp];exact hWk) rfl (by decide) (by decide) hkeys (by omega) ?_
 intro ys hperm hup
 rw[htk] at hperm
 obtain⟨ks,hks,rfl⟩:=perm_map_ex hperm _ rfl
 have hkl:ks.length=K.length:=hks.length_eq
 have hsort:(ks.map TR.t).Pairwise fun t u=>Op.bytesLess u.key t.key ≠ true:=by
  unfold RowsUp at hup
  rw[List.pairwise_map] at hup ⊢
  refine hup.imp fun {a b} h=>?_
  have h2:=h a.t.key b.t.key rfl rfl
  rw[h2]
  decide
 have hform:ks.map TR.t=formT (l.map TR.t):=formT_eq (n:=n) (fun t ht=>by
  obtain⟨x,hx,rfl⟩:=List.mem_map.1 ht
  exact (hok x hx).ok) (by rw[<- hKl];exact hks.map _) hsort
 have hmem:∀ x ∈ ks,x ∈ l:=fun x hx=>hKm x (hks.mem_iff.1 hx)
 have hrow:((ks.map trow++(W.map trow).drop K.length).take K.length)=ks.map trow:=by
  rw[<- hkl]
  exact List.take_left' (by simp)
 have hrl:(ks.map trow++(W.map trow).drop K.length).length=W.length:=by simp;omega
 clear hup hperm hkeys
 rw[<- hform] at hsz
 (conv=>whnf)
 (try (conv=>whnf));repeat' (first|(refine Ok.region_throw (fun _=>by kernel_rfl) (by kernel_rfl) (by decide) (by decide) ?_)|refine Ok.seq ?_|((first|refine Ok.region tok ?_|refine Ok.cond ?_);conv=>whnf)|(refine Or.inl ?_;(conv=>whnf);(repeat (refine aI ?_;conv=>whnf));refine⟨_,size_at bits ks (by omega) (fun x hx=>(hok x (hmem x hx)).tn.n) hrow,rfl,?_⟩;conv=>whnf)|(refine bI ?_ ?_<;>intro<;>(conv=>whnf)<;>(try (exfalso;omega)))|fail)
 rfl
end Go.Proofs.Ytaiondckookpiaa
namespace Go.Proofs.Ytaiondckookpiaa
open Go Go.Vx
@[reducible] def srow(s:Str):List D:=[.s s]
set_option maxHeartbeats 4000000 in
theorem rmeet_at(c d:Str)(hc:c.length<=100000):FSpec Try.prog T 36 [.s c,.s d] (fun r rows=>r = .tup [.s ((meetT c d).getD []),.b ((meetT c d).isSome=true)]/\rows=[]):=by
 refine FSpec.of_ok tok Try.func36 rfl Try.call36 (by simp) ?_
 have hnone:meetT c d=none->(D.tup [.s [],.b False]) = .tup [.s ((meetT c d).getD []),.b ((meetT c d).isSome=true)]:=fun h=>by rw[h];simp
 (try (conv=>whnf));repeat' (first|refine Ok.seq ?_|((first|refine Ok.region tok ?_|refine Ok.cond ?_);conv=>whnf)|refine Ok.block ?_|((first|refine Ok.skip ?_|refine Ok.ret ?_|refine⟨_,_,rfl,rfl,?_⟩);conv=>whnf)|(refine bI ?_ ?_<;>intro<;>(conv=>whnf)<;>(try (exfalso;omega)))|((first|refine aJ ?_|refine⟨_,rfl,?_⟩);conv=>whnf)|fail)
 . rename_i h
   refine Or.inl ?_;(conv=>whnf)
   refine⟨hnone ?_,rfl⟩
   unfold meetT
   split
   . rfl
   . cases hm:meetL c d with
     | none=>rfl
     | some m=>have:=meetL_len hm;omega
 . rename_i h h2
   refine Or.inl ?_;(conv=>whnf)
   refine⟨hnone ?_,rfl⟩
   unfold meetT
   rw[if_pos (List.eq_nil_of_length_eq_zero (by omega))]
 . rename_i h h2
   have hl:c.length=d.length:=by omega
   have hne:c ≠ []:=fun e=>by rw[e] at h2;simp at h2
   refine Ok.loopU [0,1,6] [7] 1 0 (fun (x:Nat × Str)=>[.i .i64 (x.1:Nat)]) (fun _ b=>b) (fun (x:Nat × Str) (_:Vx.Rows)=>[some (5,(x.2++List.replicate (c.length - x.1) 0).map bcell)]) (fun (x:Nat × Str)=>x.1<=c.length/\meetL (c.take x.1) (d.take x.1)=some x.2) (fun (x:Nat × Str)=>c.length - x.1) ((0,[])) (⟨Nat.zero_le _,by simp[meetL]⟩) ?_;(conv=>whnf);refine⟨by ((conv=>whnf);first|rfl|(simp[envCat,List.take_of_length_le,bcell,srow];done)|(simp[envCat,List.take_of_length_le,bcell,srow];rw[IntKind.wrap_i64];omega)),?_⟩
   rintro⟨i,m⟩ ⟨hi,hm⟩
   dsimp only at hi hm ⊢
   have hml:m.length=i:=by have:=meetL_len hm;simp at this;omega
   have hrl:(m++List.replicate (c.length - i) (0:UInt8)).length=c.length:=by simp;omega
   have hrl2:((m++List.replicate (c.length - i) (0:UInt8)).map bcell).length=c.length:=by rw[List.length_map,hrl]
   (conv=>whnf)
   by_cases hil:i<c.length
   . obtain⟨a,ha⟩:∃ a,c[i]? = some a:=⟨_,List.getElem?_eq_getElem hil⟩
     obtain⟨b,hb⟩:∃ b,d[i]? = some b:=⟨_,List.getElem?_eq_getElem (by omega)⟩
     have haI:c[((i:Nat):Int).toNat]? = some a:=ha
     have hbI:d[((i:Nat):Int).toNat]? = some b:=hb
     have hz:=fill2_at hml hil
     have hs2:=fun b y=>fill2_set (b:=b) (y:=y) hml hil
     have hs1:=fun b=>fill2_set1 (b:=b) hml hil
     generalize hL:m++List.replicate (c.length - i) (0:UInt8)=L at *
     have hL2:∀ y:UInt8,(L.set i y)[i]? = some y:=fun y=>List.getElem?_set_self (by omega)
     have hL3:∀ y:UInt8,((L.set i y).map bcell).length=c.length:=fun y=>by simp[hrl]
     by_cases hx:a=120
     . subst hx
       have hn:(((120:UInt8).toNat:Nat):Int)=120:=rfl
       have hst:=meetL_step ha hb hm (show meet1 120 b=some b from rfl)
       (try (conv=>whnf));repeat' (first|refine Ok.seq ?_|((first|refine Ok.region tok ?_|refine Ok.cond ?_);conv=>whnf)|refine Ok.block ?_|((first|refine Ok.skip ?_|refine⟨_,by assumption,?_⟩);conv=>whnf)|(refine bI ?_ ?_<;>intro<;>(conv=>whnf)<;>(try (exfalso;omega)))|(refine aJ ?_;conv=>whnf)|fail)
       refine st 120 hz (by simp[bcell]) (by simp[setCells,bcell]) ?_
       rw[toNat_cast]
       (try (conv=>whnf));repeat' (first|refine Ok.seq ?_|((first|refine Ok.region tok ?_|refine Ok.cond ?_|refine⟨_,by assumption,?_⟩);conv=>whnf)|(refine bI ?_ ?_<;>intro<;>(conv=>whnf)<;>(try (exfalso;omega)))|((first|refine aJ ?_|refine num_any ?_);conv=>whnf)|fail)
       refine st b (hL2 120) (by simp[bcell]) (by simp[setCells,bcell]) ?_
       rw[toNat_cast,hs2]
       (try (conv=>whnf));repeat' (first|((first|refine Ok.region tok ?_|refine nI ?_);conv=>whnf)|fail)
       refine⟨(i+1,m++[b]),by dsimp only;omega,⟨by dsimp only;omega,hst⟩,?_⟩
       (conv=>whnf)
       rfl
     . have hx2:=u8_ne hx
       rw[show (((120:UInt8).toNat:Nat):Int)=120 from rfl] at hx2
       by_cases hb1:b=120\/b=a
       . have hst:=meetL_step ha hb hm (show meet1 a b=some a by unfold meet1;rw[if_neg hx,if_pos hb1])
         have hb3:((b.toNat:Nat):Int)=120\/((b.toNat:Nat):Int)=((a.toNat:Nat):Int):=by
          rcases hb1 with rfl|rfl
          . exact .inl rfl
          . exact .inr rfl
         (try (conv=>whnf));repeat' (first|refine Ok.seq ?_|((first|refine Ok.region tok ?_|refine Ok.cond ?_);conv=>whnf)|refine Ok.block ?_|((first|refine Ok.skip ?_|refine⟨_,by assumption,?_⟩);conv=>whnf)|(refine bI ?_ ?_<;>intro<;>(conv=>whnf)<;>(try (exfalso;omega)))|((first|refine aJ ?_|refine num_any ?_);conv=>whnf)|fail)
         refine st a hz (by simp[bcell]) (by simp[setCells,bcell]) ?_
         rw[toNat_cast,hs1]
         (try (conv=>whnf));repeat' (first|refine Ok.seq ?_|((first|refine Ok.region tok ?_|refine Ok.region_draw tok follows (by kernel_rfl) ?_|refine Ok.cond ?_|refine Ok.skip ?_|refine nI ?_|refine⟨_,by assumption,?_⟩);conv=>whnf)|(refine bI ?_ ?_<;>intro<;>(conv=>whnf)<;>(try (exfalso;omega)))|((first|refine aJ ?_|refine num_any ?_);conv=>whnf)|fail)
         all_goals
          refine⟨(i+1,m++[a]),by dsimp only;omega,⟨by dsimp only;omega,hst⟩,?_⟩
          (conv=>whnf)
          rfl
       . have hst:=meetL_stop ha hb (show meet1 a b=none by unfold meet1;rw[if_neg hx,if_neg hb1])
         have hb3:=u8_ne (fun e=>hb1 (.inl e):b ≠ 120)
         have hb4:=u8_ne (fun e=>hb1 (.inr e):b ≠ a)
         rw[show (((120:UInt8).toNat:Nat):Int)=120 from rfl] at hb3
         (try (conv=>whnf));repeat' (first|refine Ok.seq ?_|((first|refine Ok.region tok ?_|refine Ok.cond ?_);conv=>whnf)|refine Ok.block ?_|((first|refine Ok.skip ?_|refine⟨_,by assumption,?_⟩);conv=>whnf)|(refine bI ?_ ?_<;>intro<;>(conv=>whnf)<;>(try (exfalso;omega)))|((first|refine aJ ?_|refine num_any ?_);conv=>whnf)|fail)
         refine st a hz (by simp[bcell]) (by simp[setCells,bcell]) ?_
         rw[toNat_cast,hs1]
         (try (conv=>whnf));repeat' (first|refine Ok.seq ?_|((first|refine Ok.region tok ?_|refine Ok.region_draw tok follows (by kernel_rfl) ?_|refine Ok.cond ?_|refine Ok.ret ?_|refine⟨_,by assumption,?_⟩);conv=>whnf)|(refine bI ?_ ?_<;>intro<;>(conv=>whnf)<;>(try (exfalso;omega)))|((first|refine aJ ?_|refine num_any ?_);conv=>whnf)|fail)
         all_goals
          refine Or.inl ?_;(conv=>whnf)
          refine⟨hnone ?_,rfl⟩
          rw[meetT_eq hne,hst]
   . have hie:i=c.length:=by omega
     subst hie
     rw[List.take_length,hl,List.take_length] at hm
     rw[Nat.sub_self,List.replicate_zero,List.append_nil]
     (try (conv=>whnf));repeat' (first|refine Ok.seq ?_|((first|refine Ok.region tok ?_|refine Ok.cond ?_|refine Ok.exit ?_);conv=>whnf)|(refine bI ?_ ?_<;>intro<;>(conv=>whnf)<;>(try (exfalso;omega)))|(refine aJ ?_;conv=>whnf)|fail)
     refine⟨m,by rw[<- hml];exact take_all bcell m,?_⟩
     (try (conv=>whnf));repeat' (first|(refine Ok.ret ?_;conv=>whnf)|fail)
     refine Or.inl ?_;(conv=>whnf)
     refine⟨?_,rfl⟩
     rw[meetT_eq hne,hm]
     simp[oneD]
set_option maxHeartbeats 4000000 in
theorem rinside_at(c d:Str)(hc:c.length<=100000):FSpec Try.prog T 50 [.s c,.s d] (fun r _=>r = .b (inT c d)):=by
 refine FSpec.of_ok tok Try.func50 rfl Try.call50 (by simp) ?_
 (try (conv=>whnf));repeat' (first|refine Ok.seq ?_|((first|refine Ok.region tok ?_|refine Ok.cond ?_);conv=>whnf)|refine Ok.block ?_|((first|refine Ok.skip ?_|refine Ok.ret ?_);conv=>whnf)|(refine bI ?_ ?_<;>intro<;>(conv=>whnf)<;>(try (exfalso;omega)))|fail)
 . rename_i h
   refine Or.inl ?_;(conv=>whnf)
   show D.b False=_
   exact congrArg D.b (propext ⟨fun h=>h.elim,fun h2=>by have:=inL_len h2.2;omega⟩)
 . rename_i h h2
   refine Or.inl ?_;(conv=>whnf)
   show D.b False=_
   exact congrArg D.b (propext ⟨fun h=>h.elim,fun h3=>h3.1 (List.eq_nil_of_length_eq_zero (by omega))⟩)
 . rename_i h h2
   have hl:c.length=d.length:=by omega
   have hne:c ≠ []:=fun e=>by rw[e] at h2;simp at h2
   refine Ok.loopU [0,1] [5] 0 0 (fun (i:Nat)=>[.i .i64 (i:Nat)]) (fun _ b=>b) (fun _ r=>r) (fun (i:Nat)=>i<=c.length/\∀ (k:Nat) a b,k<i->c[k]? = some a->d[k]? = some b->b=120\/b=a) (fun (i:Nat)=>c.length - i) (0) (⟨Nat.zero_le _,fun k _ _ hk=>absurd hk (by omega)⟩) ?_;(conv=>whnf);refine⟨by ((conv=>whnf);first|rfl|(simp[envCat,List.take_of_length_le,bcell,srow];done)|(simp[envCat,List.take_of_length_le,bcell,srow];rw[IntKind.wrap_i64];omega)),?_⟩
   rintro i ⟨hi,hall⟩
   (conv=>whnf)
   by_cases hil:i<c.length
   . obtain⟨a,ha⟩:∃ a,c[i]? = some a:=⟨_,List.getElem?_eq_getElem hil⟩
     obtain⟨b,hb⟩:∃ b,d[i]? = some b:=⟨_,List.getElem?_eq_getElem (by omega)⟩
     have haI:c[((i:Nat):Int).toNat]? = some a:=ha
     have hbI:d[((i:Nat):Int).toNat]? = some b:=hb
     have step:(b=120\/b=a)->∀ (k:Nat) x y,k<i+1->c[k]? = some x->d[k]? = some y->y=120\/y=x:=fun hh k x y hk hx hy=>by
      by_cases hki:k=i
      . subst hki
        rw[ha] at hx
        rw[hb] at hy
        cases hx
        cases hy
        exact hh
      . exact hall k x y (by omega) hx hy
     by_cases hb1:b=120\/b=a
     . have hb3:((b.toNat:Nat):Int)=120\/((b.toNat:Nat):Int)=((a.toNat:Nat):Int):=by
         rcases hb1 with rfl|rfl
         . exact .inl rfl
         . exact .inr rfl
       (try (conv=>whnf));repeat' (first|refine Ok.seq ?_|((first|refine Ok.region tok ?_|refine Ok.region_draw tok follows (by kernel_rfl) ?_|refine Ok.cond ?_);conv=>whnf)|refine Ok.block ?_|((first|refine Ok.skip ?_|refine nI ?_|refine⟨_,by assumption,?_⟩);conv=>whnf)|(refine bI ?_ ?_<;>intro<;>(conv=>whnf)<;>(try (exfalso;omega)))|((first|refine aJ ?_|refine num_any ?_);conv=>whnf)|fail)
       all_goals
        refine⟨i+1,by omega,⟨by omega,step hb1⟩,?_⟩
        (conv=>whnf)
        rfl
     . have hb3:=u8_ne (fun e=>hb1 (.inl e):b ≠ 120)
       have hb4:=u8_ne (fun e=>hb1 (.inr e):b ≠ a)
       rw[show (((120:UInt8).toNat:Nat):Int)=120 from rfl] at hb3
       (try (conv=>whnf));repeat' (first|refine Ok.seq ?_|((first|refine Ok.region tok ?_|refine Ok.region_draw tok follows (by kernel_rfl) ?_|refine Ok.cond ?_);conv=>whnf)|refine Ok.block ?_|((first|refine Ok.skip ?_|refine Ok.ret ?_|refine⟨_,by assumption,?_⟩);conv=>whnf)|(refine bI ?_ ?_<;>intro<;>(conv=>whnf)<;>(try (exfalso;omega)))|((first|refine aJ ?_|refine num_any ?_);conv=>whnf)|fail)
       all_goals
        refine Or.inl ?_;(conv=>whnf)
        show D.b False=_
        exact congrArg D.b (propext ⟨fun h=>h.elim,fun h3=>hb1 ((inL_iff.1 h3.2).2 i a b ha hb)⟩)
   . have hie:i=c.length:=by omega
     subst hie
     (try (conv=>whnf));repeat' (first|refine Ok.seq ?_|((first|refine Ok.region tok ?_|refine Ok.cond ?_|refine Ok.exit ?_|refine Ok.ret ?_);conv=>whnf)|(refine bI ?_ ?_<;>intro<;>(conv=>whnf)<;>(try (exfalso;omega)))|fail)
     refine Or.inl ?_;(conv=>whnf)
     show D.b True=_
     exact congrArg D.b (propext ⟨fun _=>⟨hne,inL_iff.2 ⟨hl,fun k x y hx hy=>hall k x y (List.getElem?_eq_some_iff.1 hx).1 hx hy⟩⟩,fun _=>trivial⟩)
theorem inTL{c d:Str}(h:c ≠ []):inT c d=inL c d:=propext ⟨fun h=>h.2,fun k=>⟨h,k⟩⟩
set_option maxHeartbeats 8000000 in
theorem rput_at(l:List Str)(c:Str){rl rm:List (List D)}(hl:l.length<=100000)(hok:∀ x ∈ l,x ≠ []/\x.length<=100000)(hc:c ≠ [])(hcl:c.length<=100000)(h:rl=l.map srow) :
    FSpec Try.prog T 37 [.lst 9 rl rm,.s c] (fun d rows=>∃ rm',d = .lst 9 ((putG inL blt l c).map srow) rm'/\rows=[]):=by
 subst h
 have hll:(l.map srow).length=l.length:=by simp
 refine FSpec.of_ok tok Try.func37 rfl Try.call37 (by simp) ?_
 (try (conv=>whnf));repeat' (first|refine Ok.seq ?_|(refine Ok.region tok ?_;conv=>whnf)|refine Ok.block ?_|fail)
 refine Ok.loopU [0,1] [5] 0 0 (fun (i:Nat)=>[.i .i64 (i:Nat)]) (fun _ b=>b) (fun _ r=>r) (fun (i:Nat)=>i<=l.length/\∀ x ∈ l.take i,¬ inL c x) (fun (i:Nat)=>l.length - i) (0) (⟨Nat.zero_le _,by simp⟩) ?_;(conv=>whnf);refine⟨by ((conv=>whnf);first|rfl|(simp[envCat,List.take_of_length_le,bcell,srow];done)|(simp[envCat,List.take_of_length_le,bcell,srow];rw[IntKind.wrap_i64];omega)),?_⟩
 rintro i ⟨hi,hno⟩
 (conv=>whnf)
 by_cases hil:i<l.length
 . obtain⟨x,hx⟩:∃ x,l[i]? = some x:=⟨_,List.getElem?_eq_getElem hil⟩
   have hsp:=rinside_at c x hcl
   rw[inTL hc] at hsp
   (try (conv=>whnf));repeat' (first|refine Ok.seq ?_|((first|refine Ok.region tok ?_|refine Ok.cond ?_);conv=>whnf)|refine Ok.block ?_|((first|refine Ok.skip ?_|refine Ok.ret ?_|refine nI ?_|refine ix _ (by assumption) ?_);conv=>whnf)|(refine Or.inl ?_;(conv=>whnf);(repeat (refine aI ?_;conv=>whnf));refine⟨_,hsp,rfl,?_⟩;conv=>whnf)|(refine bI ?_ ?_<;>intro<;>(conv=>whnf)<;>(try (exfalso;omega)))|fail)
   . rename_i hin
     refine Or.inl ?_;(conv=>whnf)
     refine⟨rm,?_,rfl⟩
     rw[putG_in ⟨x,List.mem_of_getElem? hx,hin⟩]
     rfl
   . rename_i hin
     refine⟨i+1,by omega,⟨by omega,fun z hz=>?_⟩,?_⟩
     . rw[take_snoc hx] at hz
       rcases List.mem_append.1 hz with hz|hz
       . exact hno z hz
       . simp at hz;rw[hz];exact hin
     . (conv=>whnf)
       rfl
 . have hie:i=l.length:=by omega
   subst hie
   rw[List.take_length] at hno
   have hno2:¬ ∃ y ∈ l,inL c y:=fun⟨y,hy,h⟩=>hno y hy h
   (try (conv=>whnf));repeat' (first|refine Ok.seq ?_|((first|refine Ok.region tok ?_|refine Ok.cond ?_);conv=>whnf)|refine Ok.block ?_|(refine Ok.exit ?_;conv=>whnf)|(refine bI ?_ ?_<;>intro<;>(conv=>whnf)<;>(try (exfalso;omega)))|fail)
   refine Ok.ghost 6 9 rfl ?_
   (conv=>whnf)
   refine Ok.asB 7 rfl ?_
   (conv=>whnf)
   refine Ok.loopU [0,1] [6,7,8] 1 0 (fun (x:Nat × List Str × Prop)=>[.own 0 x.2.1.length,.b x.2.2,.i .i64 (x.1:Nat)]) (fun _ b=>b) (fun (x:Nat × List Str × Prop) (_:Vx.Rows)=>[some (9,x.2.1.map srow)]) (fun (x:Nat × List Str × Prop)=>x.1<=l.length/\PutSt inL blt l c x.1 x.2.1 x.2.2/\x.2.1.length<=2*x.1) (fun (x:Nat × List Str × Prop)=>l.length - x.1) ((0,[],False)) (⟨Nat.zero_le _,PutSt.zero,by simp⟩) ?_;(conv=>whnf);refine⟨by ((conv=>whnf);first|rfl|(simp[envCat,List.take_of_length_le,bcell,srow];done)|(simp[envCat,List.take_of_length_le,bcell,srow];rw[IntKind.wrap_i64];omega)),?_⟩
   rintro⟨i,m,dn⟩ ⟨hi,hP,hml⟩
   dsimp only at hi hP hml ⊢
   have hmm:(m.map srow).length=m.length:=by simp
   (conv=>whnf)
   by_cases hil:i<l.length
   . obtain⟨x,hx⟩:∃ x,l[i]? = some x:=⟨_,List.getElem?_eq_getElem hil⟩
     have hxo:=hok x (List.mem_of_getElem? hx)
     have hsp:=rinside_at x c hxo.2
     rw[inTL hxo.1] at hsp
     by_cases hin:inL x c
     . have hP2:=hP.skip hx hin
       (try (conv=>whnf));repeat' (first|refine Ok.seq ?_|((first|refine Ok.region tok ?_|refine Ok.cond ?_);conv=>whnf)|refine Ok.block ?_|((first|refine Ok.skip ?_|refine Ok.exit ?_|refine nI ?_|refine ix _ (by assumption) ?_);conv=>whnf)|(refine Or.inl ?_;(conv=>whnf);(repeat (refine aI ?_;conv=>whnf));refine⟨_,hsp,rfl,?_⟩;conv=>whnf)|((first|refine Alt2.l (aI ?_)|refine⟨_,.inl ⟨rfl,rfl⟩,?_⟩|refine⟨_,_,rfl,rfl,?_⟩);conv=>whnf)|(refine bI ?_ ?_<;>intro<;>(conv=>whnf)<;>(try (exfalso;omega)))|(refine aJ ?_;conv=>whnf)|fail)
       . refine⟨(i+1,m,dn),by dsimp only;omega,⟨by dsimp only;omega,hP2,by dsimp only;omega⟩,?_⟩
         (conv=>whnf)
         rfl
       all_goals exact absurd hin (by assumption)
     . (try (conv=>whnf));repeat' (first|(refine Ok.asB' 7 rfl ?_)|refine Ok.seq ?_|((first|refine Ok.region tok ?_|refine Ok.cond ?_);conv=>whnf)|refine Ok.block ?_|((first|refine Ok.skip ?_|refine Ok.exit ?_|refine nI ?_|refine ix _ (by assumption) ?_);conv=>whnf)|(refine Or.inl ?_;(conv=>whnf);(repeat (refine aI ?_;conv=>whnf));refine⟨_,hsp,rfl,?_⟩;conv=>whnf)|((first|refine Alt2.l (aI ?_)|refine⟨_,.inl ⟨rfl,rfl⟩,?_⟩|refine⟨_,_,rfl,rfl,?_⟩);conv=>whnf)|(refine bI ?_ ?_<;>intro<;>(conv=>whnf)<;>(try (exfalso;omega)))|(refine aJ ?_;conv=>whnf)|fail)
       . exact absurd (by assumption) hin
       . rename_i hdn hlt
         refine⟨(i+1,m++[c]++[x],True),by dsimp only;omega,⟨by dsimp only;omega,hP.new hx hin hdn hlt,by simp;omega⟩,?_⟩
         (conv=>whnf)
         simp[envCat]
       . rename_i hdn hlt
         refine⟨(i+1,m++[x],dn),by dsimp only;omega,⟨by dsimp only;omega,hP.old hx hin (.inr hlt),by simp;omega⟩,?_⟩
         (conv=>whnf)
         simp[envCat]
       . rename_i hdn
         refine⟨(i+1,m++[x],dn),by dsimp only;omega,⟨by dsimp only;omega,hP.old hx hin (.inl (Classical.not_not.1 hdn)),by simp;omega⟩,?_⟩
         (conv=>whnf)
         simp[envCat]
   . have hie2:i=l.length:=by omega
     subst hie2
     have hfin:=hP.fin hno2
     (try (conv=>whnf));repeat' (first|refine Ok.seq ?_|((first|refine Ok.region tok ?_|refine Ok.cond ?_|refine Ok.skip ?_|refine Ok.exit ?_|refine Ok.ret ?_|refine Alt2.l (aI ?_)|refine⟨_,.inl ⟨rfl,rfl⟩,?_⟩|refine⟨_,_,rfl,rfl,?_⟩);conv=>whnf)|(refine bI ?_ ?_<;>intro<;>(conv=>whnf)<;>(try (exfalso;omega)))|(refine aJ ?_;conv=>whnf)|fail)
     . rename_i hdn
       rw[if_neg hdn] at hfin
       refine Or.inl ?_;(conv=>whnf)
       refine⟨[],?_,rfl⟩
       rw[hfin,List.take_length,List.drop_length,List.map_append]
       rfl
     . rename_i hdn
       rw[if_pos (Classical.not_not.1 hdn)] at hfin
       refine Or.inl ?_;(conv=>whnf)
       refine⟨[],?_,rfl⟩
       rw[hfin,List.take_of_length_le (by simp),List.drop_of_length_le (by simp)]
       rfl
noncomputable def PK(p:Str)(less:List Str):List Str:=(metL p less).foldl (putG inL blt) []
theorem PK_none{p m:Str}{less:List Str}{i:Nat}(h:less[i]? = some m)(hm:meetT m p=none):PK p (less.take (i+1))=PK p (less.take i):=by
 unfold PK
 rw[take_snoc h,metL_app,metL_none hm,List.append_nil]
theorem PK_some{p m c:Str}{less:List Str}{i:Nat}(h:less[i]? = some m)(hm:meetT m p=some c):PK p (less.take (i+1))=putG inL blt (PK p (less.take i)) c:=by
 unfold PK
 rw[take_snoc h,metL_app,metL_some hm,List.foldl_append]
 rfl
open Classical in
theorem putG_len{α:Type}(R L:α->α->Prop)(k:List α)(c:α):(putG R L k c).length<=k.length+1:=by
 unfold putG
 split
 . omega
 . rw[(insG_perm L c _).length_eq,List.length_cons]
   exact Nat.add_le_add_right (List.length_filter_le _ _) 1
theorem PK_len(p:Str)(less:List Str)(i:Nat):(PK p (less.take i)).length<=i:=by
 have go:∀ (l k:List Str),(l.foldl (putG inL blt) k).length<=k.length+l.length:=by
  intro l
  induction l with
  | nil=>intro k;simp
  | cons x l ih=>
   intro k
   have h1:=ih (putG inL blt k x)
   have h2:=putG_len inL blt k x
   simp only[List.foldl_cons,List.length_cons]
   omega
 have h1:=go (metL p (less.take i)) []
 have h2:=metL_le p (less.take i)
 have h3:=List.length_take_le i less
 unfold PK
 simp only[List.length_nil] at h1
 omega
theorem PK_mem{p:Str}{less:List Str}{c:Str}(h:c ∈ PK p less):c ∈ metL p less:=
 (putG_fold (R:=inL) (L:=blt) inL_refl (fun _ _ _=>inL_trans) blt_trans blt_total (metL p less)).1.sub c h
theorem metL_wide{p:Str}{less:List Str}{c:Str}(h:c ∈ metL p less):c.length=p.length:=by
 obtain⟨m,_,hm⟩:=List.mem_filterMap.1 h
 unfold meetT at hm
 split at hm
 . cases hm
 . exact (meetL_len hm).2.symm
theorem termT_pk0{p:Str}{less:List Str}(h:PK p less=[p]):termT p less=none:=by
 unfold PK at h
 unfold termT
 simp only
 rw[if_pos h]
theorem termT_pk1{p:Str}{less:List Str}(h:PK p less ≠ [p]):termT p less=some ⟨p,PK p less⟩:=by
 unfold PK at h
 unfold termT
 simp only
 rw[if_neg h]
 rfl
theorem one_is{α:Type}{l:List α}{x y:α}(h1:l.length=1)(h2:l[0]? = some x):l=[y] ↔ x=y:=by
 match l,h1 with
 | [z],_=>simp at h2;subst h2;simp
@[reducible] def drow(x:TR):List D:=[.s x.t.p,.lst 9 (x.t.less.map srow) x.room]
def RTerm(p:Str)(less:List Str)(d:D)(rows:Vx.Rows):Prop:=
 rows=[]/\((termT p less=none/\d = .tup [.agg (drow ⟨⟨[],[]⟩,[]⟩),.b False])\/∃ t rm,termT p less=some t/\d = .tup [.agg (drow ⟨t,rm⟩),.b True])
set_option maxHeartbeats 8000000 in
theorem rterm_at(p:Str)(less:List Str){rl rm:List (List D)}(hp:p ≠ [])(hpl:p.length<=256)(hl:less.length<=100000)(hok:∀ m ∈ less,m.length<=256)(h:rl=less.map srow) :
    FSpec Try.prog T 19 [.s p,.lst 9 rl rm] (RTerm p less):=by
 subst h
 have hll:(less.map srow).length=less.length:=by simp
 refine FSpec.of_ok tok Try.func19 rfl Try.call19 (by simp) ?_
 (try (conv=>whnf));repeat' (first|refine Ok.seq ?_|(refine Ok.region tok ?_;conv=>whnf)|refine Ok.block ?_|fail)
 refine Ok.nilC 1 1 9 rfl rfl ?_
 (conv=>whnf)
 refine Ok.loopU [0,1,4,6] [7] 0 2 (fun (x:Nat × List (List D))=>[.i .i64 (x.1:Nat)]) (fun (x:Nat × List (List D)) (_:List (List D))=>[[.s [],.nilS],[.s p,.lst 9 ((PK p (less.take x.1)).map srow) x.2]]) (fun _ r=>r) (fun (x:Nat × List (List D))=>x.1<=less.length) (fun (x:Nat × List (List D))=>less.length - x.1) ((0,[])) (Nat.zero_le _) ?_;(conv=>whnf);refine⟨by ((conv=>whnf);first|rfl|(simp[envCat,List.take_of_length_le,bcell,srow];done)|(simp[envCat,List.take_of_length_le,bcell,srow];rw[IntKind.wrap_i64];omega)),?_⟩
 rintro⟨i,rm1⟩ hi
 dsimp only at hi ⊢
 have hkl:=PK_len p less i
 have hkm:∀ x ∈ PK p (less.take i),x ≠ []/\x.length<=100000:=fun x hx=>by
  have:=metL_wide (PK_mem hx)
  exact⟨fun e=>hp (List.eq_nil_of_length_eq_zero (by rw[<- this,e];rfl)),by omega⟩
 (conv=>whnf)
 by_cases hil:i<less.length
 . obtain⟨m,hm⟩:∃ m,less[i]? = some m:=⟨_,List.getElem?_eq_getElem hil⟩
   have hmo:=hok m (List.mem_of_getElem? hm)
   have hsp:=rmeet_at m p (by omega)
   cases hmt:meetT m p with
   | none=>
    rw[hmt] at hsp
    (try (conv=>whnf));repeat' (first|refine Ok.seq ?_|((first|refine Ok.region tok ?_|refine Ok.cond ?_);conv=>whnf)|refine Ok.block ?_|((first|refine Ok.skip ?_|refine nI ?_|refine ix _ (by assumption) ?_);conv=>whnf)|(refine Or.inr (Or.inl ?_);(conv=>whnf);(repeat (refine aI ?_;conv=>whnf));refine⟨_,hsp,?_⟩;rintro _ _ ⟨rfl,rfl⟩<;>(conv=>whnf))|(refine bI ?_ ?_<;>intro<;>(conv=>whnf)<;>(try (exfalso;omega)))|fail)
    . rename_i h2
      exact absurd h2 (by simp)
    . refine⟨(i+1,rm1),by dsimp only;omega,by dsimp only;omega,?_⟩
      dsimp only
      rw[PK_none hm hmt]
      (conv=>whnf)
      rfl
   | some c=>
    rw[hmt] at hsp
    have hcw:c ≠ []/\c.length<=100000:=by
     unfold meetT at hmt
     split at hmt
     . cases hmt
     . have:=meetL_len hmt
       exact⟨fun e=>hp (List.eq_nil_of_length_eq_zero (by rw[this.2,e];rfl)),by omega⟩
    (try (conv=>whnf));repeat' (first|refine Ok.seq ?_|((first|refine Ok.region tok ?_|refine Ok.cond ?_);conv=>whnf)|refine Ok.block ?_|((first|refine Ok.skip ?_|refine nI ?_|refine ix _ (by assumption) ?_);conv=>whnf)|(refine Or.inr (Or.inl ?_);(conv=>whnf);(repeat (refine aI ?_;conv=>whnf));refine⟨_,hsp,?_⟩;rintro _ _ ⟨rfl,rfl⟩<;>(conv=>whnf))|(refine Or.inr (Or.inl ?_);(conv=>whnf);(repeat (refine aI ?_;conv=>whnf));refine⟨_,rput_at (PK p (less.take i)) c (by omega) hkm hcw.1 hcw.2 rfl , ?_⟩;rintro _ _ ⟨rm2,rfl,rfl⟩<;>(conv=>whnf))|(refine bI ?_ ?_<;>intro<;>(conv=>whnf)<;>(try (exfalso;omega)))|fail)
    . rename_i rm2
      refine⟨(i+1,rm2),by dsimp only;omega,by dsimp only;omega,?_⟩
      dsimp only
      rw[PK_some hm hmt]
      (conv=>whnf)
      rfl
    . rename_i h2
      exact absurd rfl h2
 . have hie:i=less.length:=by omega
   subst hie
   rw[List.take_length] at hkl ⊢
   have ht0:=termT_pk0 (p:=p) (less:=less)
   have ht1:=termT_pk1 (p:=p) (less:=less)
   generalize PK p less=K at *
   have hKl:(K.map srow).length=K.length:=by simp
   (try (conv=>whnf));repeat' (first|refine Ok.seq ?_|((first|refine Ok.region tok ?_|refine Ok.cond ?_|refine Ok.skip ?_|refine Ok.exit ?_|refine Ok.ret ?_|refine ixI_new (by omega) (by omega) fun _ _=>?_);conv=>whnf)|(refine bI ?_ ?_<;>intro<;>(conv=>whnf)<;>(try (exfalso;omega)))|fail)
   . rename_i h1 x hx hxp
     have h1':K.length=1:=by omega
     refine Or.inl ?_;(conv=>whnf)
     refine⟨rfl,.inl ⟨ht0 ((one_is h1' hx).2 hxp),rfl⟩⟩
   . rename_i h1 x hx hxp
     have h1':K.length=1:=by omega
     refine Or.inl ?_;(conv=>whnf)
     exact⟨rfl,.inr ⟨_,rm1,ht1 (fun e=>hxp ((one_is h1' hx).1 e)),rfl⟩⟩
   . rename_i h1
     refine Or.inl ?_;(conv=>whnf)
     exact⟨rfl,.inr ⟨_,rm1,ht1 (fun e=>by rw[e] at h1;simp at h1),rfl⟩⟩
end Go.Proofs.Ytaiondckookpiaa
namespace Go.Proofs.Ytaiondckookpiaa
open Go Go.Vx
theorem tTail_nil:tTail []=[]:=rfl
theorem szS_eq(l:List Term):szT l=szS l:=rfl
structure SpOk(n:Nat)(l:List TR):Prop where
 n256:n<=256
 size:szS (l.map TR.t)<=1048576
 wide:∀ x ∈ l,x.t.wide n
 pos:l ≠ []->0<n
theorem SpOk.nil{n:Nat}(h:n<=256):SpOk n []:=⟨h,by simp[szS],by simp,fun h=>absurd rfl h⟩
theorem SpOk.len{n:Nat}{l:List TR}(h:SpOk n l):l.length<=1048576:=by
 have h1:=szS_len (l.map TR.t)
 have h2:=h.size
 rw[List.length_map] at h1
 omega
theorem SpOk.less{n:Nat}{l:List TR}(h:SpOk n l){x:TR}(hx:x ∈ l):x.t.less.length<=1048576:=by
 have h1:=szS_mem (List.mem_map_of_mem (f:=TR.t) hx)
 have h2:=h.size
 omega
theorem SpOk.w256{n:Nat}{l:List TR}(h:SpOk n l):∀ t ∈ l.map TR.t,t.p.length<=256/\∀ m ∈ t.less,m.length<=256:=by
 intro t ht
 obtain⟨x,hx,rfl⟩:=List.mem_map.1 ht
 have h1:=h.wide x hx
 have h2:=h.n256
 exact⟨by rw[h1.1];exact h2,fun m hm=>by rw[h1.2 m hm];exact h2⟩
theorem SpOk.sep{n:Nat}{l:List TR}(h:SpOk n l)(i:Nat):(sepT ((l.map TR.t).take i)).length<=257*1048576:=by
 have h1:=sepT_len (l:=(l.map TR.t).take i) fun t ht=>h.w256 t (List.mem_of_mem_take ht)
 have h2:=szS_take (l.map TR.t) i
 have h3:=h.size
 omega
theorem SpOk.pre{n:Nat}{l:List TR}(h:SpOk n l)(i:Nat):(preT (l.map TR.t) i).length<=257*1048576+1:=by
 unfold preT
 split
 . simp
 . have:=h.sep i
   rw[List.length_append,List.length_singleton]
   omega
theorem SpOk.tail{n:Nat}{l:List TR}(h:SpOk n l){x:TR}(hx:x ∈ l)(j:Nat):(tTail (x.t.less.take j)).length<=257*1048576:=by
 have h1:=tTail_len (l:=x.t.less.take j) fun m hm=>(h.w256 x.t (List.mem_map_of_mem hx)).2 m (List.mem_of_mem_take hm)
 have h2:=h.less hx
 have h3:(x.t.less.take j).length<=x.t.less.length:=by simp;omega
 omega
theorem bits_at(b:Int)(d:D)(hd:∃ e r m,d = .lst e r m):FSpec Try.prog T 39 [.agg [.i .i64 b,d]] (fun r _=>r = .i .i64 b):=by
 obtain⟨e,r,m,rfl⟩:=hd
 refine FSpec.of_ok tok Try.func39 rfl Try.call39 (by simp) ?_
 (try (conv=>whnf));repeat' (first|refine Ok.seq ?_|((first|refine Ok.region tok ?_|refine Ok.ret ?_);conv=>whnf)|fail)
 refine Or.inl ?_;(conv=>whnf)
 rfl
def noneB(b:Int):Int:=if b<1\/256<b then 0 else b
theorem none_at(b:Int):FSpec Try.prog T 18 [.i .i64 b] (fun r rows=>r = .agg [.i .i64 (noneB b),.lst 52 [] []]/\rows=[]):=by
 refine FSpec.of_ok tok Try.func18 rfl Try.call18 (by simp) ?_
 (try (conv=>whnf));repeat' (first|refine Ok.seq ?_|((first|refine Ok.region tok ?_|refine Ok.cond ?_|refine Ok.skip ?_|refine Ok.ret ?_);conv=>whnf)|(refine bI ?_ ?_<;>intro<;>(conv=>whnf)<;>(try (exfalso;omega)))|fail)
 all_goals
  refine Or.inl ?_;(conv=>whnf)
  refine⟨?_,rfl⟩
  unfold noneB
  first|rw[if_pos (by omega)];rfl|rw[if_neg (by omega)];rfl
set_option maxHeartbeats 4000000 in
theorem rsize_at(bits:Int)(l:List TR){rl room:List (List D)}(hl:l.length<=1048576)(hok:∀ x ∈ l,x.t.less.length<=1048576)(h:rl=l.map drow):FSpec Try.prog T 38 [.agg [.i .i64 bits,.lst 58 rl room]] (fun d _=>d = .i .i64 (szT (l.map TR.t):Nat)):=by
 subst h
 have hll:(l.map drow).length=l.length:=by simp
 refine FSpec.of_ok tok Try.func38 rfl Try.call38 (by simp) ?_
 (try (conv=>whnf));repeat' (first|refine Ok.seq ?_|(refine Ok.region tok ?_;conv=>whnf)|refine Ok.block ?_|fail)
 refine Ok.loopU [1] [3,4] 0 1 (fun (i:Nat)=>[.i .i64 (szT ((l.take i).map TR.t):Nat),.i .i64 (i:Nat)]) (fun _ b=>b) (fun _ r=>r) (fun (i:Nat)=>i<=l.length) (fun (i:Nat)=>l.length - i) (0) (Nat.zero_le _) ?_;(conv=>whnf);refine⟨by ((conv=>whnf);first|rfl|(simp[envCat,List.take_of_length_le,srow,drow,trow,bcell,sepT_nil,tTail_nil];done)|(simp[envCat,List.take_of_length_le,srow,drow,trow,bcell,sepT_nil,tTail_nil];rw[IntKind.wrap_i64];omega)),?_⟩
 rintro i hi
 have hs:szT ((l.take i).map TR.t)<=1048576*1048577:=by
  refine Nat.le_trans (szT_le fun t ht=>?_) (Nat.mul_le_mul_right _ (by simp;omega))
  obtain⟨x,hx,rfl⟩:=List.mem_map.1 ht
  exact hok x (List.mem_of_mem_take hx)
 (conv=>whnf)
 by_cases hil:i<l.length
 . obtain⟨x,hx⟩:∃ x,l[i]? = some x:=⟨_,List.getElem?_eq_getElem hil⟩
   have hxo:=hok x (List.mem_of_getElem? hx)
   have hxl:(x.t.less.map srow).length=x.t.less.length:=by simp
   have hnx:szT ((l.take (i+1)).map TR.t)=szT ((l.take i).map TR.t)+(1+x.t.less.length):=by rw[take_snoc hx,List.map_append];exact szT_snoc _ _
   generalize szT ((l.take i).map TR.t)=S at *
   (try (conv=>whnf));repeat' (first|refine Ok.seq ?_|((first|refine Ok.region tok ?_|refine Ok.cond ?_);conv=>whnf)|refine Ok.block ?_|((first|refine Ok.skip ?_|refine nI ?_|refine ix _ (by assumption) ?_);conv=>whnf)|(refine bI ?_ ?_<;>intro<;>(conv=>whnf)<;>(try (exfalso;omega)))|fail)
   refine⟨i+1,by omega,by omega,?_⟩
   rw[hnx]
   (conv=>whnf)
   simp[envCat]
   omega
 . have hie:i=l.length:=by omega
   subst hie
   rw[List.take_length]
   (try (conv=>whnf));repeat' (first|refine Ok.seq ?_|((first|refine Ok.region tok ?_|refine Ok.cond ?_|refine Ok.exit ?_|refine Ok.ret ?_);conv=>whnf)|(refine bI ?_ ?_<;>intro<;>(conv=>whnf)<;>(try (exfalso;omega)))|fail)
   refine Or.inl ?_;(conv=>whnf)
   rfl
theorem rbound_at(bits:Int)(l:List TR){rl room:List (List D)}(hl:l.length<=1048576)(hok:∀ x ∈ l,x.t.less.length<=1048576)(h:rl=l.map drow):FSpec Try.prog T 20 [.agg [.i .i64 bits,.lst 58 rl room]]
    (fun d rows=>rows=[]/\((szT (l.map TR.t)<=128/\d = .tup [.agg [.i .i64 bits,.lst 58 (l.map drow) room],.i .i64 0])\/(128<szT (l.map TR.t)/\d = .tup [.agg [.i .i64 0,.lst 58 [] []],.i .i64 3]))):=by
 subst h
 refine FSpec.of_ok tok Try.func20 rfl Try.call20 (by simp) ?_
 (try (conv=>whnf));repeat' (first|refine Ok.seq ?_|((first|refine Ok.region tok ?_|refine Ok.cond ?_|refine Ok.skip ?_|refine Ok.ret ?_);conv=>whnf)|(refine Or.inl ?_;(conv=>whnf);(repeat (refine aI ?_;conv=>whnf));refine⟨_,rsize_at bits l hl hok rfl,rfl,?_⟩;conv=>whnf)|(refine bI ?_ ?_<;>intro<;>(conv=>whnf)<;>(try (exfalso;omega)))|fail)
 . rename_i h
   refine Or.inl ?_;(conv=>whnf)
   exact⟨rfl,.inr ⟨by omega,rfl⟩⟩
 . rename_i h
   refine Or.inl ?_;(conv=>whnf)
   exact⟨rfl,.inl ⟨by omega,rfl⟩⟩
set_option maxRecDepth 100000 in
set_option maxHeartbeats 8000000 in
theorem rtext_at(bits:Int)(n:Nat)(l:List TR){rl room:List (List D)}(hok:SpOk n l)(h:rl=l.map drow):FSpec Try.prog T 41 [.agg [.i .i64 bits,.lst 58 rl room]] (fun d _=>d = .s (textS (l.map TR.t))):=by
 subst h
 have hll:(l.map drow).length=l.length:=by simp
 have hln:=hok.len
 have hn:=hok.n256
 refine FSpec.of_ok tok Try.func41 rfl Try.call41 (by simp) ?_
 (try (conv=>whnf));repeat' (first|refine Ok.seq ?_|((first|refine Ok.region tok ?_|refine Ok.cond ?_);conv=>whnf)|refine Ok.block ?_|((first|refine Ok.skip ?_|refine Ok.ret ?_);conv=>whnf)|(refine bI ?_ ?_<;>intro<;>(conv=>whnf)<;>(try (exfalso;omega)))|fail)
 . rename_i h
   refine Or.inl ?_;(conv=>whnf)
   have:l=[]:=List.eq_nil_of_length_eq_zero (by omega)
   subst this
   unfold textS
   rw[if_pos (by rfl)]
   rfl
 . rename_i h
   have hne:l.map TR.t ≠ []:=fun e=>h (by have:=congrArg List.length e;simp at this;simp[this])
   refine Ok.ghost 3 5 rfl ?_
   (conv=>whnf)
   refine Ok.loopU [1] [3,4] 1 1 (fun (i:Nat)=>[.own 0 (sepT ((l.map TR.t).take i)).length,.i .i64 (i:Nat)]) (fun _ b=>b) (fun (i:Nat) (_:Vx.Rows)=>[some (5,(sepT ((l.map TR.t).take i)).map bcell)]) (fun (i:Nat)=>i<=l.length) (fun (i:Nat)=>l.length - i) (0) (Nat.zero_le _) ?_;(conv=>whnf);refine⟨by ((conv=>whnf);first|rfl|(simp[envCat,List.take_of_length_le,srow,drow,trow,bcell,sepT_nil,tTail_nil];done)|(simp[envCat,List.take_of_length_le,srow,drow,trow,bcell,sepT_nil,tTail_nil];rw[IntKind.wrap_i64];omega)),?_⟩
   rintro i hi
   have hsl:=hok.sep i
   have hsm:((sepT ((l.map TR.t).take i)).map bcell).length=(sepT ((l.map TR.t).take i)).length:=List.length_map _
   (conv=>whnf)
   by_cases hil:i<l.length
   . obtain⟨x,hx⟩:∃ x,l[i]? = some x:=⟨_,List.getElem?_eq_getElem hil⟩
     have hxm:=List.mem_of_getElem? hx
     have hxw:=hok.wide x hxm
     have hpl:x.t.p.length<=256:=by rw[hxw.1];exact hn
     have hxl:(x.t.less.map srow).length=x.t.less.length:=by simp
     have hxn:=hok.less hxm
     have hxt:(l.map TR.t)[i]? = some x.t:=by simp[hx]
     have hstep:=sepT_step hxt
     have hpre:=hok.pre i
     have hjoin:∀ (s:St) (Q:Exit->St->Prop) (c:Code),True:=fun _ _ _=>trivial
     by_cases hi0:i=0
     . have hp0:preT (l.map TR.t) i=[]:=by rw[hi0];rfl
       have hs0:sepT ((l.map TR.t).take i)=[]:=by rw[hi0];rfl
       rw[hs0] at hsl hsm ⊢
       rw[hp0] at hpre hstep
       (conv=>whnf)
       (try (conv=>whnf));repeat' (first|((refine And.intro byteT ?_);conv=>whnf)|refine Ok.seq ?_|((first|refine Ok.region tok ?_|refine Ok.cond ?_);conv=>whnf)|refine Ok.block ?_|((first|refine Ok.skip ?_|refine ix _ (by assumption) ?_|refine⟨_,_,rfl,rfl,?_⟩);conv=>whnf)|(refine bI ?_ ?_<;>intro<;>(conv=>whnf)<;>(try (exfalso;omega)))|(refine aJ ?_;conv=>whnf)|fail)
       refine Ok.loopU [1,4] [3,5] 1 1 (fun (j:Nat)=>[.own 0 (([]:Str)++x.t.p++tTail (x.t.less.take j)).length,.i .i64 (j:Nat)]) (fun _ b=>b) (fun (j:Nat) (_:Vx.Rows)=>[some (5,(([]:Str)++x.t.p++tTail (x.t.less.take j)).map bcell)]) (fun (j:Nat)=>j<=x.t.less.length) (fun (j:Nat)=>x.t.less.length - j) (0) (Nat.zero_le _) ?_;(conv=>whnf);refine⟨by ((conv=>whnf);first|rfl|(simp[envCat,List.take_of_length_le,srow,drow,trow,bcell,sepT_nil,tTail_nil];done)|(simp[envCat,List.take_of_length_le,srow,drow,trow,bcell,sepT_nil,tTail_nil];rw[IntKind.wrap_i64];omega)),?_⟩
       rintro j hj
       have htl:=hok.tail hxm j
       have hFl:(([]:Str)++x.t.p++tTail (x.t.less.take j)).length<=257*1048576+1+256+257*1048576:=by rw[List.length_append,List.length_append];omega
       have hFm:((([]:Str)++x.t.p++tTail (x.t.less.take j)).map bcell).length=(([]:Str)++x.t.p++tTail (x.t.less.take j)).length:=List.length_map _
       (conv=>whnf)
       by_cases hjl:j<x.t.less.length
       . obtain⟨m,hm⟩:∃ m,x.t.less[j]? = some m:=⟨_,List.getElem?_eq_getElem hjl⟩
         have hml:m.length<=256:=by rw[hxw.2 m (List.mem_of_getElem? hm)];exact hn
         have hmI:x.t.less[((j:Nat):Int).toNat]? = some m:=hm
         have hts:=tTail_snoc hm
         (try (conv=>whnf));repeat' (first|((refine And.intro byteT ?_);conv=>whnf)|refine Ok.seq ?_|((first|refine Ok.region tok ?_|refine Ok.cond ?_);conv=>whnf)|refine Ok.block ?_|((first|refine Ok.skip ?_|refine nI ?_|refine ix _ (by assumption) ?_|refine Alt2.l (aI ?_)|refine⟨_,.inl ⟨rfl,rfl⟩,?_⟩|refine⟨_,_,rfl,rfl,?_⟩);conv=>whnf)|(refine bI ?_ ?_<;>intro<;>(conv=>whnf)<;>(try (exfalso;omega)))|(refine aJ ?_;conv=>whnf)|fail)
         refine⟨j+1,by omega,by omega,?_⟩
         rw[hts,<- List.append_assoc,<- List.append_assoc]
         generalize hF:([]:Str)++x.t.p++tTail (x.t.less.take j)=F at *
         (conv=>whnf)
         simp[envCat,bcell]
       . have hje:j=x.t.less.length:=by omega
         subst hje
         rw[List.take_length]
         (try (conv=>whnf));repeat' (first|refine Ok.seq ?_|((first|refine Ok.region tok ?_|refine Ok.cond ?_|refine Ok.exit ?_|refine nI ?_|refine ix _ (by assumption) ?_);conv=>whnf)|(refine bI ?_ ?_<;>intro<;>(conv=>whnf)<;>(try (exfalso;omega)))|fail)
         refine⟨i+1,by omega,by omega,?_⟩
         rw[hstep]
         unfold ttxt
         rw[<- List.append_assoc]
         (conv=>whnf)
         rfl
     . have hp0:preT (l.map TR.t) i=sepT ((l.map TR.t).take i)++[43]:=by unfold preT;rw[if_neg hi0]
       rw[hp0] at hpre hstep
       (conv=>whnf)
       (try (conv=>whnf));repeat' (first|((refine And.intro byteT ?_);conv=>whnf)|refine Ok.seq ?_|((first|refine Ok.region tok ?_|refine Ok.cond ?_);conv=>whnf)|refine Ok.block ?_|((first|refine Ok.skip ?_|refine ix _ (by assumption) ?_|refine Alt2.l (aI ?_)|refine⟨_,.inl ⟨rfl,rfl⟩,?_⟩|refine⟨_,_,rfl,rfl,?_⟩);conv=>whnf)|(refine bI ?_ ?_<;>intro<;>(conv=>whnf)<;>(try (exfalso;omega)))|(refine aJ ?_;conv=>whnf)|fail)
       refine Ok.loopU [1,4] [3,5] 1 1 (fun (j:Nat)=>[.own 0 ((sepT ((l.map TR.t).take i)++[43])++x.t.p++tTail (x.t.less.take j)).length,.i .i64 (j:Nat)]) (fun _ b=>b) (fun (j:Nat) (_:Vx.Rows)=>[some (5,((sepT ((l.map TR.t).take i)++[43])++x.t.p++tTail (x.t.less.take j)).map bcell)]) (fun (j:Nat)=>j<=x.t.less.length) (fun (j:Nat)=>x.t.less.length - j) (0) (Nat.zero_le _) ?_;(conv=>whnf);refine⟨by ((conv=>whnf);first|rfl|(simp[envCat,List.take_of_length_le,srow,drow,trow,bcell,sepT_nil,tTail_nil];done)|(simp[envCat,List.take_of_length_le,srow,drow,trow,bcell,sepT_nil,tTail_nil];rw[IntKind.wrap_i64];omega)),?_⟩
       rintro j hj
       have htl:=hok.tail hxm j
       have hFl:((sepT ((l.map TR.t).take i)++[43])++x.t.p++tTail (x.t.less.take j)).length<=257*1048576+1+256+257*1048576:=by rw[List.length_append,List.length_append];omega
       have hFm:(((sepT ((l.map TR.t).take i)++[43])++x.t.p++tTail (x.t.less.take j)).map bcell).length=((sepT ((l.map TR.t).take i)++[43])++x.t.p++tTail (x.t.less.take j)).length:=List.length_map _
       (conv=>whnf)
       by_cases hjl:j<x.t.less.length
       . obtain⟨m,hm⟩:∃ m,x.t.less[j]? = some m:=⟨_,List.getElem?_eq_getElem hjl⟩
         have hml:m.length<=256:=by rw[hxw.2 m (List.mem_of_getElem? hm)];exact hn
         have hmI:x.t.less[((j:Nat):Int).toNat]? = some m:=hm
         have hts:=tTail_snoc hm
         (try (conv=>whnf));repeat' (first|((refine And.intro byteT ?_);conv=>whnf)|refine Ok.seq ?_|((first|refine Ok.region tok ?_|refine Ok.cond ?_);conv=>whnf)|refine Ok.block ?_|((first|refine Ok.skip ?_|refine nI ?_|refine ix _ (by assumption) ?_|refine Alt2.l (aI ?_)|refine⟨_,.inl ⟨rfl,rfl⟩,?_⟩|refine⟨_,_,rfl,rfl,?_⟩);conv=>whnf)|(refine bI ?_ ?_<;>intro<;>(conv=>whnf)<;>(try (exfalso;omega)))|(refine aJ ?_;conv=>whnf)|fail)
         refine⟨j+1,by omega,by omega,?_⟩
         rw[hts,<- List.append_assoc,<- List.append_assoc]
         generalize hF:(sepT ((l.map TR.t).take i)++[43])++x.t.p++tTail (x.t.less.take j)=F at *
         (conv=>whnf)
         simp[envCat,bcell]
       . have hje:j=x.t.less.length:=by omega
         subst hje
         rw[List.take_length]
         (try (conv=>whnf));repeat' (first|refine Ok.seq ?_|((first|refine Ok.region tok ?_|refine Ok.cond ?_|refine Ok.exit ?_|refine nI ?_|refine ix _ (by assumption) ?_);conv=>whnf)|(refine bI ?_ ?_<;>intro<;>(conv=>whnf)<;>(try (exfalso;omega)))|fail)
         refine⟨i+1,by omega,by omega,?_⟩
         rw[hstep]
         unfold ttxt
         rw[<- List.append_assoc]
         (conv=>whnf)
         rfl
   . have hie:i=l.length:=by omega
     subst hie
     rw[List.take_of_length_le (by simp)] at hsl hsm ⊢
     (try (conv=>whnf));repeat' (first|refine Ok.seq ?_|((first|refine Ok.region tok ?_|refine Ok.cond ?_|refine Ok.exit ?_);conv=>whnf)|(refine bI ?_ ?_<;>intro<;>(conv=>whnf)<;>(try (exfalso;omega)))|(refine aJ ?_;conv=>whnf)|fail)
     refine⟨sepT (l.map TR.t),take_all bcell _,?_⟩
     (try (conv=>whnf));repeat' (first|(refine Ok.ret ?_;conv=>whnf)|fail)
     refine Or.inl ?_;(conv=>whnf)
     unfold textS
     rw[if_neg hne]
     rfl
end Go.Proofs.Ytaiondckookpiaa
namespace Go.Proofs.Ytaiondckookpiaa
open Go Go.Vx
def bcl(i:Nat):D:=match i with|0=>.nilB 82|_+1=>.bp 1 0
set_option maxRecDepth 100000 in
set_option maxHeartbeats 16000000 in
theorem text2_at(n:Nat)(l:List TR){rl room:List (List D)}(hok:SpOk n l)(h:rl=l.map trow):FSpec Try.prog T 40 [.agg [.i .i64 (n:Int),.lst 52 rl room]] (fun d _=>d = .s (textS (l.map TR.t))):=by
 subst h
 have hll:(l.map trow).length=l.length:=by simp
 have hln:=hok.len
 have hn:=hok.n256
 refine FSpec.of_ok tok Try.func40 rfl Try.call40 (by simp) ?_
 (try (conv=>whnf));repeat' (first|refine Ok.seq ?_|((first|refine Ok.region tok ?_|refine Ok.cond ?_);conv=>whnf)|refine Ok.block ?_|((first|refine Ok.skip ?_|refine Ok.ret ?_);conv=>whnf)|(refine bI ?_ ?_<;>intro<;>(conv=>whnf)<;>(try (exfalso;omega)))|fail)
 . rename_i h
   refine Or.inl ?_;(conv=>whnf)
   have:l=[]:=List.eq_nil_of_length_eq_zero (by omega)
   subst this
   unfold textS
   rw[if_pos (by rfl)]
   rfl
 . rename_i h
   have hne:l.map TR.t ≠ []:=fun e=>h (by have:=congrArg List.length e;simp at this;simp[this])
   have hl0:l ≠ []:=fun e=>hne (by rw[e];rfl)
   have hpos:=hok.pos hl0
   refine Ok.ghostB 1 1 5 rfl rfl ?_
   (conv=>whnf)
   refine Ok.loopU [1,3,12,13] [14] 1 2 (fun (i:Nat)=>[.i .i64 (i:Nat)]) (fun (i:Nat) (_:List (List D))=>[[.i .i64 (n:Int),.lst 52 (l.map trow) room],[bcl i,.own 0 (sepT ((l.map TR.t).take i)).length]]) (fun (i:Nat) (_:Vx.Rows)=>[some (5,(sepT ((l.map TR.t).take i)).map bcell)]) (fun (i:Nat)=>i<=l.length) (fun (i:Nat)=>l.length - i) (0) (Nat.zero_le _) ?_;(conv=>whnf);refine⟨by ((conv=>whnf);first|rfl|(simp[envCat,List.take_of_length_le,srow,drow,trow,bcell,sepT_nil,tTail_nil];done)|(simp[envCat,List.take_of_length_le,srow,drow,trow,bcell,sepT_nil,tTail_nil];rw[IntKind.wrap_i64];omega)),?_⟩
   rintro i hi
   have hsl:=hok.sep i
   have hsm:((sepT ((l.map TR.t).take i)).map bcell).length=(sepT ((l.map TR.t).take i)).length:=List.length_map _
   by_cases hil:i<l.length
   . obtain⟨x,hx⟩:∃ x,l[i]? = some x:=⟨_,List.getElem?_eq_getElem hil⟩
     have hxm:=List.mem_of_getElem? hx
     have hxw:=hok.wide x hxm
     have hpl:x.t.p.length<=256:=by rw[hxw.1];exact hn
     have hxl:(x.t.less.map crow).length=x.t.less.length:=by simp
     have hxn:=hok.less hxm
     have hxt:(l.map TR.t)[i]? = some x.t:=by simp[hx]
     have hstep:=sepT_step hxt
     have hpre:=hok.pre i
     have hkl:x.t.key.length=n*(x.t.less.length+1):=key_len hxw.1 hxw.2
     have hkb:n*(x.t.less.length+1)<=256*1048577:=Nat.mul_le_mul hn (by omega)
     have hkn:n<=n*(x.t.less.length+1):=Nat.le_mul_of_pos_right n (by omega)
     have hkh:x.t.p=(x.t.key.take n).drop 0:=by rw[List.drop_zero];exact (key_head hxw.1).symm
     have hka:∀ (j:Nat) (m:Str),x.t.less[j]? = some m->m=(x.t.key.take (n*(j+1)+n)).drop (n*(j+1)):=fun j m hm=>(key_at hxw.1 hxw.2 hm).symm
     by_cases hi0:i=0
     . have hp0:preT (l.map TR.t) i=[]:=by rw[hi0];rfl
       have hs0:sepT ((l.map TR.t).take i)=[]:=by rw[hi0];rfl
       have hb0:bcl i = .nilB 82:=by rw[hi0];rfl
       rw[hs0] at hsl hsm ⊢
       rw[hb0]
       rw[hp0] at hpre hstep
       (conv=>whnf)
       (try (conv=>whnf));repeat' (first|refine Ok.seq ?_|((first|refine Ok.region tok ?_|refine Ok.cond ?_);conv=>whnf)|refine Ok.block ?_|((first|refine Ok.skip ?_|refine ix _ (by assumption) ?_|refine⟨_,by assumption,?_⟩|refine⟨_,_,rfl,rfl,?_⟩);conv=>whnf)|(refine bI ?_ ?_<;>intro<;>(conv=>whnf)<;>(try (exfalso;omega)))|(refine aJ ?_;conv=>whnf)|fail)
       refine Or.inr (Or.inr (Or.inl ?_));(conv=>whnf);refine⟨_,_,Try.func30,rfl,Try.call30,?_⟩;(conv=>whnf)
       (try (conv=>whnf));repeat' (first|refine Ok.seq ?_|(refine Ok.region tok ?_;conv=>whnf)|fail)
       refine Or.inr (Or.inr (Or.inr (Or.inr ?_)))
       (conv=>whnf)
       refine effW_fresh copyAt rfl ?_
       (conv=>whnf)
       (try (conv=>whnf));repeat' (first|((refine And.intro byteT ?_);conv=>whnf)|refine Ok.seq ?_|(refine Ok.region tok ?_;conv=>whnf)|refine Ok.block ?_|((first|refine Ok.ret ?_|refine⟨_,_,rfl,rfl,?_⟩|refine aJ ?_);conv=>whnf)|fail)
       refine Ok.loopU [1,3,5,12,13,14] [6] 1 3 (fun (j:Nat)=>[.i .i64 (n*(j+1):Nat)]) (fun (j:Nat) (_:List (List D))=>[[.i .i64 (n:Int),.lst 52 (l.map trow) room],[.bp 1 0,.own 0 (([]:Str)++x.t.p++tTail (x.t.less.take j)).length],trow x]) (fun (j:Nat) (_:Vx.Rows)=>[some (5,(([]:Str)++x.t.p++tTail (x.t.less.take j)).map bcell)]) (fun (j:Nat)=>j<=x.t.less.length) (fun (j:Nat)=>x.t.less.length - j) (0) (Nat.zero_le _) ?_;(conv=>whnf);refine⟨by ((conv=>whnf);first|rfl|(simp[envCat,List.take_of_length_le,srow,drow,trow,bcell,sepT_nil,tTail_nil];done)|(simp[envCat,List.take_of_length_le,srow,drow,trow,bcell,sepT_nil,tTail_nil];rw[IntKind.wrap_i64];omega)),?_⟩
       rintro j hj
       have htl:=hok.tail hxm j
       have hFl:(([]:Str)++x.t.p++tTail (x.t.less.take j)).length<=257*1048576+1+256+257*1048576:=by rw[List.length_append,List.length_append];omega
       have hFm:((([]:Str)++x.t.p++tTail (x.t.less.take j)).map bcell).length=(([]:Str)++x.t.p++tTail (x.t.less.take j)).length:=List.length_map _
       have hjn:n*(j+1+1)=n*(j+1)+n:=Nat.mul_succ n (j+1)
       (conv=>whnf)
       by_cases hjl:j<x.t.less.length
       . obtain⟨m,hm⟩:∃ m,x.t.less[j]? = some m:=⟨_,List.getElem?_eq_getElem hjl⟩
         have hml:m.length<=256:=by rw[hxw.2 m (List.mem_of_getElem? hm)];exact hn
         have hts:=tTail_snoc hm
         have hj2:n*(j+1)+n<=n*(x.t.less.length+1):=by rw[<- hjn];exact Nat.mul_le_mul_left n (by omega)
         have hma:=hka j m hm
         generalize hF:([]:Str)++x.t.p++tTail (x.t.less.take j)=F at *
         have hF2:((F++[45]).map bcell).length=(F++[45]).length:=List.length_map _
         generalize hJ:n*(j+1)=J at *
         (try (conv=>whnf));repeat' (first|refine Ok.seq ?_|((first|refine Ok.region tok ?_|refine Ok.cond ?_);conv=>whnf)|refine Ok.block ?_|(refine Ok.skip ?_;conv=>whnf)|(refine bI ?_ ?_<;>intro<;>(conv=>whnf)<;>(try (exfalso;omega)))|fail)
         refine Or.inr (Or.inr (Or.inl ?_));(conv=>whnf);refine⟨_,_,Try.func51,rfl,Try.call51,?_⟩;(conv=>whnf)
         (try (conv=>whnf));repeat' (first|refine Ok.seq ?_|(refine Ok.region tok ?_;conv=>whnf)|fail)
         refine Or.inr (Or.inr (Or.inr (Or.inr ?_)))
         (conv=>whnf)
         refine effW_used copyAt rfl ?_
         (conv=>whnf)
         (try (conv=>whnf));repeat' (first|refine Ok.seq ?_|((first|refine Ok.region tok ?_|refine Ok.ret ?_|refine nI ?_|refine⟨_,by assumption,?_⟩|refine Alt2.l (aI ?_)|refine⟨_,.inl ⟨rfl,rfl⟩,?_⟩|refine⟨_,_,rfl,rfl,?_⟩|refine aJ ?_);conv=>whnf)|fail)
         try refine⟨J,J+n,rfl,(by show ((J:Nat):Int)+(n:Int)=((J+n:Nat):Int);omega),by omega,by omega,m,hma,?_⟩
         (try (conv=>whnf));repeat' (first|fail)
         refine Or.inr (Or.inr (Or.inl ?_));(conv=>whnf);refine⟨_,_,Try.func30,rfl,Try.call30,?_⟩;(conv=>whnf)
         (try (conv=>whnf));repeat' (first|refine Ok.seq ?_|(refine Ok.region tok ?_;conv=>whnf)|fail)
         refine Or.inr (Or.inr (Or.inr (Or.inr ?_)))
         (conv=>whnf)
         refine effW_used copyAt rfl ?_
         (conv=>whnf)
         (try (conv=>whnf));repeat' (first|((refine And.intro byteT ?_);conv=>whnf)|refine Ok.seq ?_|((first|refine Ok.region tok ?_|refine Ok.ret ?_|refine nI ?_|refine⟨_,_,rfl,rfl,?_⟩|refine aJ ?_);conv=>whnf)|fail)
         refine⟨j+1,by omega,by omega,?_⟩
         rw[hjn,hts,<- List.append_assoc,<- List.append_assoc,hF]
         (conv=>whnf)
         simp[envCat,bcell]
       . have hje:j=x.t.less.length:=by omega
         subst hje
         rw[List.take_length]
         (try (conv=>whnf));repeat' (first|refine Ok.seq ?_|((first|refine Ok.region tok ?_|refine Ok.cond ?_|refine Ok.exit ?_|refine nI ?_);conv=>whnf)|(refine bI ?_ ?_<;>intro<;>(conv=>whnf)<;>(try (exfalso;omega)))|fail)
         refine⟨i+1,by omega,by omega,?_⟩
         rw[hstep]
         unfold ttxt
         rw[<- List.append_assoc]
         (conv=>whnf)
         rfl
     . have hp0:preT (l.map TR.t) i=sepT ((l.map TR.t).take i)++[43]:=by unfold preT;rw[if_neg hi0]
       have hb0:bcl i = .bp 1 0:=by cases i with|zero=>exact absurd rfl hi0|succ k=>rfl
       rw[hb0]
       rw[hp0] at hpre hstep
       have hpre2:((sepT ((l.map TR.t).take i)++[43]).map bcell).length=(sepT ((l.map TR.t).take i)++[43]).length:=List.length_map _
       (conv=>whnf)
       (try (conv=>whnf));repeat' (first|refine Ok.seq ?_|((first|refine Ok.region tok ?_|refine Ok.cond ?_);conv=>whnf)|refine Ok.block ?_|((first|refine Ok.skip ?_|refine ix _ (by assumption) ?_);conv=>whnf)|(refine bI ?_ ?_<;>intro<;>(conv=>whnf)<;>(try (exfalso;omega)))|fail)
       refine Or.inr (Or.inr (Or.inl ?_));(conv=>whnf);refine⟨_,_,Try.func51,rfl,Try.call51,?_⟩;(conv=>whnf)
       (try (conv=>whnf));repeat' (first|refine Ok.seq ?_|(refine Ok.region tok ?_;conv=>whnf)|fail)
       refine Or.inr (Or.inr (Or.inr (Or.inr ?_)))
       (conv=>whnf)
       refine effW_used copyAt rfl ?_
       (conv=>whnf)
       (try (conv=>whnf));repeat' (first|refine Ok.seq ?_|((first|refine Ok.region tok ?_|refine Ok.ret ?_|refine⟨_,by assumption,?_⟩|refine Alt2.l (aI ?_)|refine⟨_,.inl ⟨rfl,rfl⟩,?_⟩|refine⟨_,_,rfl,rfl,?_⟩|refine aJ ?_);conv=>whnf)|fail)
       refine Or.inr (Or.inr (Or.inl ?_));(conv=>whnf);refine⟨_,_,Try.func30,rfl,Try.call30,?_⟩;(conv=>whnf)
       (try (conv=>whnf));repeat' (first|refine Ok.seq ?_|(refine Ok.region tok ?_;conv=>whnf)|fail)
       refine Or.inr (Or.inr (Or.inr (Or.inr ?_)))
       (conv=>whnf)
       refine effW_used copyAt rfl ?_
       (conv=>whnf)
       (try (conv=>whnf));repeat' (first|((refine And.intro byteT ?_);conv=>whnf)|refine Ok.seq ?_|(refine Ok.region tok ?_;conv=>whnf)|refine Ok.block ?_|((first|refine Ok.ret ?_|refine⟨_,_,rfl,rfl,?_⟩|refine aJ ?_);conv=>whnf)|fail)
       refine Ok.loopU [1,3,5,12,13,14] [6] 1 3 (fun (j:Nat)=>[.i .i64 (n*(j+1):Nat)]) (fun (j:Nat) (_:List (List D))=>[[.i .i64 (n:Int),.lst 52 (l.map trow) room],[.bp 1 0,.own 0 ((sepT ((l.map TR.t).take i)++[43])++x.t.p++tTail (x.t.less.take j)).length],trow x]) (fun (j:Nat) (_:Vx.Rows)=>[some (5,((sepT ((l.map TR.t).take i)++[43])++x.t.p++tTail (x.t.less.take j)).map bcell)]) (fun (j:Nat)=>j<=x.t.less.length) (fun (j:Nat)=>x.t.less.length - j) (0) (Nat.zero_le _) ?_;(conv=>whnf);refine⟨by ((conv=>whnf);first|rfl|(simp[envCat,List.take_of_length_le,srow,drow,trow,bcell,sepT_nil,tTail_nil];done)|(simp[envCat,List.take_of_length_le,srow,drow,trow,bcell,sepT_nil,tTail_nil];rw[IntKind.wrap_i64];omega)),?_⟩
       rintro j hj
       have htl:=hok.tail hxm j
       have hFl:((sepT ((l.map TR.t).take i)++[43])++x.t.p++tTail (x.t.less.take j)).length<=257*1048576+1+256+257*1048576:=by rw[List.length_append,List.length_append];omega
       have hFm:(((sepT ((l.map TR.t).take i)++[43])++x.t.p++tTail (x.t.less.take j)).map bcell).length=((sepT ((l.map TR.t).take i)++[43])++x.t.p++tTail (x.t.less.take j)).length:=List.length_map _
       have hjn:n*(j+1+1)=n*(j+1)+n:=Nat.mul_succ n (j+1)
       (conv=>whnf)
       by_cases hjl:j<x.t.less.length
       . obtain⟨m,hm⟩:∃ m,x.t.less[j]? = some m:=⟨_,List.getElem?_eq_getElem hjl⟩
         have hml:m.length<=256:=by rw[hxw.2 m (List.mem_of_getElem? hm)];exact hn
         have hts:=tTail_snoc hm
         have hj2:n*(j+1)+n<=n*(x.t.less.length+1):=by rw[<- hjn];exact Nat.mul_le_mul_left n (by omega)
         have hma:=hka j m hm
         generalize hF:(sepT ((l.map TR.t).take i)++[43])++x.t.p++tTail (x.t.less.take j)=F at *
         have hF2:((F++[45]).map bcell).length=(F++[45]).length:=List.length_map _
         generalize hJ:n*(j+1)=J at *
         (try (conv=>whnf));repeat' (first|refine Ok.seq ?_|((first|refine Ok.region tok ?_|refine Ok.cond ?_);conv=>whnf)|refine Ok.block ?_|(refine Ok.skip ?_;conv=>whnf)|(refine bI ?_ ?_<;>intro<;>(conv=>whnf)<;>(try (exfalso;omega)))|fail)
         refine Or.inr (Or.inr (Or.inl ?_));(conv=>whnf);refine⟨_,_,Try.func51,rfl,Try.call51,?_⟩;(conv=>whnf)
         (try (conv=>whnf));repeat' (first|refine Ok.seq ?_|(refine Ok.region tok ?_;conv=>whnf)|fail)
         refine Or.inr (Or.inr (Or.inr (Or.inr ?_)))
         (conv=>whnf)
         refine effW_used copyAt rfl ?_
         (conv=>whnf)
         (try (conv=>whnf));repeat' (first|refine Ok.seq ?_|((first|refine Ok.region tok ?_|refine Ok.ret ?_|refine nI ?_|refine⟨_,by assumption,?_⟩|refine Alt2.l (aI ?_)|refine⟨_,.inl ⟨rfl,rfl⟩,?_⟩|refine⟨_,_,rfl,rfl,?_⟩|refine aJ ?_);conv=>whnf)|fail)
         try refine⟨J,J+n,rfl,(by show ((J:Nat):Int)+(n:Int)=((J+n:Nat):Int);omega),by omega,by omega,m,hma,?_⟩
         (try (conv=>whnf));repeat' (first|fail)
         refine Or.inr (Or.inr (Or.inl ?_));(conv=>whnf);refine⟨_,_,Try.func30,rfl,Try.call30,?_⟩;(conv=>whnf)
         (try (conv=>whnf));repeat' (first|refine Ok.seq ?_|(refine Ok.region tok ?_;conv=>whnf)|fail)
         refine Or.inr (Or.inr (Or.inr (Or.inr ?_)))
         (conv=>whnf)
         refine effW_used copyAt rfl ?_
         (conv=>whnf)
         (try (conv=>whnf));repeat' (first|((refine And.intro byteT ?_);conv=>whnf)|refine Ok.seq ?_|((first|refine Ok.region tok ?_|refine Ok.ret ?_|refine nI ?_|refine⟨_,_,rfl,rfl,?_⟩|refine aJ ?_);conv=>whnf)|fail)
         refine⟨j+1,by omega,by omega,?_⟩
         rw[hjn,hts,<- List.append_assoc,<- List.append_assoc,hF]
         (conv=>whnf)
         simp[envCat,bcell]
       . have hje:j=x.t.less.length:=by omega
         subst hje
         rw[List.take_length]
         (try (conv=>whnf));repeat' (first|refine Ok.seq ?_|((first|refine Ok.region tok ?_|refine Ok.cond ?_|refine Ok.exit ?_|refine nI ?_);conv=>whnf)|(refine bI ?_ ?_<;>intro<;>(conv=>whnf)<;>(try (exfalso;omega)))|fail)
         refine⟨i+1,by omega,by omega,?_⟩
         rw[hstep]
         unfold ttxt
         rw[<- List.append_assoc]
         (conv=>whnf)
         rfl
   . have hie:i=l.length:=by omega
     subst hie
     rw[List.take_of_length_le (by simp)] at hsl hsm ⊢
     have hbl:bcl l.length = .bp 1 0:=by
      have:=List.length_pos_iff.2 hl0
      cases hh:l.length with
      | zero=>omega
      | succ k=>rfl
     rw[hbl]
     (conv=>whnf)
     have htne:sepT (l.map TR.t) ≠ []:=by
      obtain⟨x,hx⟩:∃ x,l[l.length - 1]? = some x:=⟨_,List.getElem?_eq_getElem (by have:=List.length_pos_iff.2 hl0;omega)⟩
      have hxt:(l.map TR.t)[l.length - 1]? = some x.t:=by simp[hx]
      have h1:=sepT_step hxt
      rw[show l.length - 1+1=l.length by have:=List.length_pos_iff.2 hl0;omega,List.take_of_length_le (by simp)] at h1
      rw[h1]
      intro e
      have h2:=(List.append_eq_nil_iff.1 (List.append_eq_nil_iff.1 e).2).1
      have h3:=(hok.wide x (List.mem_of_getElem? hx)).1
      rw[h2] at h3
      simp at h3
      omega
     (try (conv=>whnf));repeat' (first|refine Ok.seq ?_|((first|refine Ok.region tok ?_|refine Ok.cond ?_|refine Ok.exit ?_);conv=>whnf)|(refine bI ?_ ?_<;>intro<;>(conv=>whnf)<;>(try (exfalso;omega)))|fail)
     refine Or.inr (Or.inr (Or.inr (Or.inr ?_)))
     (conv=>whnf)
     refine effW_of_effK (effK_string strAt rfl rfl rfl (by rw[hsm];exact Nat.le_refl _) (take_all bcell _) htne ?_)
     (conv=>whnf)
     (try (conv=>whnf));repeat' (first|(refine Ok.ret ?_;conv=>whnf)|fail)
     refine Or.inl ?_;(conv=>whnf)
     unfold textS
     rw[if_neg hne]
     rfl
end Go.Proofs.Ytaiondckookpiaa
namespace Go.Proofs.Ytaiondckookpiaa
open Go Go.Vx
def OkW(n:Int)(w:Str):Prop:=(w.length:Int)=n/\okC w
def OkP(n:Int)(ms:List (List Str)):Prop:=∀ m ∈ ms,∀ w ∈ m,OkW n w
theorem termT_sz{p:Str}{less:List Str}{t:Term}(h:termT p less=some t):t.less.length<=less.length:=by
 by_cases hk:PK p less=[p]
 . rw[termT_pk0 hk] at h;cases h
 . rw[termT_pk1 hk] at h
   cases h
   have:=PK_len p less less.length
   rwa [List.take_length] at this
structure GoodT(n:Nat)(t:Term):Prop where
 ok:t.Ok n
 p:CN t.p
 less:∀ m ∈ t.less,CN m
theorem metL_mem{p:Str}{less:List Str}{m:Str}(h:m ∈ metL p less):∃ x ∈ less,meetT x p=some m:=by
 obtain⟨x,hx,hm⟩:=List.mem_filterMap.1 h
 exact⟨x,hx,hm⟩
theorem termT_good{p:Str}{less:List Str}{t:Term}{n:Nat}(hp:CN p)(hn:p.length=n)(hl:∀ m ∈ less,CT m)(h:termT p less=some t):GoodT n t/\t.p=p:=by
 have h0:=termT_ok hp.2 h
 subst hn
 refine⟨⟨h0.1,by rw[h0.2];exact hp,fun m hm=>?_⟩,h0.2⟩
 by_cases hk:PK p less=[p]
 . rw[termT_pk0 hk] at h;cases h
 . rw[termT_pk1 hk] at h
   cases h
   obtain⟨x,hx,hm2⟩:=metL_mem (PK_mem hm)
   have h3:=meetT_ct hm2 (hl x hx) hp.1
   exact⟨h3.1,fun e=>h3.2.2 (List.eq_nil_of_length_eq_zero (by rw[<- h3.2.1,e];rfl))⟩
structure Fine(n:Int)(ts:List Term):Prop where
 n0:0<=n
 n1:n<=256
 good:∀ t ∈ ts,GoodT n.toNat t
 sz:szT ts<=128
theorem Fine.nil{n:Int}(h0:0<=n)(h1:n<=256):Fine n []:=⟨h0,h1,by simp,by simp[szT]⟩
theorem szT_len(l:List Term):l.length<=szT l:=szS_len l
theorem szT_mem{l:List Term}{t:Term}(h:t ∈ l):1+t.less.length<=szT l:=szS_mem h
theorem Fine.len{n:Int}{ts:List Term}(h:Fine n ts):ts.length<=128:=Nat.le_trans (szT_len _) h.sz
theorem Fine.less{n:Int}{ts:List Term}(h:Fine n ts){t:Term}(ht:t ∈ ts):t.less.length<=127:=by
 have:=szT_mem ht
 have:=h.sz
 omega
theorem GoodT.tn{n:Nat}{x:TR}(h:GoodT n x.t)(hl:x.t.less.length<=1048576):TN x:=⟨h.p,h.less,hl⟩
theorem GoodT.to{n:Nat}{x:TR}(h:GoodT n x.t)(hl:x.t.less.length<=1048576):TO n x:=⟨h.tn hl,h.ok⟩
theorem mem_of_map{l:List TR}{ts:List Term}(e:l.map TR.t=ts){x:TR}(hx:x ∈ l):x.t ∈ ts:=by rw[<- e];exact List.mem_map_of_mem hx
theorem Fine.to{n:Int}{ts:List Term}(h:Fine n ts){l:List TR}(e:l.map TR.t=ts):∀ x ∈ l,TO n.toNat x:=fun x hx=>
 (h.good _ (mem_of_map e hx)).to (Nat.le_trans (h.less (mem_of_map e hx)) (by decide))
theorem Fine.sp{n:Int}{ts:List Term}(h:Fine n ts){l:List TR}(e:l.map TR.t=ts):SpOk n.toNat l:=by
 refine⟨by have:=h.n1;omega,?_,fun x hx=>(h.good _ (mem_of_map e hx)).ok.wide,fun hne=>?_⟩
 . rw[<- szS_eq,e];exact Nat.le_trans h.sz (by decide)
 . cases l with
   | nil=>exact absurd rfl hne
   | cons x l=>exact (h.good _ (mem_of_map e (List.mem_cons_self ..))).ok.pos
theorem Fine.form{n:Int}{l:List Term}(h0:0<=n)(h1:n<=256)(hg:∀ t ∈ l,GoodT n.toNat t)(hs:szT (formT l)<=128):Fine n (formT l):=
 ⟨h0,h1,fun t ht=>hg t (formT_mem ht),hs⟩
end Go.Proofs.Ytaiondckookpiaa
namespace Go.Proofs.Ytaiondckookpiaa
open Go Go.Vx
set_option maxHeartbeats 4000000 in
theorem rcube_at(s:Str):FSpec Try.prog T 11 [.s s] (fun r _=>r = .b (okC s)):=by
 refine FSpec.of_ok tok Try.func11 rfl Try.call11 (by simp) ?_
 (try (conv=>whnf));repeat' (first|refine Ok.seq ?_|((first|refine Ok.region tok ?_|refine Ok.cond ?_);conv=>whnf)|refine Ok.block ?_|((first|refine Ok.skip ?_|refine Ok.ret ?_);conv=>whnf)|(refine bI ?_ ?_<;>intro<;>(conv=>whnf)<;>(try (exfalso;omega)))|fail)
 . rename_i h
   refine Or.inl ?_;(conv=>whnf)
   show D.b False=_
   exact congrArg D.b (propext ⟨fun h=>h.elim,fun h2=>h2.2 (List.eq_nil_of_length_eq_zero (by omega))⟩)
 . rename_i h h2
   refine Or.inl ?_;(conv=>whnf)
   show D.b False=_
   exact congrArg D.b (propext ⟨fun h=>h.elim,fun h3=>absurd h3.1.len (by omega)⟩)
 . rename_i h h2
   have hl:s.length<=256:=by omega
   have hne:s ≠ []:=fun e=>by rw[e] at h;simp at h
   refine Ok.loopU [0] [3] 0 0 (fun (i:Nat)=>[.i .i64 (i:Nat)]) (fun _ b=>b) (fun _ r=>r) (fun (i:Nat)=>i<=s.length/\cubOk (s.take i)) (fun (i:Nat)=>s.length - i) (0) (⟨Nat.zero_le _,by simp[cubOk]⟩) ?_;(conv=>whnf);refine⟨by ((conv=>whnf);first|rfl|(simp[envCat,List.take_of_length_le,srow];done)|(simp[envCat,List.take_of_length_le,srow];rw[IntKind.wrap_i64];omega)),?_⟩
   rintro i ⟨hi,hall⟩
   (conv=>whnf)
   by_cases hil:i<s.length
   . obtain⟨a,ha⟩:∃ a,s[i]? = some a:=⟨_,List.getElem?_eq_getElem hil⟩
     have haI:s[((i:Nat):Int).toNat]? = some a:=ha
     by_cases hb1:a=48\/a=49\/a=120
     . have hb3:((a.toNat:Nat):Int)=48\/((a.toNat:Nat):Int)=49\/((a.toNat:Nat):Int)=120:=by
         rcases hb1 with rfl|rfl|rfl
         . exact .inl rfl
         . exact .inr (.inl rfl)
         . exact .inr (.inr rfl)
       (try (conv=>whnf));repeat' (first|refine Ok.seq ?_|((first|refine Ok.region tok ?_|refine Ok.cond ?_);conv=>whnf)|refine Ok.block ?_|((first|refine Ok.skip ?_|refine nI ?_|refine⟨_,by assumption,?_⟩);conv=>whnf)|(refine bI ?_ ?_<;>intro<;>(conv=>whnf)<;>(try (exfalso;omega)))|((first|refine aJ ?_|refine num_any ?_);conv=>whnf)|fail)
       all_goals
        refine⟨i+1,by omega,⟨by omega,cubOk_step hall ha hb1⟩,?_⟩
        (conv=>whnf)
        rfl
     . have hb3:=u8_ne (fun e=>hb1 (.inl e):a ≠ 48)
       have hb4:=u8_ne (fun e=>hb1 (.inr (.inl e)):a ≠ 49)
       have hb5:=u8_ne (fun e=>hb1 (.inr (.inr e)):a ≠ 120)
       rw[show (((48:UInt8).toNat:Nat):Int)=48 from rfl] at hb3
       rw[show (((49:UInt8).toNat:Nat):Int)=49 from rfl] at hb4
       rw[show (((120:UInt8).toNat:Nat):Int)=120 from rfl] at hb5
       (try (conv=>whnf));repeat' (first|refine Ok.seq ?_|((first|refine Ok.region tok ?_|refine Ok.cond ?_);conv=>whnf)|refine Ok.block ?_|((first|refine Ok.skip ?_|refine Ok.ret ?_|refine⟨_,by assumption,?_⟩);conv=>whnf)|(refine bI ?_ ?_<;>intro<;>(conv=>whnf)<;>(try (exfalso;omega)))|((first|refine aJ ?_|refine num_any ?_);conv=>whnf)|fail)
       all_goals
        refine Or.inl ?_;(conv=>whnf)
        show D.b False=_
        exact congrArg D.b (propext ⟨fun h=>h.elim,fun h3=>hb1 (h3.1.cub a (List.mem_of_getElem? ha))⟩)
   . have hie:i=s.length:=by omega
     subst hie
     rw[List.take_length] at hall
     (try (conv=>whnf));repeat' (first|refine Ok.seq ?_|((first|refine Ok.region tok ?_|refine Ok.cond ?_|refine Ok.exit ?_|refine Ok.ret ?_);conv=>whnf)|(refine bI ?_ ?_<;>intro<;>(conv=>whnf)<;>(try (exfalso;omega)))|fail)
     refine Or.inl ?_;(conv=>whnf)
     show D.b True=_
     exact congrArg D.b (propext ⟨fun _=>⟨⟨hl,hall⟩,hne⟩,fun _=>trivial⟩)
end Go.Proofs.Ytaiondckookpiaa
namespace Go.Proofs.Ytaiondckookpiaa
open Go Go.Vx
def DSp(n:Int)(ts:List Term)(d:D):Prop:=∃ (ks:List TR) (rm:List (List D)),d = .agg [.i .i64 n,.lst 58 (ks.map drow) rm]/\ks.map TR.t=ts
def DOut(o:Int × Int × List Term)(d:D)(rows:Vx.Rows):Prop:=rows=[]/\∃ a,d = .tup [a,.i .i64 o.1]/\DSp o.2.1 o.2.2 a
theorem DSp.nil(n:Int):DSp n [] (.agg [.i .i64 n,.lst 58 [] []]):=⟨[],[],rfl,rfl⟩
end Go.Proofs.Ytaiondckookpiaa
namespace Go.Proofs.Ytaiondckookpiaa
open Go Go.Vx Go.RowKit
theorem ours_nil(w:World):Calls Try.prog 15 #[.nilIface] w fun e w'=>e = .returned (.bool false)/\w'=w:=by
 go_enter Try.func15,Try.ntmps15
 go_wp2
 go_ret
 exact⟨rfl,rfl⟩
theorem as_passed(w:World):(Instr.typeAssert (.iface 68 (.agg #[])) 20 68 true).run Try.prog w = .ok (.tuple #[.agg #[],.bool true]) w:=by kernel_rfl
set_option maxRecDepth 100000 in
theorem ours_passed(w:World):Calls Try.prog 15 #[.iface 68 (.agg #[])] w fun e w'=>e = .returned (.bool true)/\Ext w w':=by
 go_enter Try.func15,Try.ntmps15
 go_wp2_with (rw[as_passed])
 go_ret
 exact⟨rfl,Ext.alloc _ _⟩
theorem run_store2{t:TypeId}{p:Addr}{w w':World}{z:List Value}{x y:Operand}{a:Act}{dst:Option Nat}{type:TypeId}{pos:String}{after:Array Edge}(hsz:∀ w,(sizeOf t).run Try.prog w = .ok z.length w)(hx:a.eval x = .pointer (some p))(hy:(a.eval y).cells=z.toArray)(h:(storeCells p z).run Try.prog w = .ok () w') :
    (execOp a.eval ⟨dst,.store t x y,type,pos,after,none⟩).run Try.prog w = .ok .skip w':=by
 simp[execOp,Instr.storeAt,hx,hy,Instr.sureAddr,storeVar,hsz,h]
theorem run_build2{e:Operand->Value}{dst:Option Nat}{type:TypeId}{pos:String}{after:Array Edge}{w:World}:(execOp e ⟨dst,.build 34 #[],type,pos,after,none⟩).run Try.prog w = .ok (.value (.agg #[.int .i64 0,.slice none 0 0])) w:=by
 have h:(Instr.build 34 #[]).run Try.prog w = .ok (.agg #[.int .i64 0,.slice none 0 0]) w:=by kernel_rfl
 simp[execOp,h]
end Go.Proofs.Ytaiondckookpiaa
namespace Go.Proofs.Ytaiondckookpiaa
open Go Go.Vx Go.Shelf
def PSp(n:Int)(ts:List Term)(d:D):Prop:=∃ (ks:List TR) (rm:List (List D)),d = .agg [.i .i64 n,.lst 52 (ks.map trow) rm]/\ks.map TR.t=ts
def POut(o:Int × Int × List Term)(d:D)(rows:Vx.Rows):Prop:=rows=[]/\∃ a,d = .tup [a,.i .i64 o.1]/\PSp o.2.1 o.2.2 a
theorem PSp.nil(n:Int):PSp n [] (.agg [.i .i64 n,.lst 52 [] []]):=⟨[],[],rfl,rfl⟩
end Go.Proofs.Ytaiondckookpiaa
namespace Go.Proofs.Ytaiondckookpiaa
open Go Go.Vx
theorem num_at(e:Int):FSpec Try.prog T 21 [.i .i64 e] (fun r _=>r = .i .i64 e):=by
 refine FSpec.of_ok tok Try.func21 rfl Try.call21 (by simp) ?_
 (try (conv=>whnf));repeat' (first|refine Ok.seq ?_|((first|refine Ok.region tok ?_|refine Ok.ret ?_);conv=>whnf)|fail)
 refine Or.inl ?_;(conv=>whnf)
 rfl
theorem Fine.cast{n:Int}{ts:List Term}(h:Fine n ts):((n.toNat:Nat):Int)=n:=by have:=h.n0;omega
theorem Fine.mlen{n:Int}{ts:List Term}(h:Fine n ts){l:List TR}(e:l.map TR.t=ts):l.length<=1048576:=by
 have:=h.len
 rw[<- e,List.length_map] at this
 omega
theorem Fine.mless{n:Int}{ts:List Term}(h:Fine n ts){l:List TR}(e:l.map TR.t=ts):∀ x ∈ l,x.t.less.length<=1048576:=fun x hx=>Nat.le_trans (h.less (mem_of_map e hx)) (by decide)
set_option maxHeartbeats 4000000 in
theorem like_at{n:Int}{ts:List Term}(hf:Fine n ts)(ks ks2:List TR)(rm rm2:List (List D))(h1:ks.map TR.t=ts)(h2:ks2.map TR.t=ts):FSpec Try.prog T 22 [.agg [.i .i64 n,.lst 52 (ks.map trow) rm],.agg [.i .i64 n,.lst 58 (ks2.map drow) rm2]] (fun r _=>r = .b True):=by
 have hbits:=bits_at n (.lst 52 (ks.map trow) rm) ⟨_,_,_,rfl⟩
 have hsize:=size_at n ks (room:=rm) (hf.mlen h1) (hf.mless h1) rfl
 have hrsize:=rsize_at n ks2 (room:=rm2) (hf.mlen h2) (hf.mless h2) rfl
 have htext:=text2_at n.toNat ks (room:=rm) (hf.sp h1) rfl
 have hrtext:=rtext_at n n.toNat ks2 (room:=rm2) (hf.sp h2) rfl
 rw[hf.cast] at htext
 rw[h1] at hsize htext
 rw[h2] at hrsize hrtext
 refine FSpec.of_ok tok Try.func22 rfl Try.call22 (by simp) ?_
 (try (conv=>whnf));repeat' (first|refine Ok.seq ?_|((first|refine Ok.region tok ?_|refine Ok.region_draw tok follows (by kernel_rfl) ?_|refine Ok.ret ?_|refine⟨_,by assumption,?_⟩);conv=>whnf)|(refine bI ?_ ?_<;>intro<;>(conv=>whnf)<;>(try (exfalso;omega)))|(refine aJ ?_;conv=>whnf)|fail)
 . refine Or.inl ?_;(conv=>whnf)
   exact congrArg D.b (propext ⟨fun _=>trivial,fun _=>rfl⟩)
 all_goals exact absurd rfl (by assumption)
set_option maxHeartbeats 4000000 in
theorem same_at{n e:Int}{ts:List Term}(hf:Fine n ts)(ks ks2:List TR)(rm rm2:List (List D))(h1:ks.map TR.t=ts)(h2:ks2.map TR.t=ts):FSpec Try.prog T 9 [.agg [.i .i64 n,.lst 52 (ks.map trow) rm],.i .i64 e,.agg [.i .i64 n,.lst 58 (ks2.map drow) rm2],.i .i64 e] (fun r _=>r = .b True):=by
 have hlike:=like_at hf ks ks2 rm rm2 h1 h2
 refine FSpec.of_ok tok Try.func9 rfl Try.call9 (by simp) ?_
 (try (conv=>whnf));repeat' (first|refine Ok.seq ?_|((first|refine Ok.region tok ?_|refine Ok.ret ?_);conv=>whnf)|(refine Or.inl ?_;(conv=>whnf);(repeat (refine aI ?_;conv=>whnf));refine⟨_,hlike,rfl,?_⟩;conv=>whnf)|(refine Or.inl ?_;(conv=>whnf);(repeat (refine aI ?_;conv=>whnf));refine⟨_,num_at e,rfl,?_⟩;conv=>whnf)|(refine bI ?_ ?_<;>intro<;>(conv=>whnf)<;>(try (exfalso;omega)))|fail)
 . refine Or.inl ?_;(conv=>whnf)
   rfl
 all_goals exact absurd rfl (by assumption)
end Go.Proofs.Ytaiondckookpiaa
namespace Go.Proofs.Ytaiondckookpiaa
open Go Go.Vx
def bndO(n:Int)(l:List Term):Int × Int × List Term:=if szT l<=128 then (0,n,l) else (3,0,[])
theorem bndO_fine{n:Int}{l:List Term}(h0:0<=n)(h1:n<=256)(hg:∀ t ∈ l,GoodT n.toNat t):Fine (bndO n (formT l)).2.1 (bndO n (formT l)).2.2:=by
 unfold bndO
 split
 . rename_i h;exact .form h0 h1 hg h
 . exact .nil (by decide) (by decide)
theorem bndO_le{n:Int}{l:List Term}(h:szT l<=128):bndO n l=(0,n,l):=if_pos h
theorem bndO_gt{n:Int}{l:List Term}(h:128<szT l):bndO n l=(3,0,[]):=if_neg (by omega)
theorem DOut.form{n:Int}{l:List Term}{ks:List TR}{rm:List (List D)}(e:ks.map TR.t=formT l)(h:szT (ks.map TR.t)<=128):DOut (bndO n (formT l)) (.tup [.agg [.i .i64 n,.lst 58 (ks.map drow) rm],.i .i64 0]) []:=by
 rw[bndO_le (by rw[<- e];exact h)]
 exact⟨rfl,_,rfl,ks,rm,rfl,e⟩
end Go.Proofs.Ytaiondckookpiaa
namespace Go.Proofs.Ytaiondckookpiaa
open Go Go.Vx
section
variable {α : Type} {R L : α → α → Prop} {r b : α → α → Bool}
def addB(r:α->α->Bool)(k:List α)(x:α):List α:=if k.any (r x)=true then k else k.filter (fun y=>!r y x)++[x]
def grB(r:α->α->Bool)(l:List α):List α:=l.foldl (addB r) []
def insB(b:α->α->Bool)(c:α):List α->List α
 | []=>[c]
 | x :: q=>if b c x=true then c :: x :: q else x :: insB b c q
def srtB(b:α->α->Bool)(l:List α):List α:=l.foldl (fun acc x=>insB b x acc) []
theorem filt_eq(h:∀ x y,R x y ↔ r x y=true)(k:List α)(x:α)[∀ y,Decidable (¬ R y x)]:k.filter (fun y=>decide (¬ R y x))=k.filter (fun y=>!r y x):=by
 refine List.filter_congr fun y _=>?_
 cases hr:r y x with
 | true=>simp[(h y x).2 hr]
 | false=>
  have hn:¬ R y x:=fun e=>by rw[(h y x).1 e] at hr;cases hr
  simp[hn]
theorem any_eq(h:∀ x y,R x y ↔ r x y=true)(k:List α)(x:α):(∃ y ∈ k,R x y) ↔ k.any (r x)=true:=by simp[h]
theorem addG_eq(h:∀ x y,R x y ↔ r x y=true)(k:List α)(x:α):addG R k x=addB r k x:=by
 unfold addG addB
 by_cases hk:k.any (r x)=true
 . rw[if_pos ((any_eq h k x).2 hk),if_pos hk]
 . rw[if_neg (fun e=>hk ((any_eq h k x).1 e)),if_neg hk,filt_eq h]
theorem grG_eq(h:∀ x y,R x y ↔ r x y=true)(l:List α):grG R l=grB r l:=by
 have e:addG R=addB r:=by funext k x;exact addG_eq h k x
 unfold grG grB
 rw[e]
theorem insG_eq(h:∀ x y,L x y ↔ b x y=true)(c:α):∀ l:List α,insG L c l=insB b c l
 | []=>rfl
 | x :: q=>by
  unfold insG insB
  by_cases hk:b c x=true
  . rw[if_pos ((h c x).2 hk),if_pos hk]
  . rw[if_neg (fun e=>hk ((h c x).1 e)),if_neg hk,insG_eq h c q]
theorem srt_eq(h:∀ x y,L x y ↔ b x y=true)(l:List α):srt L l=srtB b l:=by
 unfold srt srtB
 congr 1
 funext acc x
 exact insG_eq h x acc
end
def inB:Str->Str->Bool
 | [],[]=>true
 | a :: c,b :: d=>(b == 120 || b == a) && inB c d
 | _,_=>false
theorem inL_b:∀ c d:Str,inL c d ↔ inB c d=true
 | [],[]=>by simp[inL,inB]
 | [],_ :: _=>by simp[inL,inB]
 | _ :: _,[]=>by simp[inL,inB]
 | a :: c,b :: d=>by simp[inL,inB,inL_b c d]
def inTB(c d:Str):Bool:=!c.isEmpty && inB c d
theorem inT_b(c d:Str):inT c d ↔ inTB c d=true:=by
 unfold inT inTB
 rw[inL_b]
 cases c<;>simp
def covB(t u:Term):Bool:=inTB t.p u.p && u.less.all fun m=>match meetT m t.p with|none=>true|some c=>t.less.any fun n=>inTB c n
theorem covT_b(t u:Term):covT t u ↔ covB t u=true:=by
 unfold covT covB
 rw[inT_b,Bool.and_eq_true,List.all_eq_true]
 refine and_congr_right fun _=>forall_congr' fun m=>forall_congr' fun _=>?_
 cases meetT m t.p with
 | none=>simp
 | some c=>simp[inT_b]
def lexB:List Str->List Str->Bool
 | _,[]=>false
 | [],_ :: _=>true
 | x :: a,y :: b=>Op.bytesLess x y || (x == y && lexB a b)
theorem lexL_b:∀ a b:List Str,lexL a b ↔ lexB a b=true
 | a,[]=>by cases a<;>simp[lexL,lexB]
 | [],_ :: _=>by simp[lexL,lexB]
 | x :: a,y :: b=>by simp[lexL,lexB,lexL_b a b]
def formB(l:List Term):List Term:=srtB (fun t u=>lexB (t.p :: t.less) (u.p :: u.less)) (grB covB l)
theorem formT_b(l:List Term):formT l=formB l:=by
 unfold formT formB
 rw[grG_eq covT_b]
 exact srt_eq (L:=aheadT) (b:=fun t u=>lexB (t.p :: t.less) (u.p :: u.less)) (fun t u=>lexL_b _ _) _
instance (n:Int) (w:Str):Decidable (OkW n w):=decidable_of_iff ((w.length:Int)=n/\(w.length<=256/\∀ b ∈ w,b=48\/b=49\/b=120)/\w ≠ []) ⟨fun h=>⟨h.1,⟨h.2.1.1,h.2.1.2⟩,h.2.2⟩,fun h=>⟨h.1,⟨h.2.1.1,h.2.1.2⟩,h.2.2⟩⟩
instance (n:Int) (ms:List (List Str)):Decidable (OkP n ms):=inferInstanceAs (Decidable (∀ m ∈ ms,∀ w ∈ m,OkW n w))
end Go.Proofs.Ytaiondckookpiaa
namespace Go.Proofs.Ytaiondckookpiaa
open Go Go.Vx Go.RowKit
theorem idle_of(p q:Addr)(w:World):CallsD Try.prog 14 #[.pointer (some p),.pointer (some q)] .returning w fun e u' w'=>e = .returned (.tuple #[])/\u' = .returning/\Ext w w':=by
 refine callsD_of_wpS Try.func14 rfl fun c₀ cs hu=>?_
 apply wpS_seq
 apply wpS_region
 simp[wpOpsS,go_sem,recoverD,hu,Try.ntmps14,Exit.thenS]
 refine (ours_nil w).mono ?_
 rintro e w' ⟨rfl,rfl⟩
 refine wpS_cond (t:=false) (by simp[Act.eval,Act.put,Array.replicate]) ?_
 simp only[Bool.false_eq_true,if_false]
 refine wpS_of_wp (wp_skip ?_)
 cases c₀
 simp_all[bodyPostS,results,Try.results14]
 exact Ext.refl _
theorem caught_of(p q:Addr)(w:World){R:Ending->FrameMode->World->Prop}(h:∀ w1,Ext w w1->∃ w2,(storeCells p [.int .i64 0,.slice none 0 0]).run Try.prog w1 = .ok () w2/\∃ w3,(storeCells q [.int .i64 3]).run Try.prog w2 = .ok () w3)
    (hR:∀ w1 w2 w3,Ext w w1->(storeCells p [.int .i64 0,.slice none 0 0]).run Try.prog w1 = .ok () w2->(storeCells q [.int .i64 3]).run Try.prog w2 = .ok () w3->R (.returned (.tuple #[])) (.panicking [{ v:=.iface 68 (.agg #[]),recovered:=true }]) w3) :
    CallsD Try.prog 14 #[.pointer (some p),.pointer (some q)] (.panicking [{ v:=.iface 68 (.agg #[]),recovered:=false }]) w R:=by
 refine callsD_of_wpS Try.func14 rfl fun c₀ cs hu=>?_
 apply wpS_seq
 apply wpS_region
 simp[wpOpsS,go_sem,recoverD,hu,Try.ntmps14,Exit.thenS]
 refine (ours_passed w).mono ?_
 rintro e w1 ⟨rfl,hx⟩
 obtain⟨w2,h1,w3,h2⟩:=h w1 hx
 have hr:=hR w1 w2 w3 hx h1 h2
 refine wpS_cond (t:=true) (by simp[Act.eval,Act.put,Array.replicate]) ?_
 simp only[if_true]
 refine wpS_of_wp ?_
 refine wp_region_lit ?_
 unfold wpList
 rw[if_pos (by simp[Region.wanted])]
 left
 unfold Oper.wp
 rw[run_build2]
 show wpList _ _ _ [_,_] (Act.put _ (some 4) _) w1
 unfold wpList
 rw[if_pos (by simp[Region.wanted])]
 left
 unfold Oper.wp
 rw[run_store2 (p:=p) (z:=[.int .i64 0,.slice none 0 0]) (fun w=>by kernel_rfl) (by simp[Act.eval,Act.put,Array.replicate]) (by simp[Act.eval,Act.put,Array.replicate,Value.cells]) h1]
 show wpList _ _ _ [_] _ w2
 unfold wpList
 rw[if_pos (by simp[Region.wanted])]
 left
 unfold Oper.wp
 rw[run_store2 (p:=q) (z:=[.int .i64 3]) (fun w=>by kernel_rfl) (by simp[Act.eval,Act.put,Array.replicate]) (by simp[Act.eval,Value.cells]) h2]
 show bodyPostS _ _ _ _ _ .normal _ _ w3
 cases c₀
 simp_all[bodyPostS,results,Try.results14]
 try exact rfl
theorem def_of:DefSpec Try.prog 14 (.iface 68 (.agg #[])) [.int .i64 0,.slice none 0 0] [.int .i64 3]:=
 ⟨Try.call14,idle_of,fun p q w h=>caught_of p q w h fun _ _ _ hx h1 h2=>⟨rfl,rfl,_,_,hx,h1,h2⟩⟩
def allC(n:Int):Str:=if n<1\/256<n then [] else List.replicate n.toNat 120
theorem rep_bits(n:Nat)(i:Nat):car (List.replicate n 120) i=false/\one (List.replicate n 120) i=false:=by
 by_cases h:i<n
 . have e:(List.replicate n (120:UInt8))[i]? = some 120:=by simp[List.getElem?_replicate,h]
   rw[(at_b e).1,(at_b e).2]
   exact⟨rfl,rfl⟩
 . exact at_out (by simp;omega)
theorem wof_none{f:Nat->Bool}(h:∀ i,f i=false)(k:Nat):wof f k=0#64:=BitVec.eq_of_getLsbD_eq fun i hi=>by rw[wof_get _ _ _ hi,h];simp
theorem crow_rep(n:Nat):crow (List.replicate n 120)=[.i .i64 n,.i .u64 0,.i .u64 0,.i .u64 0,.i .u64 0,.i .u64 0,.i .u64 0,.i .u64 0,.i .u64 0]:=by
 have h1:=wof_none (fun i=>(rep_bits n i).1)
 have h2:=wof_none (fun i=>(rep_bits n i).2)
 simp only[crow,cells9,h1,h2,List.length_replicate]
 rfl
theorem all_at(n:Int):FSpec Try.prog T 12 [.i .i64 n] (fun d rows=>d = .agg (crow (allC n))/\rows=[]):=by
 refine FSpec.of_ok tok Try.func12 rfl Try.call12 (by simp) ?_
 (try (conv=>whnf));repeat' (first|refine Ok.seq ?_|((first|refine Ok.region tok ?_|refine Ok.cond ?_|refine Ok.skip ?_|refine Ok.ret ?_);conv=>whnf)|(refine bI ?_ ?_<;>intro<;>(conv=>whnf)<;>(try (exfalso;omega)))|fail)
 all_goals
  refine Or.inl ?_;(conv=>whnf)
  refine⟨?_,rfl⟩
  unfold allC
  first
   | (rw[if_pos (by omega),crow_nil];rfl)
   | (rw[if_neg (by omega),crow_rep,Int.toNat_of_nonneg (by omega)];rfl)
open Classical in
noncomputable def ofO(c:Str)(less:List Str):Int × Int × List Term:=
 if 2048<less.length then (2,0,[]) else if (∃ m ∈ less,m.length ≠ c.length)\/c=[] then (11,0,[]) else match termT c less with
  | none=>(0,(c.length:Int),[])
  | some t=>bndO c.length (formT [t])
theorem ofO_long{c:Str}{less:List Str}(h:2048<less.length):ofO c less=(2,0,[]):=by unfold ofO;rw[if_pos h]
theorem ofO_wide{c:Str}{less:List Str}(h:¬ 2048<less.length)(h2:(∃ m ∈ less,m.length ≠ c.length)\/c=[]):ofO c less=(11,0,[]):=by unfold ofO;rw[if_neg h,if_pos h2]
theorem ofO_none{c:Str}{less:List Str}(h:¬ 2048<less.length)(h2:¬ ((∃ m ∈ less,m.length ≠ c.length)\/c=[]))(h3:termT c less=none):ofO c less=(0,(c.length:Int),[]):=by unfold ofO;rw[if_neg h,if_neg h2,h3]
theorem ofO_some{c:Str}{less:List Str}{t:Term}(h:¬ 2048<less.length)(h2:¬ ((∃ m ∈ less,m.length ≠ c.length)\/c=[]))(h3:termT c less=some t):ofO c less=bndO c.length (formT [t]):=by unfold ofO;rw[if_neg h,if_neg h2,h3]
theorem ofO_fine{c:Str}{less:List Str}(hc:CT c)(hl:∀ m ∈ less,CT m):Fine (ofO c less).2.1 (ofO c less).2.2:=by
 by_cases h:2048<less.length
 . rw[ofO_long h];exact Fine.nil (n:=0) (by decide) (by decide)
 by_cases h2:(∃ m ∈ less,m.length ≠ c.length)\/c=[]
 . rw[ofO_wide h h2];exact Fine.nil (n:=0) (by decide) (by decide)
 have hcn:CN c:=⟨hc,fun e=>h2 (.inr e)⟩
 have:=hc.len
 cases ht:termT c less with
 | none=>rw[ofO_none h h2 ht];exact Fine.nil (n:=(c.length:Int)) (by omega) (by omega)
 | some t=>
  rw[ofO_some h h2 ht]
  exact bndO_fine (n:=(c.length:Int)) (by omega) (by omega) (fun x hx=>by
   simp at hx
   subst hx
   exact (termT_good hcn (by simp) hl ht).1)
end Go.Proofs.Ytaiondckookpiaa
namespace Go.Proofs.Ytaiondckookpiaa
open Go Go.Vx
def NewTO(p:Str)(less:List Str)(d:D)(rows:Vx.Rows):Prop:=
 (termT p less=none/\d = .tup [.agg [.i .i64 0,.i .u64 0,.i .u64 0,.i .u64 0,.i .u64 0,.i .u64 0,.i .u64 0,.i .u64 0,.i .u64 0,.lst 28 [] [],.s []],.b False]/\rows=[]) \/
 ∃ t rm,termT p less=some t/\d = .tup [.agg (crow t.p++[.own 0 t.less.length,.s t.key]),.b True]/\rows=[some (28,t.less.map crow++List.map crow rm)]
set_option maxRecDepth 100000 in
set_option maxHeartbeats 8000000 in
theorem newTermO_at(p:Str)(lss:List LR){rl room:List (List D)}(hp:CN p)(hok:∀ x ∈ lss,∀ m ∈ x.l,CT m)(hn:(allL lss).length<=100000)(h1:lss.length<=100000)(h:rl=lss.map lrow) :
    FSpec Try.prog T 16 [.agg (crow p),.lst 23 rl room] (NewTO p (allL lss)):=by
 subst h
 have hll:(lss.map lrow).length=lss.length:=by simp
 refine FSpec.of_ok tok Try.func16 rfl Try.call16 (by simp) ?_
 (try (conv=>whnf));repeat' (first|refine Ok.seq ?_|(refine Ok.region tok ?_;conv=>whnf)|refine Ok.block ?_|fail)
 refine Ok.ghost 6 28 rfl ?_
 (conv=>whnf)
 refine Ok.loopU [2,4,21,22] [6,23] 1 2 (fun (i:Nat)=>[.own 0 (metL p (allL (lss.take i))).length,.i .i64 (i:Nat)]) (fun _ b=>b) (fun (i:Nat) (_:Vx.Rows)=>[some (28,(metL p (allL (lss.take i))).map crow)]) (fun (i:Nat)=>i<=lss.length) (fun (i:Nat)=>lss.length - i) (0) (Nat.zero_le _) ?_;(conv=>whnf);refine⟨by ((conv=>whnf);first|rfl|(simp[envCat,List.take_of_length_le,cells9,crow,trow2,kf_zero];done)|(simp[envCat,List.take_of_length_le,cells9,crow,trow2,kf_zero];rw[IntKind.wrap_i64];omega)),?_⟩
 rintro i hi
 (conv=>whnf)
 by_cases hil:i<lss.length
 . obtain⟨x,hx⟩:∃ x,lss[i]? = some x:=⟨_,List.getElem?_eq_getElem hil⟩
   have hxo:=hok x (List.mem_of_getElem? hx)
   have hxl:(x.l.map crow).length=x.l.length:=by simp
   have hat:=allL_take hx
   have hxl2:x.l.length<=100000:=by have:=allL_le2 hx x.l.length;rw[List.take_length,List.length_append] at this;omega
   (try (conv=>whnf));repeat' (first|refine Ok.seq ?_|((first|refine Ok.region tok ?_|refine Ok.cond ?_);conv=>whnf)|refine Ok.block ?_|((first|refine Ok.skip ?_|refine ix _ (by assumption) ?_);conv=>whnf)|(refine bI ?_ ?_<;>intro<;>(conv=>whnf)<;>(try (exfalso;omega)))|fail)
   refine Ok.loopU [2,4,21,22,23,27,28] [6,29] 1 2 (fun (j:Nat)=>[.own 0 (metL p (allL (lss.take i)++x.l.take j)).length,.i .i64 (j:Nat)]) (fun _ b=>b) (fun (j:Nat) (_:Vx.Rows)=>[some (28,(metL p (allL (lss.take i)++x.l.take j)).map crow)]) (fun (j:Nat)=>j<=x.l.length) (fun (j:Nat)=>x.l.length - j) (0) (Nat.zero_le _) ?_;(conv=>whnf);refine⟨by ((conv=>whnf);first|rfl|(simp[envCat,List.take_of_length_le,cells9,crow,trow2,kf_zero];done)|(simp[envCat,List.take_of_length_le,cells9,crow,trow2,kf_zero];rw[IntKind.wrap_i64];omega)),?_⟩
   rintro j hj
   have hle:=allL_le2 hx j
   have hle2:=metL_le p (allL (lss.take i)++x.l.take j)
   generalize hM:metL p (allL (lss.take i)++x.l.take j)=M at *
   have hMl:(M.map crow).length=M.length:=by simp
   (conv=>whnf)
   by_cases hjl:j<x.l.length
   . obtain⟨m,hm⟩:∃ m,x.l[j]? = some m:=⟨_,List.getElem?_eq_getElem hjl⟩
     have hmo:=hxo m (List.mem_of_getElem? hm)
     have hsp:=meet_at m p hmo hp.1
     have hnext:metL p (allL (lss.take i)++x.l.take (j+1))=M++metL p [m]:=by rw[take_snoc hm,<- List.append_assoc,metL_app,hM]
     cases hmt:meetT m p with
     | none=>
      rw[hmt] at hsp
      (try (conv=>whnf));repeat' (first|refine Ok.seq ?_|((first|refine Ok.region tok ?_|refine Ok.cond ?_);conv=>whnf)|refine Ok.block ?_|((first|refine Ok.skip ?_|refine nI ?_|refine ix _ (by assumption) ?_);conv=>whnf)|(refine Or.inr (Or.inl ?_);(conv=>whnf);(repeat (refine aI ?_;conv=>whnf));refine⟨_,hsp,?_⟩;rintro _ _ ⟨rfl,rfl⟩;conv=>whnf)|((first|refine Alt2.l (aI ?_)|refine⟨_,.inl ⟨rfl,rfl⟩,?_⟩|refine⟨_,_,rfl,rfl,?_⟩);conv=>whnf)|(refine bI ?_ ?_<;>intro<;>(conv=>whnf)<;>(try (exfalso;omega)))|(refine aJ ?_;conv=>whnf)|fail)
      . rename_i h2
        exact absurd h2 (by simp)
      . refine⟨j+1,by omega,by omega,?_⟩
        rw[hnext,metL_none hmt,List.append_nil]
        (conv=>whnf)
        rfl
     | some c=>
      rw[hmt] at hsp
      (try (conv=>whnf));repeat' (first|refine Ok.seq ?_|((first|refine Ok.region tok ?_|refine Ok.cond ?_);conv=>whnf)|refine Ok.block ?_|((first|refine Ok.skip ?_|refine nI ?_|refine ix _ (by assumption) ?_);conv=>whnf)|(refine Or.inr (Or.inl ?_);(conv=>whnf);(repeat (refine aI ?_;conv=>whnf));refine⟨_,hsp,?_⟩;rintro _ _ ⟨rfl,rfl⟩;conv=>whnf)|((first|refine Alt2.l (aI ?_)|refine⟨_,.inl ⟨rfl,rfl⟩,?_⟩|refine⟨_,_,rfl,rfl,?_⟩);conv=>whnf)|(refine bI ?_ ?_<;>intro<;>(conv=>whnf)<;>(try (exfalso;omega)))|(refine aJ ?_;conv=>whnf)|fail)
      . refine⟨j+1,by omega,by omega,?_⟩
        rw[hnext,metL_some hmt]
        (conv=>whnf)
        simp[envCat]
      . rename_i h2
        exact absurd rfl h2
   . have hje:j=x.l.length:=by omega
     subst hje
     (try (conv=>whnf));repeat' (first|refine Ok.seq ?_|((first|refine Ok.region tok ?_|refine Ok.cond ?_|refine Ok.exit ?_|refine nI ?_);conv=>whnf)|(refine bI ?_ ?_<;>intro<;>(conv=>whnf)<;>(try (exfalso;omega)))|fail)
     refine⟨i+1,by omega,by omega,?_⟩
     rw[hat]
     rw[List.take_length] at hM
     rw[hM]
     (conv=>whnf)
     rfl
 . have hie:i=lss.length:=by omega
   subst hie
   rw[List.take_length]
   generalize hM:metL p (allL lss)=M
   have hML:M.length<=100000:=by have:=metL_le p (allL lss);rw[hM] at this;omega
   have hMl:(M.map crow).length=M.length:=by simp
   have hMok:∀ c ∈ M,CN c/\c.length=p.length:=by
    intro c hc
    rw[<- hM] at hc
    obtain⟨m,hm1,hm2⟩:=List.mem_filterMap.1 hc
    have hmc:CT m:=by
     unfold allL at hm1
     obtain⟨y,hy1,hy2⟩:=List.mem_flatten.1 hm1
     obtain⟨z,hz1,rfl⟩:=List.mem_map.1 hy1
     exact hok z hz1 m hy2
    have h3:=meetT_ct hm2 hmc hp.1
    have h4:=meetL_len ((meetT_eq h3.2.2).symm.trans hm2)
    exact⟨⟨h3.1,fun e=>hp.2 (by rw[e] at h4;exact List.eq_nil_of_length_eq_zero (by simpa using h4.2))⟩,h4.2.symm⟩
   (try (conv=>whnf));repeat' (first|refine Ok.seq ?_|((first|refine Ok.region tok ?_|refine Ok.cond ?_);conv=>whnf)|refine Ok.block ?_|(refine Ok.exit ?_;conv=>whnf)|(refine Or.inr (Or.inr (Or.inr (Or.inl ?_)));(conv=>whnf);(repeat (refine aI ?_;conv=>whnf));refine⟨_,greatestC_at M (by omega) (fun c hc=>(hMok c hc).1) (take_all crow M) , ?_⟩;rintro _ _ ⟨W,hW,rfl,rfl⟩<;>(refine And.intro (by simp[gRowsP,grounds,D.ground,cells9,crow,trow2,kf_zero]) ?_;conv=>whnf))|(refine bI ?_ ?_<;>intro<;>(conv=>whnf)<;>(try (exfalso;omega)))|fail)
   have hWk:=hW.n
   have hWt:=hW.tk
   have hWw:=hW.w
   rw[List.take_length] at hWk hWt
   have hKM:∀ c ∈ grG inL M,c ∈ M:=grG_sub inL M
   have hvoid:p ∈ grG inL M->termT p (allL lss)=none:=fun h=>termT_void (by rw[hM];exact h)
   have hsome:∀ ks:List Str,p ∉ grG inL M->ks.Perm (grG inL M)->ks.Pairwise (fun t u=>Op.bytesLess u t ≠ true)->termT p (allL lss)=some ⟨p,ks⟩:=fun ks h1 h2 h3=>termT_some (by rw[hM];exact h1) (by rw[hM];exact h2) h3
   generalize hK:grG inL M=K at *
   have hKok:∀ c ∈ K,CN c/\c.length=p.length:=fun c hc=>hMok c (hKM c hc)
   have hKl:K.length<=100000:=by omega
   have hWl:(W.map crow).length=W.length:=by simp
   have hWg:∀ i,i<K.length->W[i]? = K[i]?:=fun i hi=>by
    have:=congrArg (fun z:List Str=>z[i]?) hWt
    simp only[List.getElem?_take,if_pos hi] at this
    exact this
   refine Ok.loopU [2,4,6,48,49] [50] 2 2 (fun (i:Nat)=>[.i .i64 (i:Nat)]) (fun _ b=>b) (fun _ r=>r) (fun (i:Nat)=>i<=K.length/\∀ m ∈ K.take i,m ≠ p) (fun (i:Nat)=>K.length - i) (0) (⟨Nat.zero_le _,by simp⟩) ?_;(conv=>whnf);refine⟨by ((conv=>whnf);first|rfl|(simp[envCat,List.take_of_length_le,cells9,crow,trow2,kf_zero];done)|(simp[envCat,List.take_of_length_le,cells9,crow,trow2,kf_zero];rw[IntKind.wrap_i64];omega)),?_⟩
   rintro i ⟨hi2,hne⟩
   (conv=>whnf)
   by_cases hil2:i<K.length
   . obtain⟨c,hc⟩:∃ c,K[i]? = some c:=⟨_,List.getElem?_eq_getElem hil2⟩
     have hWi:W[((i:Nat):Int).toNat]? = some c:=by rw[toNat_cast,hWg i hil2,hc]
     have hcK:=hKok c (List.mem_of_getElem? hc)
     (try (conv=>whnf));repeat' (first|refine Ok.seq ?_|((first|refine Ok.region tok ?_|refine Ok.cond ?_);conv=>whnf)|refine Ok.block ?_|((first|refine Ok.skip ?_|refine rd rfl (by assumption) ?_);conv=>whnf)|(refine bI ?_ ?_<;>intro<;>(conv=>whnf)<;>(try (exfalso;omega)))|(refine aJ ?_;conv=>whnf)|fail)
     refine⟨_,eqCube,by kernel_rfl,?_⟩
     (conv=>whnf)
     (try (conv=>whnf));repeat' (first|refine Ok.seq ?_|((first|refine Ok.region tok ?_|refine Ok.cond ?_|refine Ok.skip ?_|refine Ok.ret ?_|refine nI ?_);conv=>whnf)|(refine bI ?_ ?_<;>intro<;>(conv=>whnf)<;>(try (exfalso;omega)))|fail)
     . rename_i he
       refine Or.inr (Or.inl ?_);(conv=>whnf)
       refine .inl ⟨hvoid ?_,rfl,rfl⟩
       rw[<- crow_inj hcK.1.1 hp.1 he]
       exact List.mem_of_getElem? hc
     . rename_i he
       refine⟨i+1,by omega,⟨by omega,fun z hz=>?_⟩,?_⟩
       . rw[take_snoc hc] at hz
         rcases List.mem_append.1 hz with hz|hz
         . exact hne z hz
         . simp at hz
           rw[hz]
           intro e
           rw[e] at he
           exact he (eqDs_self p)
       . (conv=>whnf)
         rfl
   . have hie2:i=K.length:=by omega
     subst hie2
     rw[List.take_length] at hne
     have hpK:p ∉ K:=fun h=>hne p h rfl
     (try (conv=>whnf));repeat' (first|refine Ok.seq ?_|((first|refine Ok.region tok ?_|refine Ok.cond ?_);conv=>whnf)|refine Ok.block ?_|((first|refine Ok.exit ?_|refine⟨_,_,rfl,rfl,?_⟩);conv=>whnf)|(refine bI ?_ ?_<;>intro<;>(conv=>whnf)<;>(try (exfalso;omega)))|((first|refine aJ ?_|refine⟨_,rfl,?_⟩);conv=>whnf)|fail)
     refine Ok.loopU [2,4,6,15,62,63] [64] 3 3 (fun (i:Nat)=>[.i .i64 (i:Nat)]) (fun _ b=>b) (fun (i:Nat) (_:Vx.Rows)=>[some (28,M.map crow),some (28,W.map crow),some (77,((K.map dup).take i++List.replicate (K.length - i) ([],[])).map trow2)]) (fun (i:Nat)=>i<=K.length) (fun (i:Nat)=>K.length - i) (0) (Nat.zero_le _) ?_;(conv=>whnf);refine⟨by ((conv=>whnf);first|rfl|(simp[envCat,List.take_of_length_le,cells9,crow,trow2,kf_zero];done)|(simp[envCat,List.take_of_length_le,cells9,crow,trow2,kf_zero];rw[IntKind.wrap_i64];omega)),?_⟩
     rintro i hi3
     have hdl:(K.map dup).length=K.length:=by simp
     have hrl:((K.map dup).take i++List.replicate (K.length - i) (([],[]):Str × Str)).length=K.length:=by simp;omega
     have hrl2:(((K.map dup).take i++List.replicate (K.length - i) (([],[]):Str × Str)).map trow2).length=K.length:=by rw[List.length_map,hrl]
     (conv=>whnf)
     by_cases hil3:i<K.length
     . obtain⟨c,hc⟩:∃ c,K[i]? = some c:=⟨_,List.getElem?_eq_getElem hil3⟩
       have hWi:W[((i:Nat):Int).toNat]? = some c:=by rw[toNat_cast,hWg i hil3,hc]
       have hcK:=hKok c (List.mem_of_getElem? hc)
       have hdi:(K.map dup)[i]? = some (dup c):=by simp[hc]
       have hz:=room_at2 (ks:=K.map dup) (i:=i) (([],[]):Str × Str) hdl (by omega)
       have hst:=room_set2 (z:=(([],[]):Str × Str)) hdl hdi
       generalize hL:(K.map dup).take i++List.replicate (K.length - i) (([],[]):Str × Str)=L at *
       have hL2:∀ y:Str × Str,(L.set i y)[i]? = some y:=fun y=>List.getElem?_set_self (by omega)
       have hL3:∀ y:Str × Str,((L.set i y).map trow2).length=K.length:=fun y=>by simp[hrl]
       (try (conv=>whnf));repeat' (first|refine Ok.seq ?_|((first|refine Ok.region tok ?_|refine Ok.region_plan (id:=24) tok follows [(5,6,[]),(0,9,[]),(4,9,[]),(5,9,[6]),(6,9,[]),(0,12,[]),(2,12,[]),(4,12,[]),(5,12,[]),(6,12,[]),(9,12,[])] [.q 0,.q 1,.q 2,.q 3,.q 4,.q 5,.l 6,.q 7,.q 8,.l 9,.q 10,.q 11,.l 12] (by kernel_rfl) ?_|refine Ok.cond ?_);conv=>whnf)|refine Ok.block ?_|(refine Ok.skip ?_;conv=>whnf)|(refine Or.inl ?_;(conv=>whnf);(repeat (refine aI ?_;conv=>whnf));refine⟨_,text_at c hcK.1.1,rfl,?_⟩;conv=>whnf)|(refine rd rfl (by assumption) ?_;conv=>whnf)|(refine bI ?_ ?_<;>intro<;>(conv=>whnf)<;>(try (exfalso;omega)))|(refine aJ ?_;conv=>whnf)|fail)
       refine st (c,[]) hz (by simp) (by simp[setCells]) ?_
       rw[toNat_cast]
       (try (conv=>whnf));repeat' (first|(refine aJ ?_;conv=>whnf)|fail)
       refine st (c,c) (hL2 (c,[])) (by simp) (by simp[setCells]) ?_
       rw[toNat_cast,set_set_same,show ((c,c):Str × Str)=dup c from rfl,hst]
       (try (conv=>whnf));repeat' (first|((first|refine Ok.region tok ?_|refine nI ?_);conv=>whnf)|fail)
       refine⟨i+1,by omega,by omega,?_⟩
       (conv=>whnf)
       rfl
     . have hie3:i=K.length:=by omega
       subst hie3
       rw[Nat.sub_self,List.replicate_zero,List.append_nil,List.take_of_length_le (by simp)]
       have hkeys:∀ x ∈ ((K.map dup).map trow2).take K.length,∃ l,x[9]? = some (.s l):=by
        intro x hx
        obtain⟨y,_,rfl⟩:=List.mem_map.1 (List.mem_of_mem_take hx)
        exact⟨y.2,rfl⟩
       have hdl2:K.length<=((K.map dup).map trow2).length:=by simp
       (try (conv=>whnf));repeat' (first|(refine Ok.sortSlice tok sort_told (by (conv=>whnf);exact⟨rfl,rfl⟩) rfl rfl rfl hdl2 rfl (by decide) (by decide) hkeys (by omega) ?_)|refine Ok.seq ?_|((first|refine Ok.region tok ?_|refine Ok.cond ?_|refine Ok.exit ?_);conv=>whnf)|(refine bI ?_ ?_<;>intro<;>(conv=>whnf)<;>(try (exfalso;omega)))|fail)
       intro ys hperm hup
       rw[take_all2 (by simp:((K.map dup).map trow2).length=K.length)] at hperm
       rw[drop_all2 (by simp:((K.map dup).map trow2).length=K.length),List.append_nil]
       obtain⟨zs,hz1,rfl⟩:=perm_map_ex hperm _ rfl
       obtain⟨ks,hks,rfl⟩:=perm_map_ex hz1 _ rfl
       have hsort:ks.Pairwise fun t u=>Op.bytesLess u t ≠ true:=by
        unfold RowsUp at hup
        rw[List.pairwise_map,List.pairwise_map] at hup
        refine hup.imp fun {a b} h=>?_
        have h2:=h a b rfl rfl
        rw[h2]
        decide
       have hterm:=hsome ks hpK hks hsort
       have hkl:ks.length=K.length:=hks.length_eq
       have hkok:∀ c ∈ ks,CN c/\c.length=p.length:=fun c hc=>hKok c (hks.mem_iff.1 hc)
       clear hup hperm hz1 hsort hsome hvoid hkeys
       have hpl:=hp.1.len
       (conv=>whnf)
       refine Ok.seq ?_
       (refine Ok.region tok ?_;conv=>whnf)
       refine Ok.ghostB 3 1 5 rfl rfl ?_
       (conv=>whnf)
       (try (conv=>whnf));repeat' (first|refine Ok.seq ?_|(refine Ok.region tok ?_;conv=>whnf)|(refine Or.inl ?_;(conv=>whnf);(repeat (refine aI ?_;conv=>whnf));refine⟨_,text_at p hp.1,rfl,?_⟩;conv=>whnf)|fail)
       refine Or.inr (Or.inr (Or.inl ?_));(conv=>whnf);refine⟨_,_,Try.func30,rfl,Try.call30,?_⟩;(conv=>whnf)
       (try (conv=>whnf));repeat' (first|refine Ok.seq ?_|(refine Ok.region tok ?_;conv=>whnf)|fail)
       refine Or.inr (Or.inr (Or.inr (Or.inr ?_)))
       (conv=>whnf)
       refine effW_fresh copyAt rfl ?_
       (conv=>whnf)
       (try (conv=>whnf));repeat' (first|((refine And.intro byteT ?_);conv=>whnf)|refine Ok.seq ?_|(refine Ok.region tok ?_;conv=>whnf)|refine Ok.block ?_|((first|refine Ok.ret ?_|refine⟨_,_,rfl,rfl,?_⟩|refine aJ ?_);conv=>whnf)|fail)
       refine Ok.loopU [2,4,6,18,88,89] [90] 4 4 (fun (i:Nat)=>[.i .i64 (i:Nat)]) (fun (i:Nat) (_:List (List D))=>[crow p,tzero,[.own 2 K.length],[.bp 3 0,.own 3 (kf p ks i).length]]) (fun (i:Nat) (_:Vx.Rows)=>[some (28,M.map crow),some (28,(ks.take i++W.drop i).map crow),some (77,(ks.map dup).map trow2),some (5,(kf p ks i).map bcell)]) (fun (i:Nat)=>i<=K.length) (fun (i:Nat)=>K.length - i) (0) (Nat.zero_le _) ?_;(conv=>whnf);refine⟨by ((conv=>whnf);first|rfl|(simp[envCat,List.take_of_length_le,cells9,crow,trow2,kf_zero];done)|(simp[envCat,List.take_of_length_le,cells9,crow,trow2,kf_zero];rw[IntKind.wrap_i64];omega)),?_⟩
       rintro i hi4
       have hfl:(kf p ks i).length<=256+100000*256:=kf_len hpl (fun c hc=>(hkok c hc).1.1.len) (by omega)
       have hbl:((kf p ks i).map bcell).length=(kf p ks i).length:=List.length_map _
       have htl:((ks.map dup).map trow2).length=K.length:=by simp[hkl]
       have hml:((ks.take i++W.drop i).map crow).length=W.length:=by simp;omega
       have hml2:∀ y,(((ks.take i++W.drop i).set i y).map crow).length=W.length:=fun y=>by simp;omega
       (conv=>whnf)
       by_cases hil4:i<K.length
       . obtain⟨c,hc⟩:∃ c,ks[i]? = some c:=⟨_,List.getElem?_eq_getElem (by omega)⟩
         have hco:=hkok c (List.mem_of_getElem? hc)
         have hcl:=hco.1.1.len
         have hdi:(ks.map dup)[((i:Nat):Int).toNat]? = some (dup c):=by simp[hc]
         obtain⟨y,hy⟩:=over_at (ks:=ks) (W:=W) (i:=i) (by omega) (by omega)
         have hst:=over_set (W:=W) hc (by omega)
         have hnx:=kf_step (p:=p) hc
         (try (conv=>whnf));repeat' (first|refine Ok.seq ?_|((first|refine Ok.region tok ?_|refine Ok.cond ?_);conv=>whnf)|refine Ok.block ?_|((first|refine Ok.skip ?_|refine rd rfl (by assumption) ?_);conv=>whnf)|(refine bI ?_ ?_<;>intro<;>(conv=>whnf)<;>(try (exfalso;omega)))|(refine aJ ?_;conv=>whnf)|fail)
         refine st c hy (by simp) (by simp[setCells,dup]) ?_
         rw[toNat_cast]
         (try (conv=>whnf));repeat' (first|(refine Ok.region tok ?_;conv=>whnf)|fail)
         refine Or.inr (Or.inr (Or.inl ?_));(conv=>whnf);refine⟨_,_,Try.func30,rfl,Try.call30,?_⟩;(conv=>whnf)
         (try (conv=>whnf));repeat' (first|refine Ok.seq ?_|(refine Ok.region tok ?_;conv=>whnf)|fail)
         refine Or.inr (Or.inr (Or.inr (Or.inr ?_)))
         (conv=>whnf)
         refine effW_used copyAt rfl ?_
         (conv=>whnf)
         have hdc:(dup c).2.length<=256:=hcl
         (try (conv=>whnf));repeat' (first|((refine And.intro byteT ?_);conv=>whnf)|refine Ok.seq ?_|((first|refine Ok.region tok ?_|refine Ok.ret ?_|refine nI ?_|refine⟨_,_,rfl,rfl,?_⟩|refine aJ ?_);conv=>whnf)|fail)
         refine⟨i+1,by omega,by omega,?_⟩
         rw[<- hst,hnx]
         (conv=>whnf)
         simp[envCat,dup]
       . have hie4:i=K.length:=by omega
         subst hie4
         (try (conv=>whnf));repeat' (first|refine Ok.seq ?_|((first|refine Ok.region tok ?_|refine Ok.region_plan (id:=35) tok follows [(0,4,[]),(2,4,[])] [.q 0,.q 1,.l 2,.q 3,.l 4,.q 5] (by kernel_rfl) ?_|refine Ok.cond ?_|refine Ok.exit ?_);conv=>whnf)|(refine bI ?_ ?_<;>intro<;>(conv=>whnf)<;>(try (exfalso;omega)))|fail)
         have hkey:=kf_key (p:=p) hkl
         have hne0:kf p ks K.length ≠ []:=kf_ne hp.2
         have htk:((ks.take K.length++W.drop K.length).map crow).take K.length=ks.map crow:=by
          rw[<- hkl,List.take_length,List.map_append]
          exact List.take_left' (by simp)
         refine Or.inr (Or.inr (Or.inr ?_))
         (conv=>whnf)
         refine effK_string strAt rfl rfl rfl (by rw[hbl];exact Nat.le_refl _) (take_all bcell _) hne0 ?_
         (conv=>whnf)
         (try (conv=>whnf));repeat' (first|(refine Ok.ret ?_;conv=>whnf)|fail)
         refine Or.inr (Or.inl ?_);(conv=>whnf)
         refine .inr ⟨⟨p,ks⟩,W.drop K.length,hterm,?_,?_⟩
         . rw[hkey,<- hkl]
           rfl
         . rw[<- List.map_append,<- hkl,List.take_length]
end Go.Proofs.Ytaiondckookpiaa
namespace Go.Proofs.Ytaiondckookpiaa
open Go Go.Vx Go.RowKit
@[reducible] def trowX(t:Term)(xs zs:List (List D)):List D:=[.i .i64 (t.p.length:Int),.i .u64 ((wof (car t.p) 0).toNat:Int),.i .u64 ((wof (car t.p) 1).toNat:Int),.i .u64 ((wof (car t.p) 2).toNat:Int),.i .u64 ((wof (car t.p) 3).toNat:Int),.i .u64 ((wof (one t.p) 0).toNat:Int),.i .u64 ((wof (one t.p) 1).toNat:Int),.i .u64 ((wof (one t.p) 2).toNat:Int),.i .u64 ((wof (one t.p) 3).toNat:Int),.lst 28 xs zs,.s t.key]
theorem Ok.pubN{P:Program}{T:Tab}{s:St}{Q:Exit->St->Prop}{id:Nat}{ops:Array Oper}{dr:Bool}(r:Nat)(h:pubK r s [] fun _ s'=>Ok P T (.region id ops dr) Q s'):Ok P T (.region id ops dr) Q s:=Ok.pub r h
theorem gro_crow(l:List Str):∀ x ∈ l.map crow,grounds x=true:=fun x hx=>by
 obtain⟨c,_,rfl⟩:=List.mem_map.1 hx
 rfl
set_option maxRecDepth 100000 in
set_option maxHeartbeats 8000000 in
theorem ofN_at(c:Str)(less:List Str)(room:List (List D))(hc:CT c)(hl:∀ m ∈ less,CT m) :
    FSpecN Try.prog T 7 [.agg (crow c),.lst 28 (less.map crow) room] (POut (ofO c less)):=by
 have htx:=text_at c hc
 have hlm:(less.map crow).length=less.length:=by simp
 have hcl:=hc.len
 refine FSpecN.of_deferK 8 1 tok Try.func7 rfl Try.call7 (by simp) def_of (zd1:=[.i .i64 0,.nilS]) (zd2:=[.i .i64 3]) rfl rfl (by simp[Value.oneCell']) (by simp[Value.oneCell']) rfl ?_
 by_cases hlong:2048<less.length
 . rw[ofO_long hlong]
   (try (conv=>whnf));repeat' (first|refine Ok.seq ?_|refine OkL.cons ?_|((first|refine Ok.region tok ?_|refine Ok.cond ?_|refine Ok.ret ?_);conv=>whnf)|(refine bI ?_ ?_<;>intro<;>(conv=>whnf)<;>(try (exfalso;omega)))|fail)
   all_goals first
    | (exfalso;omega)
    | ((refine⟨_,Fg.keep [(4,.bp 1 0),(5,.bp 2 0)] (by intro x hx;simp at hx;rcases hx with rfl|rfl<;>exact⟨rfl,rfl⟩) rfl (by trivial),?_⟩;(conv=>whnf));refine Or.inl ?_;(conv=>whnf)
       exact⟨rfl,_,rfl,PSp.nil 0⟩)
 (try (conv=>whnf));repeat' (first|refine OkL.cons ?_|((first|refine Ok.region tok ?_|refine Ok.cond ?_);conv=>whnf)|refine Ok.block ?_|(refine Ok.skip ?_;conv=>whnf)|(refine Or.inl ?_;(conv=>whnf);(repeat (refine aI ?_;conv=>whnf));refine⟨_,htx,rfl,?_⟩;conv=>whnf)|(refine bI ?_ ?_<;>intro<;>(conv=>whnf)<;>(try (exfalso;omega)))|fail)
 all_goals first
  | (exfalso;omega)
  | skip
 refine Ok.loopU [1,2,4,5,6,18,19] [20] 0 3 (fun (i:Nat)=>[.i .i64 (i:Nat)]) (fun (i:Nat) (_:List (List D))=>[crow c,[.i .i64 0,.nilS],[.i .i64 0]]) (fun _ r=>r) (fun (i:Nat)=>i<=less.length/\∀ m ∈ less.take i,m.length=c.length) (fun (i:Nat)=>less.length - i) (0) (⟨Nat.zero_le _,by simp⟩) ?_;(conv=>whnf);refine⟨by ((conv=>whnf);first|rfl|(simp[envCat,List.take_of_length_le,crow,trow,srow,drow,trowX];done)|(simp[envCat,List.take_of_length_le,crow,trow,srow,drow,trowX];rw[IntKind.wrap_i64];omega)),?_⟩
 rintro i ⟨hi,hw⟩
 (conv=>whnf)
 by_cases hil:i<less.length
 . obtain⟨m,hm⟩:∃ m,less[i]? = some m:=⟨_,List.getElem?_eq_getElem hil⟩
   have hmI:less[((i:Nat):Int).toNat]? = some m:=hm
   have hmc:=hl m (List.mem_of_getElem? hm)
   have hmx:=text_at m hmc
   by_cases hml:m.length=c.length
   . (try (conv=>whnf));repeat' (first|refine Ok.seq ?_|((first|refine Ok.region tok ?_|refine Ok.cond ?_);conv=>whnf)|refine Ok.block ?_|((first|refine Ok.skip ?_|refine nI ?_|refine ix _ (by assumption) ?_);conv=>whnf)|(refine Or.inl ?_;(conv=>whnf);(repeat (refine aI ?_;conv=>whnf));refine⟨_,hmx,rfl,?_⟩;conv=>whnf)|(refine bI ?_ ?_<;>intro<;>(conv=>whnf)<;>(try (exfalso;omega)))|fail)
     all_goals first
      | (exfalso;omega)
      | (refine⟨i+1,by omega,⟨by omega,fun x hx=>by
          rw[take_snoc hm] at hx
          rcases List.mem_append.1 hx with hx|hx
          . exact hw x hx
          . simp at hx;rw[hx];exact hml⟩,?_⟩
         (conv=>whnf)
         rfl)
   . rw[ofO_wide hlong (.inl ⟨m,List.mem_of_getElem? hm,hml⟩)]
     (try (conv=>whnf));repeat' (first|refine Ok.seq ?_|((first|refine Ok.region tok ?_|refine Ok.cond ?_);conv=>whnf)|refine Ok.block ?_|((first|refine Ok.skip ?_|refine Ok.ret ?_|refine ix _ (by assumption) ?_);conv=>whnf)|(refine Or.inl ?_;(conv=>whnf);(repeat (refine aI ?_;conv=>whnf));refine⟨_,hmx,rfl,?_⟩;conv=>whnf)|(refine bI ?_ ?_<;>intro<;>(conv=>whnf)<;>(try (exfalso;omega)))|fail)
     all_goals first
      | (exfalso;omega)
      | ((refine⟨_,Fg.keep [(4,.bp 1 0),(5,.bp 2 0)] (by intro x hx;simp at hx;rcases hx with rfl|rfl<;>exact⟨rfl,rfl⟩) rfl (by trivial),?_⟩;(conv=>whnf));refine Or.inl ?_;(conv=>whnf)
         exact⟨rfl,_,rfl,PSp.nil 0⟩)
 have hie:i=less.length:=by omega
 subst hie
 rw[List.take_length] at hw
 by_cases hc0:c=[]
 . rw[ofO_wide hlong (.inr hc0)]
   have hc00:c.length=0:=by rw[hc0];rfl
   (try (conv=>whnf));repeat' (first|refine Ok.seq ?_|refine OkL.cons ?_|((first|refine Ok.region tok ?_|refine Ok.cond ?_|refine Ok.exit ?_|refine Ok.ret ?_);conv=>whnf)|(refine bI ?_ ?_<;>intro<;>(conv=>whnf)<;>(try (exfalso;omega)))|fail)
   all_goals first
    | (exfalso;omega)
    | ((refine⟨_,Fg.keep [(4,.bp 1 0),(5,.bp 2 0)] (by intro x hx;simp at hx;rcases hx with rfl|rfl<;>exact⟨rfl,rfl⟩) rfl (by trivial),?_⟩;(conv=>whnf));refine Or.inl ?_;(conv=>whnf)
       exact⟨rfl,_,rfl,PSp.nil 0⟩)
 have hpos:0<c.length:=List.length_pos_iff.2 hc0
 have h2:¬ ((∃ m ∈ less,m.length ≠ c.length)\/c=[]):=fun h=>h.elim (fun⟨m,hm,hne⟩=>hne (hw m hm)) hc0
 have hcn:CN c:=⟨hc,hc0⟩
 have hnew:∀ rl room,rl=List.map lrow [⟨less,room⟩]->∀ room2,FSpec Try.prog T 16 [.agg (crow c),.lst 23 rl room2] (NewTO c less):=fun rl room h room2=>by
  have:=newTermO_at c [⟨less,room⟩] (room:=room2) hcn (by
   intro x hx m hm
   simp at hx
   subst hx
   exact hl m hm) (by simp[allL];omega) (by simp) h
  rwa [show allL [⟨less,room⟩]=less by simp[allL]] at this
 (try (conv=>whnf));repeat' (first|refine Ok.seq ?_|refine OkL.cons ?_|((first|refine Ok.region tok ?_|refine Ok.cond ?_|refine Ok.skip ?_|refine Ok.exit ?_);conv=>whnf)|(refine bI ?_ ?_<;>intro<;>(conv=>whnf)<;>(try (exfalso;omega)))|fail)
 all_goals first
  | (exfalso;omega)
  | skip
 refine OkL.nil ?_
 (conv=>whnf)
 refine⟨1,2,rfl,rfl,by decide,by decide,by decide,rfl,?_⟩
 have hnb:noneB (c.length:Int)=c.length:=by unfold noneB;rw[if_neg (by omega)]
 cases ht0:termT c less with
 | none=>
  rw[ofO_none hlong h2 ht0]
  (try (conv=>whnf));repeat' (first|refine OkL.cons ?_|(refine Ok.region tok ?_;conv=>whnf)|(refine Or.inr (Or.inl ?_);(conv=>whnf);(repeat (refine aI ?_;conv=>whnf));refine⟨_,hnew _ room (by simp[lrow,List.take_of_length_le,List.drop_of_length_le]) _ , ?_⟩;rintro _ _ (⟨ht,rfl,rfl⟩|⟨t,rm4,ht,rfl,rfl⟩)<;>(conv=>whnf))|fail)
  . (refine OkL.nil ?_;(conv=>whnf);refine⟨_,Fg.keep [(4,.bp 1 0),(5,.bp 2 0),(6,.i .i64 (c.length:Int)),(9,.bp 3 0),(10,.b False),(49,.bp 1 0),(50,.bp 2 0)] (by intro x hx;simp only[List.mem_cons,List.not_mem_nil,or_false] at hx;rcases hx with rfl|rfl|rfl|rfl|rfl|rfl|rfl<;>exact⟨rfl,rfl⟩) rfl ?_,?_⟩)
    . trivial
    (try (conv=>whnf));repeat' (first|refine OkL.cons ?_|((first|refine Ok.region tok ?_|refine Ok.cond ?_|refine Ok.skip ?_|refine Ok.ret ?_);conv=>whnf)|(refine Or.inr (Or.inl ?_);(conv=>whnf);(repeat (refine aI ?_;conv=>whnf));refine⟨_,none_at (c.length:Int),?_⟩;rintro _ _ ⟨rfl,rfl⟩<;>(conv=>whnf))|(refine bI ?_ ?_<;>intro<;>(conv=>whnf)<;>(try (exfalso;omega)))|fail)
    all_goals first
     | (rename_i h;exact absurd trivial h)
     | (rename_i h;cases h;done)
     | (refine Or.inl ?_;(conv=>whnf)
        rw[hnb]
        exact⟨rfl,_,rfl,PSp.nil _⟩)
  . exfalso;rw[ht0] at ht;cases ht
 | some t0=>
  rw[ofO_some hlong h2 ht0]
  obtain⟨hg0,_⟩:=termT_good (n:=c.length) hcn rfl hl ht0
  have hle0:t0.less.length<=1048576:=by have:=termT_sz ht0;omega
  (try (conv=>whnf));repeat' (first|refine OkL.cons ?_|(refine Ok.region tok ?_;conv=>whnf)|(refine Or.inr (Or.inl ?_);(conv=>whnf);(repeat (refine aI ?_;conv=>whnf));refine⟨_,hnew _ room (by simp[lrow,List.take_of_length_le,List.drop_of_length_le]) _ , ?_⟩;rintro _ _ (⟨ht,rfl,rfl⟩|⟨t,rm4,ht,rfl,rfl⟩)<;>(conv=>whnf))|fail)
  . exfalso;rw[ht0] at ht;cases ht
  rw[ht0] at ht
  cases ht
  (refine OkL.nil ?_;(conv=>whnf);refine⟨_,Fg.keep [(4,.bp 1 0),(5,.bp 2 0),(6,.i .i64 (c.length:Int)),(9,.bp 3 0),(10,.b True),(49,.bp 1 0),(50,.bp 2 0)] (by intro x hx;simp only[List.mem_cons,List.not_mem_nil,or_false] at hx;rcases hx with rfl|rfl|rfl|rfl|rfl|rfl|rfl<;>exact⟨rfl,rfl⟩) rfl ?_,?_⟩)
  . exact⟨fun x hx=>by rw[<- List.map_append] at hx;exact gro_crow _ x hx,trivial⟩
  have htk:∀ zs,List.take t0.less.length (List.map crow t0.less++List.map crow zs)=List.map crow t0.less:=fun zs=>List.take_left' (by simp)
  by_cases hsz:szT (formT [t0])<=128
  . rw[bndO_le hsz]
    have hform:∀ xs zs,xs=t0.less.map crow->FSpec Try.prog T 17 [.i .i64 (c.length:Int),.lst 52 [trowX t0 xs zs] []] (fun d rows=>∃ (ks:List TR) (rm:List (List D)),d = .agg [.i .i64 (c.length:Int),.lst 52 (ks.map trow) rm]/\rows=[]/\ks.map TR.t=formT [t0]):=fun xs zs hx=>by
     subst hx
     refine FSpec.mono (form_at (room:=[]) (c.length:Int) c.length [⟨t0,zs⟩] (by simp) (by
      intro x hx
      simp at hx
      subst hx
      exact hg0.to hle0) rfl (by simpa using hsz)) ?_
     rintro d rows ⟨ks,rm,h1,h2,h3,_⟩
     exact⟨ks,rm,h1,h2,by simpa using h3⟩
    (try (conv=>whnf));repeat' (first|(refine Ok.pubN (id:=15) 1 ?_;(conv=>whnf);refine Ok.region tok ?_;(conv=>whnf))|refine Ok.seq ?_|refine OkL.cons ?_|((first|refine Ok.region tok ?_|refine Ok.cond ?_|refine Ok.skip ?_|refine Ok.ret ?_);conv=>whnf)|(refine Or.inr (Or.inl ?_);(conv=>whnf);(repeat (refine aI ?_;conv=>whnf));refine⟨_,hform _ _ (htk _) , ?_⟩;rintro _ _ ⟨ks3,rm3,rfl,rfl,hks3⟩<;>(conv=>whnf))|(refine bI ?_ ?_<;>intro<;>(conv=>whnf)<;>(try (exfalso;omega)))|fail)
    all_goals first
     | (rename_i h;exact absurd trivial h)
     | (rename_i h;cases h;done)
     | (refine Or.inl ?_;(conv=>whnf)
        exact⟨rfl,_,rfl,ks3,rm3,rfl,hks3⟩)
  . rw[bndO_gt (by omega)]
    (try (conv=>whnf));repeat' (first|(refine Ok.pubN (id:=15) 1 ?_;(conv=>whnf);refine Ok.region_pan (id:=15) tok 3 ?_;(conv=>whnf))|refine Ok.seq ?_|refine OkL.cons ?_|((first|refine Ok.region tok ?_|refine Ok.cond ?_|refine Ok.skip ?_);conv=>whnf)|(refine bI ?_ ?_<;>intro<;>(conv=>whnf)<;>(try (exfalso;omega)))|(refine aJ ?_;conv=>whnf)|fail)
    all_goals first
     | (rename_i h;exact absurd trivial h)
     | (rename_i h;cases h;done)
     | skip
    rw[htk]
    refine⟨_,form_pan (c.length:Int) c.length [⟨t0,_⟩] (by simp) (by
     intro x hx
     simp at hx
     subst hx
     exact hg0.to hle0) rfl (by simp;omega),?_⟩
    (conv=>whnf)
    refine⟨rfl,1,2,_,_,rfl,rfl,rfl,rfl,rfl,rfl,by decide,rfl,?_⟩
    (conv=>whnf)
    refine Or.inl ?_;(conv=>whnf)
    exact⟨rfl,_,rfl,PSp.nil 0⟩
end Go.Proofs.Ytaiondckookpiaa
namespace Go.Proofs.Ytaiondckookpiaa
open Go Go.Vx Go.RowKit
theorem ocube_at(w:Str):FSpec Try.prog T 4 [.s w] (fun d rows=>d = .agg (crow (zer w))/\rows=[]):=by
 refine FSpec.of_ok tok Try.func4 rfl Try.call4 (by simp) ?_
 (try (conv=>whnf));repeat' (first|refine Ok.seq ?_|((first|refine Ok.region tok ?_|refine Ok.ret ?_);conv=>whnf)|(refine Or.inr (Or.inl ?_);(conv=>whnf);(repeat (refine aI ?_;conv=>whnf));refine⟨_,parse_at w,?_⟩;rintro _ _ ⟨rfl,rfl⟩<;>(conv=>whnf))|fail)
 refine Or.inl ?_;(conv=>whnf)
 exact⟨rfl,rfl⟩
theorem ozeroed_at(w:Str):FSpec Try.prog T 5 [.s w] (fun d _=>d = .s (zer w)):=by
 refine FSpec.of_ok tok Try.func5 rfl Try.call5 (by simp) ?_
 (try (conv=>whnf));repeat' (first|refine Ok.seq ?_|((first|refine Ok.region tok ?_|refine Ok.cond ?_|refine Ok.skip ?_|refine Ok.ret ?_);conv=>whnf)|(refine Or.inl ?_;(conv=>whnf);(repeat (refine aI ?_;conv=>whnf));refine⟨_,rcube_at w,rfl,?_⟩;conv=>whnf)|(refine bI ?_ ?_<;>intro<;>(conv=>whnf)<;>(try (exfalso;omega)))|fail)
 . rename_i h
   refine Or.inl ?_;(conv=>whnf)
   rw[zer_of h]
   rfl
 . rename_i h
   refine Or.inl ?_;(conv=>whnf)
   rw[zer_not h]
   rfl
theorem mark1_at:FSpec Try.prog T 6 [.i .i64 1,.i .i64 1] (fun d rows=>d = .agg (crow (allC 39))/\rows=[]):=by
 refine FSpec.of_ok tok Try.func6 rfl Try.call6 (by simp) ?_
 (try (conv=>whnf));repeat' (first|refine Ok.seq ?_|((first|refine Ok.region tok ?_|refine Ok.ret ?_|refine nI ?_);conv=>whnf)|(refine Or.inr (Or.inl ?_);(conv=>whnf);(repeat (refine aI ?_;conv=>whnf));refine⟨_,all_at 39,?_⟩;rintro _ _ ⟨rfl,rfl⟩<;>(conv=>whnf))|((first|refine aJ ?_|refine num_any ?_);conv=>whnf)|fail)
 refine Or.inl ?_;(conv=>whnf)
 exact⟨rfl,rfl⟩
theorem mark2_at:FSpec Try.prog T 6 [.i .i64 1,.i .i64 2] (fun d rows=>d = .agg (crow (allC 40))/\rows=[]):=by
 refine FSpec.of_ok tok Try.func6 rfl Try.call6 (by simp) ?_
 (try (conv=>whnf));repeat' (first|refine Ok.seq ?_|((first|refine Ok.region tok ?_|refine Ok.ret ?_|refine nI ?_);conv=>whnf)|(refine Or.inr (Or.inl ?_);(conv=>whnf);(repeat (refine aI ?_;conv=>whnf));refine⟨_,all_at 40,?_⟩;rintro _ _ ⟨rfl,rfl⟩<;>(conv=>whnf))|((first|refine aJ ?_|refine num_any ?_);conv=>whnf)|fail)
 refine Or.inl ?_;(conv=>whnf)
 exact⟨rfl,rfl⟩
theorem formO_one{t:Term}:formT [t]=[t]:=by rw[formT_b];rfl
set_option maxRecDepth 100000 in
set_option maxHeartbeats 8000000 in
theorem rofl_at(c:Str)(less:List Str){rl rm:List (List D)}(hc:CT c)(hl:∀ m ∈ less,CT m)(hn:less.length<=100000)(h:rl=less.map srow) :
    FSpec Try.prog T 8 [.s c,.lst 9 rl rm] (DOut (ofO c less)):=by
 subst h
 have hlm:(less.map srow).length=less.length:=by simp
 have hcl:=hc.len
 refine FSpec.of_ok tok Try.func8 rfl Try.call8 (by simp) ?_
 by_cases hlong:2048<less.length
 . rw[ofO_long hlong]
   (try (conv=>whnf));repeat' (first|refine Ok.seq ?_|((first|refine Ok.region tok ?_|refine Ok.cond ?_|refine Ok.ret ?_);conv=>whnf)|(refine bI ?_ ?_<;>intro<;>(conv=>whnf)<;>(try (exfalso;omega)))|fail)
   all_goals first
    | (exfalso;omega)
    | (refine Or.inl ?_;(conv=>whnf)
       exact⟨rfl,_,rfl,DSp.nil 0⟩)
 by_cases hc0:c=[]
 . rw[ofO_wide hlong (.inr hc0)]
   subst hc0
   (try (conv=>whnf));repeat' (first|refine Ok.seq ?_|((first|refine Ok.region tok ?_|refine Ok.cond ?_);conv=>whnf)|refine Ok.block ?_|((first|refine Ok.skip ?_|refine Ok.ret ?_);conv=>whnf)|(refine bI ?_ ?_<;>intro<;>(conv=>whnf)<;>(try (exfalso;omega)))|fail)
   all_goals first
    | (exfalso;omega)
    | (rename_i h;exact absurd rfl h)
    | (rename_i h;exact absurd trivial h)
    | (refine Or.inl ?_;(conv=>whnf)
       exact⟨rfl,_,rfl,DSp.nil 0⟩)
 have hpos:0<c.length:=List.length_pos_iff.2 hc0
 (try (conv=>whnf));repeat' (first|refine Ok.seq ?_|((first|refine Ok.region tok ?_|refine Ok.cond ?_);conv=>whnf)|refine Ok.block ?_|((first|refine Ok.skip ?_|refine Ok.ret ?_);conv=>whnf)|(refine bI ?_ ?_<;>intro<;>(conv=>whnf)<;>(try (exfalso;omega)))|fail)
 all_goals first
  | (exfalso;omega)
  | (rename_i h;simp at h;exact absurd h hc0)
  | skip
 refine Ok.loopU [0,1,4] [6] 0 1 (fun (i:Nat)=>[.i .i64 (i:Nat)]) (fun (i:Nat) (_:List (List D))=>[[.i .i64 0,.nilS]]) (fun _ r=>r) (fun (i:Nat)=>i<=less.length/\∀ m ∈ less.take i,m.length=c.length) (fun (i:Nat)=>less.length - i) (0) (⟨Nat.zero_le _,by simp⟩) ?_;(conv=>whnf);refine⟨by ((conv=>whnf);first|rfl|(simp[envCat,List.take_of_length_le,crow,srow,drow];done)|(simp[envCat,List.take_of_length_le,crow,srow,drow];rw[IntKind.wrap_i64];omega)),?_⟩
 rintro i ⟨hi,hw⟩
 (conv=>whnf)
 by_cases hil:i<less.length
 . obtain⟨m,hm⟩:∃ m,less[i]? = some m:=⟨_,List.getElem?_eq_getElem hil⟩
   have hmI:less[((i:Nat):Int).toNat]? = some m:=hm
   have hml:=(hl m (List.mem_of_getElem? hm)).len
   by_cases hmw:m.length=c.length
   . (try (conv=>whnf));repeat' (first|refine Ok.seq ?_|((first|refine Ok.region tok ?_|refine Ok.cond ?_);conv=>whnf)|refine Ok.block ?_|((first|refine Ok.skip ?_|refine nI ?_|refine ix _ (by assumption) ?_);conv=>whnf)|(refine bI ?_ ?_<;>intro<;>(conv=>whnf)<;>(try (exfalso;omega)))|fail)
     all_goals first
      | (exfalso;omega)
      | (refine⟨i+1,by omega,⟨by omega,fun x hx=>by
          rw[take_snoc hm] at hx
          rcases List.mem_append.1 hx with hx|hx
          . exact hw x hx
          . simp at hx;rw[hx];exact hmw⟩,?_⟩
         (conv=>whnf)
         rfl)
   . rw[ofO_wide hlong (.inl ⟨m,List.mem_of_getElem? hm,hmw⟩)]
     (try (conv=>whnf));repeat' (first|refine Ok.seq ?_|((first|refine Ok.region tok ?_|refine Ok.cond ?_);conv=>whnf)|refine Ok.block ?_|((first|refine Ok.skip ?_|refine Ok.ret ?_|refine ix _ (by assumption) ?_);conv=>whnf)|(refine bI ?_ ?_<;>intro<;>(conv=>whnf)<;>(try (exfalso;omega)))|fail)
     all_goals first
      | (exfalso;omega)
      | (refine Or.inl ?_;(conv=>whnf)
         exact⟨rfl,_,rfl,DSp.nil 0⟩)
 have hie:i=less.length:=by omega
 subst hie
 rw[List.take_length] at hw
 have h2:¬ ((∃ m ∈ less,m.length ≠ c.length)\/c=[]):=fun h=>h.elim (fun⟨m,hm,hne⟩=>hne (hw m hm)) hc0
 have hterm:=fun rm=>rterm_at c less (rm:=rm) hc0 hcl hn (fun m hm=>(hl m hm).len) rfl
 cases ht0:termT c less with
 | none=>
  rw[ofO_none hlong h2 ht0]
  (try (conv=>whnf));repeat' (first|refine Ok.seq ?_|((first|refine Ok.region tok ?_|refine Ok.cond ?_|refine Ok.skip ?_|refine Ok.exit ?_|refine Ok.ret ?_);conv=>whnf)|(refine Or.inr (Or.inl ?_);(conv=>whnf);(repeat (refine aI ?_;conv=>whnf));refine⟨_,hterm rm , ?_⟩;rintro _ _ ⟨rfl,(⟨ht,rfl⟩|⟨t,rm2,ht,rfl⟩)⟩<;>(conv=>whnf))|(refine Or.inr (Or.inl ?_);(conv=>whnf);(repeat (refine aI ?_;conv=>whnf));refine⟨_,rbound_at (c.length:Int) [] (by simp) (by simp) rfl , ?_⟩;rintro _ _ ⟨rfl,(⟨hb,rfl⟩|⟨hb,rfl⟩)⟩<;>(conv=>whnf))|((first|refine⟨_,.inl ⟨rfl,rfl⟩,?_⟩|refine⟨_,_,rfl,rfl,?_⟩);conv=>whnf)|(refine bI ?_ ?_<;>intro<;>(conv=>whnf)<;>(try (exfalso;omega)))|(refine aJ ?_;conv=>whnf)|fail)
  all_goals first
   | (exfalso;rw[ht0] at ht;cases ht;done)
   | (exfalso;simp[szT] at hb;done)
   | (rename_i h;exact absurd trivial h)
   | (rename_i h;exact absurd rfl h)
   | (refine Or.inl ?_;(conv=>whnf)
      exact⟨rfl,_,rfl,DSp.nil _⟩)
 | some t0=>
  rw[ofO_some hlong h2 ht0,formO_one]
  obtain⟨hg0,_⟩:=termT_good (n:=c.length) ⟨hc,hc0⟩ rfl hl ht0
  have hle0:t0.less.length<=1048576:=by have:=termT_sz ht0;omega
  have hbd:∀ (t:Term) (rm2:List (List D)),termT c less=some t->FSpec Try.prog T 20 [.agg [.i .i64 (c.length:Int),.lst 58 [drow ⟨t,rm2⟩] []]] (DOut (bndO c.length [t0])):=fun t rm2 ht=>by
   rw[ht0] at ht
   cases ht
   refine FSpec.mono (rbound_at (c.length:Int) [⟨t0,rm2⟩] (room:=[]) (by simp) (by simpa using hle0) rfl) ?_
   rintro d rows ⟨rfl,⟨hb,rfl⟩|⟨hb,rfl⟩⟩
   . rw[bndO_le (by simpa using hb)]
     exact⟨rfl,_,rfl,[⟨t0,rm2⟩],_,rfl,rfl⟩
   . rw[bndO_gt (by simpa using hb)]
     exact⟨rfl,_,rfl,DSp.nil 0⟩
  (try (conv=>whnf));repeat' (first|refine Ok.seq ?_|((first|refine Ok.region tok ?_|refine Ok.cond ?_|refine Ok.skip ?_|refine Ok.exit ?_|refine Ok.ret ?_);conv=>whnf)|(refine Or.inr (Or.inl ?_);(conv=>whnf);(repeat (refine aI ?_;conv=>whnf));refine⟨_,hterm rm , ?_⟩;rintro _ _ ⟨rfl,(⟨ht,rfl⟩|⟨t,rm2,ht,rfl⟩)⟩<;>(conv=>whnf))|(refine Or.inr (Or.inl ?_);(conv=>whnf);(repeat (refine aI ?_;conv=>whnf));refine⟨_,hbd t rm2 ht , ?_⟩;rintro _ _ ⟨rfl,_,rfl,kd3,rd3,rfl,h3d⟩<;>(conv=>whnf))|((first|refine⟨_,.inl ⟨rfl,rfl⟩,?_⟩|refine⟨_,_,rfl,rfl,?_⟩);conv=>whnf)|(refine bI ?_ ?_<;>intro<;>(conv=>whnf)<;>(try (exfalso;omega)))|(refine aJ ?_;conv=>whnf)|fail)
  all_goals first
   | (exfalso;rw[ht0] at ht;cases ht;done)
   | (rename_i h;exact absurd trivial h)
   | (rename_i h;exact absurd rfl h)
   | (refine Or.inl ?_;(conv=>whnf)
      exact⟨rfl,_,rfl,kd3,rd3,rfl,h3d⟩)
end Go.Proofs.Ytaiondckookpiaa
namespace Go.Proofs.Ytaiondckookpiaa
open Go Go.Vx Go.RowKit
theorem RS.tupI{sz:TypeId->Nat}{V:Vw}{ω:List Value}{v:Value}{cs:List D}(hc:∀ c ∈ cs,immD c=true)(h:RS sz V [] ω v (.tup cs)):RS sz V [] [] v (.tup cs):=by
 obtain⟨vs,rfl,hs,hR⟩:=h.tup_
 exact .tup _ vs hs fun j v d h1 h2=>.imm _ _ (immD_ri (hR j v d h1 h2) (hc d (List.mem_of_getElem? h2)))
set_option maxRecDepth 100000 in
set_option maxHeartbeats 16000000 in
theorem ofs_tail(c:Str)(less zs fs:List Str)(m1 m2:Str)(hzs:less.map zer=zs)(hlong:¬ 2100<less.length)
    (hfl:fs.length=less.length+2)(hfg:∀ i:Nat,i<less.length->fs[i]? = zs[i]?)(hf1:fs[less.length]? = some m1)(hf2:fs[less.length+1]? = some m2)
    (mk1:FSpec Try.prog T 6 [.i .i64 1,.i .i64 1] (fun d rows=>d = .agg (crow m1)/\rows=[]))
    (mk2:FSpec Try.prog T 6 [.i .i64 1,.i .i64 2] (fun d rows=>d = .agg (crow m2)/\rows=[]))
    (ks ks2:List TR)(rm km km2:List (List D))(hks:ks.map TR.t=(ofO (zer c) zs).2.2)(hk2:ks2.map TR.t=(ofO (zer c) zs).2.2) :
    Ok Try.prog T (sndN 9 (Try.f3.body.getD .ret)) (endQ T Try.f3 fun r _=>r = .b True)
     ⟨[(0,.s c),(1,.lst 9 (less.map srow) rm),(6,.own 1 (zs.map srow).length),(8,.own 0 (fs.map crow).length),(9,.bp 0 0),(10,.i .i64 (ofO (zer c) zs).1),(11,.bp 2 0),(12,.i .i64 (ofO (zer c) zs).1)],
      [[.i .i64 (ofO (zer c) zs).2.1,.lst 52 (ks.map trow) km],[.i .i64 (ofO (zer c) zs).2.1,.lst 58 (ks2.map drow) km2],[.i .i64 (ofO (zer c) zs).2.1,.lst 58 (ks2.map drow) km2]],[some (28,fs.map crow),some (9,zs.map srow)],Try.f3.ntmps⟩:=by
 have hlm:(less.map srow).length=less.length:=by simp
 have hzl:zs.length=less.length:=by rw[<- hzs];simp
 have hzc:∀ m ∈ zs,CT m:=fun m hm=>by
  rw[<- hzs] at hm
  obtain⟨w,_,rfl⟩:=List.mem_map.1 hm
  exact zer_ct w
 have hc:=zer_ct c
 have hof:=ofO_fine hc hzc
 have hfl2:(fs.map crow).length=less.length+2:=by simp[hfl]
 have hsl:(zs.map srow).length=less.length:=by simp[hzl]
 (conv=>whnf)
 (try (conv=>whnf));repeat' (first|refine Ok.seq ?_|(refine Ok.region tok ?_;conv=>whnf)|refine Ok.block ?_|fail)
 refine Ok.loopU [0,1,6,8,9,10,11,12] [13] 2 3 (fun (i:Nat)=>[.i .i64 (i:Nat)]) (fun _ b=>b) (fun _ r=>r) (fun (i:Nat)=>i<=less.length) (fun (i:Nat)=>less.length - i) (0) (Nat.zero_le _) ?_;(conv=>whnf);refine⟨by ((conv=>whnf);first|rfl|(simp[envCat,List.take_of_length_le,crow,srow,drow,trow];done)|(simp[envCat,List.take_of_length_le,crow,srow,drow,trow];rw[IntKind.wrap_i64];omega)),?_⟩
 intro i hi3
 (conv=>whnf)
 by_cases hil:i<less.length
 . obtain⟨w,hw⟩:∃ w,less[i]? = some w:=⟨_,List.getElem?_eq_getElem hil⟩
   have hwI:less[((i:Nat):Int).toNat]? = some w:=hw
   have hz:fs[i]? = some (zer w):=by rw[hfg i hil,<- hzs];simp[hw]
   have hzI:fs[((i:Nat):Int).toNat]? = some (zer w):=hz
   (try (conv=>whnf));repeat' (first|(refine⟨_,eqCube,by kernel_rfl,?_⟩;conv=>whnf)|refine Ok.seq ?_|((first|refine Ok.region tok ?_|refine Ok.region_plan (id:=17) tok follows [(7,8,[])] [.q 0,.q 1,.q 2,.q 3,.q 4,.q 5,.q 6,.q 7,.l 8,.q 9] (by kernel_rfl) ?_|refine Ok.cond ?_);conv=>whnf)|refine Ok.block ?_|((first|refine Ok.skip ?_|refine Ok.ret ?_|refine nI ?_|refine ix _ (by assumption) ?_);conv=>whnf)|(refine Or.inr (Or.inl ?_);(conv=>whnf);(repeat (refine aI ?_;conv=>whnf));refine⟨_,ocube_at w , ?_⟩;rintro _ _ ⟨rfl,rfl⟩<;>(conv=>whnf))|(refine rd rfl (by assumption) ?_;conv=>whnf)|(refine bI ?_ ?_<;>intro<;>(conv=>whnf)<;>(try (exfalso;omega)))|(refine aJ ?_;conv=>whnf)|fail)
   . rename_i he
     exact absurd (eqDs_self (zer w)) he
   . refine⟨i+1,by omega,by omega,?_⟩
     (conv=>whnf)
     rfl
 have hie:i=less.length:=by omega
 subst hie
 have hf1I:fs[(((less.map srow).length:Nat):Int).toNat]? = some m1:=by rw[hlm];exact hf1
 have hf2I:fs[((((less.map srow).length:Nat):Int)+1).toNat]? = some m2:=by rw[hlm];exact hf2
 (try (conv=>whnf));repeat' (first|(refine⟨_,eqCube,by kernel_rfl,?_⟩;conv=>whnf)|refine Ok.seq ?_|((first|refine Ok.region tok ?_|refine Ok.region_plan (id:=19) tok follows [(4,14,[7,6]),(5,14,[7]),(4,22,[17,14,7,6]),(5,22,[17,14,7]),(13,22,[17,16,15]),(14,22,[17]),(18,22,[]),(20,22,[])] [.q 0,.q 1,.q 2,.q 3,.q 4,.l 5,.q 6,.q 7,.q 8,.q 9,.q 10,.q 11,.q 12,.q 13,.l 14,.q 15,.q 16,.q 17,.q 18,.q 19,.q 20,.q 21,.l 22,.q 23,.q 24] (by kernel_rfl) ?_|refine Ok.cond ?_|refine Ok.skip ?_|refine Ok.exit ?_|refine Ok.ret ?_|refine nI ?_);conv=>whnf)|(refine Or.inl ?_;(conv=>whnf);(repeat (refine aI ?_;conv=>whnf));refine⟨_,same_at hof ks ks2 km km2 hks hk2,rfl,?_⟩;conv=>whnf)|(refine Or.inr (Or.inl ?_);(conv=>whnf);(repeat (refine aI ?_;conv=>whnf));refine⟨_,mk1 , ?_⟩;rintro _ _ ⟨rfl,rfl⟩<;>(conv=>whnf))|(refine Or.inr (Or.inl ?_);(conv=>whnf);(repeat (refine aI ?_;conv=>whnf));refine⟨_,mk2 , ?_⟩;rintro _ _ ⟨rfl,rfl⟩<;>(conv=>whnf))|(refine rd rfl (by assumption) ?_;conv=>whnf)|(refine bI ?_ ?_<;>intro<;>(conv=>whnf)<;>(try (exfalso;omega)))|(refine aJ ?_;conv=>whnf)|fail)
 . rename_i he
   exact absurd (eqDs_self m1) he
 . rename_i he
   exact absurd (eqDs_self m2) he
 . rename_i he
   exact absurd trivial he
 . refine Or.inl ?_;(conv=>whnf)
   rfl
 have hpos:0<less.length:=by omega
 obtain⟨f0,hf0⟩:∃ f0,fs[0]? = some f0:=⟨_,List.getElem?_eq_getElem (by omega)⟩
 obtain⟨z0,hz0⟩:∃ z0,zs[0]? = some z0:=⟨_,List.getElem?_eq_getElem (by omega)⟩
 (try (conv=>whnf));repeat' (first|(refine Or.inr (Or.inl ?_);(conv=>whnf);(repeat (refine aI ?_;conv=>whnf));refine⟨_,ocube_at c , ?_⟩;rintro _ _ ⟨rfl,rfl⟩<;>(conv=>whnf))|(refine aJ ?_;conv=>whnf)|fail)
 have hf0I:fs[Int.toNat 0]? = some f0:=hf0
 refine st (zer c) hf0I (by simp) (by simp[setCells]) ?_
 (try (conv=>whnf));repeat' (first|refine Ok.seq ?_|(refine Ok.region tok ?_;conv=>whnf)|(refine Or.inl ?_;(conv=>whnf);(repeat (refine aI ?_;conv=>whnf));refine⟨_,ozeroed_at c,rfl,?_⟩;conv=>whnf)|(refine aJ ?_;conv=>whnf)|fail)
 have hz0I:zs[Int.toNat 0]? = some z0:=hz0
 refine st (zer c) hz0I (by simp) (by simp[setCells]) ?_
 rw[show Int.toNat 0=0 from rfl]
 have hfl3:((fs.set 0 (zer c)).map crow).length=less.length+2:=by simp[hfl]
 have hsl3:((zs.set 0 (zer c)).map srow).length=less.length:=by simp[hzl]
 have hzc3:∀ m ∈ zs.set 0 (zer c),CT m:=fun m hm=>(List.mem_or_eq_of_mem_set hm).elim (hzc m) fun e=>e ▸ hc
 have htk:List.take less.length ((fs.set 0 (zer c)).map crow)=(zs.set 0 (zer c)).map crow:=by
  rw[<- List.map_take]
  congr 1
  refine List.ext_getElem? fun i=>?_
  rw[List.getElem?_take]
  by_cases hi:i<less.length
  . rw[if_pos hi,List.getElem?_set,List.getElem?_set,hfg i hi]
    by_cases h0:0=i
    . rw[if_pos h0,if_pos h0,if_pos (by omega),if_pos (by omega)]
    . rw[if_neg h0,if_neg h0]
  . rw[if_neg hi,List.getElem?_eq_none (by rw[List.length_set];omega)]
 generalize fs.set 0 (zer c)=fs2 at *
 generalize zs.set 0 (zer c)=zs2 at *
 have hN:∀ xs ys,xs=zs2.map crow->FSpecN Try.prog T 7 [.agg (crow (zer c)),.lst 28 xs ys] (POut (ofO (zer c) zs2)):=fun xs ys h=>h ▸ ofN_at (zer c) zs2 ys hc hzc3
 have htk2:List.take (zs.map srow).length (zs2.map srow)=zs2.map srow:=List.take_of_length_le (by rw[hsl3,hsl];exact Nat.le_refl _)
 have hzl3:zs2.length=less.length:=by simpa using hsl3
 have hR:∀ rl rm,rl=zs2.map srow->FSpec Try.prog T 8 [.s (zer c),.lst 9 rl rm] (DOut (ofO (zer c) zs2)):=fun rl rm h=>rofl_at (zer c) zs2 hc hzc3 (by omega) h
 have hof2:=ofO_fine hc hzc3
 (try (conv=>whnf));repeat' (first|refine Ok.seq ?_|(refine Ok.region_plan (id:=25) tok follows [(1,6,[]),(1,10,[]),(6,10,[])] [.q 0,.q 2,.q 3,.q 4,.q 5,.l 1,.l 6,.q 7,.q 8,.q 9,.l 10,.q 11] (by kernel_rfl) ?_;conv=>whnf)|fail)
 refine⟨less.length,rfl,(show (((less.map srow).length:Nat):Int)=(less.length:Nat) by rw[hlm]),Nat.le_trans (by omega) (Nat.le_of_eq hfl3.symm),?_⟩
 (try (conv=>whnf));repeat' (first|(refine Or.inr (Or.inr (Or.inr ?_));(conv=>whnf);refine effK.new (ts:=[28,23]) (by (conv=>whnf);exact⟨Nat.le_trans (by omega) (Nat.le_of_eq hfl3.symm),rfl⟩) (hN _ _ htk) ?_;rintro _ _ ⟨rfl,_,rfl,ks3,km3,rfl,hks3⟩;refine⟨rfl,fun V v ω h=>RS.tupI (by intro d hd;simp at hd;rcases hd with rfl|rfl<;>rfl) h,?_⟩;(conv=>whnf))|refine Ok.seq ?_|((first|refine Ok.region tok ?_|refine Ok.ret ?_);conv=>whnf)|(refine Or.inl ?_;(conv=>whnf);(repeat (refine aI ?_;conv=>whnf));refine⟨_,ozeroed_at c,rfl,?_⟩;conv=>whnf)|(refine Or.inl ?_;(conv=>whnf);(repeat (refine aI ?_;conv=>whnf));refine⟨_,same_at hof2 ks3 kd3 km3 rd3 hks3 h3d,rfl,?_⟩;conv=>whnf)|(refine Or.inr (Or.inl ?_);(conv=>whnf);(repeat (refine aI ?_;conv=>whnf));refine⟨_,ocube_at c , ?_⟩;rintro _ _ ⟨rfl,rfl⟩<;>(conv=>whnf))|(refine Or.inr (Or.inl ?_);(conv=>whnf);(repeat (refine aI ?_;conv=>whnf));refine⟨_,hR _ _ htk2 , ?_⟩;rintro _ _ ⟨rfl,_,rfl,kd3,rd3,rfl,h3d⟩<;>(conv=>whnf))|fail)
 refine Or.inl ?_;(conv=>whnf)
 rfl
end Go.Proofs.Ytaiondckookpiaa
namespace Go.Proofs.Ytaiondckookpiaa
open Go Go.Vx Go.RowKit
set_option maxRecDepth 100000 in
set_option maxHeartbeats 16000000 in
theorem ofs_at(c:Str)(less:List Str){rl rm:List (List D)}(h:rl=less.map srow) :
    FSpec Try.prog T 3 [.s c,.lst 9 rl rm] (fun r _=>r = .b True):=by
 subst h
 have hlm:(less.map srow).length=less.length:=by simp
 refine FSpec.of_ok tok Try.func3 rfl Try.call3 (by simp) ?_
 by_cases hlong:2100<less.length
 . (try (conv=>whnf));repeat' (first|refine Ok.seq ?_|((first|refine Ok.region tok ?_|refine Ok.cond ?_|refine Ok.ret ?_);conv=>whnf)|(refine bI ?_ ?_<;>intro<;>(conv=>whnf)<;>(try (exfalso;omega)))|fail)
   all_goals first
    | (exfalso;omega)
    | (refine Or.inl ?_;(conv=>whnf)
       rfl)
 (try (conv=>whnf));repeat' (first|refine Ok.seq ?_|((first|refine Ok.region tok ?_|refine Ok.cond ?_);conv=>whnf)|refine Ok.block ?_|(refine Ok.skip ?_;conv=>whnf)|(refine bI ?_ ?_<;>intro<;>(conv=>whnf)<;>(try (exfalso;omega)))|fail)
 refine Ok.ghost 5 28 rfl ?_
 (conv=>whnf)
 refine Ok.ghost 6 9 rfl ?_
 (conv=>whnf)
 generalize hzs:less.map zer=zs
 have hzl:zs.length=less.length:=by rw[<- hzs];simp
 have hzc:∀ m ∈ zs,CT m:=fun m hm=>by
  rw[<- hzs] at hm
  obtain⟨w,_,rfl⟩:=List.mem_map.1 hm
  exact zer_ct w
 have hc:=zer_ct c
 have hof:=ofO_fine hc hzc
 refine Ok.loopU [0,1] [5,6,7] 2 0 (fun (i:Nat)=>[.own 0 ((zs.take i).map crow).length,.own 1 ((zs.take i).map srow).length,.i .i64 (i:Nat)]) (fun _ b=>b) (fun (i:Nat) (_:Vx.Rows)=>[some (28,(zs.take i).map crow),some (9,(zs.take i).map srow)]) (fun (i:Nat)=>i<=less.length) (fun (i:Nat)=>less.length - i) (0) (Nat.zero_le _) ?_;(conv=>whnf);refine⟨by ((conv=>whnf);first|rfl|(simp[envCat,List.take_of_length_le,crow,srow,drow,trow];done)|(simp[envCat,List.take_of_length_le,crow,srow,drow,trow];rw[IntKind.wrap_i64];omega)),?_⟩
 intro i hi
 have hl1:((zs.take i).map crow).length=i:=by simp;omega
 have hl2:((zs.take i).map srow).length=i:=by simp;omega
 (conv=>whnf)
 by_cases hil:i<less.length
 . obtain⟨m,hm⟩:∃ m,less[i]? = some m:=⟨_,List.getElem?_eq_getElem hil⟩
   have hmI:less[((i:Nat):Int).toNat]? = some m:=hm
   have hz:zs[i]? = some (zer m):=by rw[<- hzs];simp[hm]
   (try (conv=>whnf));repeat' (first|refine Ok.seq ?_|((first|refine Ok.region tok ?_|refine Ok.cond ?_);conv=>whnf)|refine Ok.block ?_|((first|refine Ok.skip ?_|refine nI ?_|refine ix _ (by assumption) ?_);conv=>whnf)|(refine Or.inl ?_;(conv=>whnf);(repeat (refine aI ?_;conv=>whnf));refine⟨_,ozeroed_at m,rfl,?_⟩;conv=>whnf)|(refine Or.inr (Or.inl ?_);(conv=>whnf);(repeat (refine aI ?_;conv=>whnf));refine⟨_,ocube_at m , ?_⟩;rintro _ _ ⟨rfl,rfl⟩<;>(conv=>whnf))|((first|refine Alt2.l (aI ?_)|refine⟨_,.inl ⟨rfl,rfl⟩,?_⟩|refine⟨_,_,rfl,rfl,?_⟩);conv=>whnf)|(refine bI ?_ ?_<;>intro<;>(conv=>whnf)<;>(try (exfalso;omega)))|(refine aJ ?_;conv=>whnf)|fail)
   all_goals first
    | (exfalso;omega)
    | (refine⟨i+1,by omega,by omega,?_⟩
       rw[take_snoc hz,List.map_append,List.map_append]
       (conv=>whnf)
       rfl)
 have hie:i=less.length:=by omega
 subst hie
 rw[show zs.take less.length=zs by rw[<- hzl,List.take_length]] at *
 have hN:∀ xs ys,xs=zs.map crow->FSpecN Try.prog T 7 [.agg (crow (zer c)),.lst 28 xs ys] (POut (ofO (zer c) zs)):=fun xs ys h=>h ▸ ofN_at (zer c) zs ys hc hzc
 have mk1:=mark1_at
 have mk2:=mark2_at
 generalize allC 39=m1 at *
 generalize allC 40=m2 at *
 have hl3:(zs.map crow++[crow m1,crow m2]).length=less.length+2:=by simp;omega
 have htk:List.take less.length (zs.map crow++[crow m1,crow m2])=zs.map crow:=List.take_left' hl1
 have rest:∀ (ks:List TR) (km:List (List D)),ks.map TR.t=(ofO (zer c) zs).2.2->Ok Try.prog T (sndN 8 (Try.f3.body.getD .ret)) (endQ T Try.f3 fun r _=>r = .b True)
     ⟨[(0,.s c),(1,.lst 9 (less.map srow) rm),(6,.own 1 (zs.map srow).length),(8,.own 0 (zs.map crow++[crow m1,crow m2]).length),(9,.bp 0 0),(10,.i .i64 (ofO (zer c) zs).1)],
      [[.i .i64 (ofO (zer c) zs).2.1,.lst 52 (ks.map trow) km]],[some (28,zs.map crow++[crow m1,crow m2]),some (9,zs.map srow)],Try.f3.ntmps⟩:=by
  intro ks km hks
  (conv=>whnf)
  (try (conv=>whnf));repeat' (first|refine Ok.seq ?_|(refine Ok.region tok ?_;conv=>whnf)|(refine Or.inl ?_;(conv=>whnf);(repeat (refine aI ?_;conv=>whnf));refine⟨_,ozeroed_at c,rfl,?_⟩;conv=>whnf)|fail)
  refine Or.inr (Or.inr (Or.inl ?_));(conv=>whnf);refine⟨_,_,Try.func8,rfl,Try.call8,?_⟩;(conv=>whnf)
  refine Ok.joinV [52,53,58,60,61,62] [4,5] 2 1 2 2 (fun (x:List TR × List (List D))=>[.bp 1 0,.i .i64 (ofO (zer c) zs).1]) (fun (x:List TR × List (List D))=>[[.i .i64 (ofO (zer c) zs).2.1,.lst 52 (ks.map trow) km],[.i .i64 (ofO (zer c) zs).2.1,.lst 58 (x.1.map drow) x.2]]) (fun (x:List TR × List (List D))=>[some (28,zs.map crow++[crow m1,crow m2]),some (9,zs.map srow)]) (fun e (x:List TR × List (List D))=>e = .ret/\x.1.map TR.t=(ofO (zer c) zs).2.2) ?_;(conv=>whnf);refine And.intro ?_ ?_
  . have hlz:(zs.map srow).length=zs.length:=by simp
    by_cases hlong2:2048<zs.length
    . rw[ofO_long hlong2] at hks ⊢
      (try (conv=>whnf));repeat' (first|(refine Ok.nilC 1 1 58 rfl rfl ?_;(conv=>whnf);refine Ok.ret ?_;(conv=>whnf))|refine Ok.seq ?_|((first|refine Ok.region tok ?_|refine Ok.cond ?_);conv=>whnf)|(refine bI ?_ ?_<;>intro<;>(conv=>whnf)<;>(try (exfalso;omega)))|fail)
      all_goals first
       | (exfalso;omega)
       | (refine⟨([],[]),⟨rfl,rfl⟩,?_⟩
          (conv=>whnf)
          rfl)
    by_cases hc0:zer c=[]
    . rw[ofO_wide hlong2 (.inr hc0)] at hks ⊢
      rw[hc0]
      (try (conv=>whnf));repeat' (first|(refine Ok.nilC 1 1 58 rfl rfl ?_;(conv=>whnf);refine Ok.ret ?_;(conv=>whnf))|refine Ok.seq ?_|((first|refine Ok.region tok ?_|refine Ok.cond ?_);conv=>whnf)|refine Ok.block ?_|(refine Ok.skip ?_;conv=>whnf)|(refine bI ?_ ?_<;>intro<;>(conv=>whnf)<;>(try (exfalso;omega)))|fail)
      all_goals first
       | (exfalso;omega)
       | (rename_i h;exact absurd rfl h)
       | (refine⟨([],[]),⟨rfl,rfl⟩,?_⟩
          (conv=>whnf)
          rfl)
    (try (conv=>whnf));repeat' (first|refine Ok.seq ?_|((first|refine Ok.region tok ?_|refine Ok.cond ?_);conv=>whnf)|refine Ok.block ?_|((first|refine Ok.skip ?_|refine Ok.ret ?_);conv=>whnf)|(refine bI ?_ ?_<;>intro<;>(conv=>whnf)<;>(try (exfalso;omega)))|fail)
    all_goals first
     | (exfalso;omega)
     | (rename_i h;simp at h;exact absurd h hc0)
     | skip
    have hpos:0<(zer c).length:=List.length_pos_iff.2 hc0
    refine Ok.loopU [0,1,4,52,53,58,60,61,62] [6] 2 2 (fun (i:Nat)=>[.i .i64 (i:Nat)]) (fun _ b=>b) (fun _ r=>r) (fun (i:Nat)=>i<=zs.length/\∀ m ∈ zs.take i,m.length=(zer c).length) (fun (i:Nat)=>zs.length - i) (0) (⟨Nat.zero_le _,by simp⟩) ?_;(conv=>whnf);refine⟨by ((conv=>whnf);first|rfl|(simp[envCat,List.take_of_length_le,crow,srow,drow,trow];done)|(simp[envCat,List.take_of_length_le,crow,srow,drow,trow];rw[IntKind.wrap_i64];omega)),?_⟩
    rintro i ⟨hi2,hw⟩
    (conv=>whnf)
    by_cases hil2:i<zs.length
    . obtain⟨m,hm⟩:∃ m,zs[i]? = some m:=⟨_,List.getElem?_eq_getElem hil2⟩
      have hmI:zs[((i:Nat):Int).toNat]? = some m:=hm
      have hml:=(hzc m (List.mem_of_getElem? hm)).len
      by_cases hmw:m.length=(zer c).length
      . (try (conv=>whnf));repeat' (first|refine Ok.seq ?_|((first|refine Ok.region tok ?_|refine Ok.cond ?_);conv=>whnf)|refine Ok.block ?_|((first|refine Ok.skip ?_|refine nI ?_|refine rd rfl (by assumption) ?_);conv=>whnf)|(refine bI ?_ ?_<;>intro<;>(conv=>whnf)<;>(try (exfalso;omega)))|(refine aJ ?_;conv=>whnf)|fail)
        all_goals first
         | (exfalso;omega)
         | (refine⟨i+1,by omega,⟨by omega,fun x hx=>by
             rw[take_snoc hm] at hx
             rcases List.mem_append.1 hx with hx|hx
             . exact hw x hx
             . simp at hx;rw[hx];exact hmw⟩,?_⟩
            (conv=>whnf)
            rfl)
      . rw[ofO_wide hlong2 (.inl ⟨m,List.mem_of_getElem? hm,hmw⟩)] at hks ⊢
        (try (conv=>whnf));repeat' (first|(refine Ok.nilC 1 1 58 rfl rfl ?_;(conv=>whnf);refine Ok.ret ?_;(conv=>whnf))|refine Ok.seq ?_|((first|refine Ok.region tok ?_|refine Ok.cond ?_);conv=>whnf)|refine Ok.block ?_|((first|refine Ok.skip ?_|refine rd rfl (by assumption) ?_);conv=>whnf)|(refine bI ?_ ?_<;>intro<;>(conv=>whnf)<;>(try (exfalso;omega)))|(refine aJ ?_;conv=>whnf)|fail)
        all_goals first
         | (exfalso;omega)
         | (refine⟨([],[]),⟨rfl,rfl⟩,?_⟩
            (conv=>whnf)
            rfl)
    have hie2:i=zs.length:=by omega
    subst hie2
    rw[List.take_length] at hw
    have h2:¬ ((∃ m ∈ zs,m.length ≠ (zer c).length)\/zer c=[]):=fun h=>h.elim (fun⟨m,hm,hne⟩=>hne (hw m hm)) hc0
    (try (conv=>whnf));repeat' (first|refine Ok.seq ?_|((first|refine Ok.region tok ?_|refine Ok.cond ?_|refine Ok.exit ?_);conv=>whnf)|(refine bI ?_ ?_<;>intro<;>(conv=>whnf)<;>(try (exfalso;omega)))|fail)
    refine Or.inr (Or.inr (Or.inl ?_));(conv=>whnf);refine⟨_,_,Try.func19,rfl,Try.call19,?_⟩;(conv=>whnf)
    refine Ok.joinV [51,54,99,100,105,107,108,109] [4,5] 2 3 2 4 (fun (x:TR)=>[.bp 3 0,match termT (zer c) zs with|none=>D.ff|some _=>D.tt]) (fun (x:TR)=>[[.i .i64 (ofO (zer c) zs).2.1,.lst 52 (ks.map trow) km],[.i .i64 0,.nilS],[.i .i64 (zer c).length,.nilS],drow x]) (fun (x:TR)=>[some (28,zs.map crow++[crow m1,crow m2]),some (9,zs.map srow)]) (fun e (x:TR)=>e = .ret/\x.t=(termT (zer c) zs).getD ⟨[],[]⟩) ?_;(conv=>whnf);refine And.intro ?_ ?_
    . (try (conv=>whnf));repeat' (first|refine Ok.seq ?_|(refine Ok.region tok ?_;conv=>whnf)|refine Ok.block ?_|fail)
      refine Ok.nilC 4 1 9 rfl rfl ?_
      (conv=>whnf)
      have hpl:=hc.len
      refine Ok.loopU [0,1,4,6,51,54,99,100,105,107,108,109] [7] 2 5 (fun (x:Nat × List (List D))=>[.i .i64 (x.1:Nat)]) (fun x _=>[[.i .i64 (ofO (zer c) zs).2.1,.lst 52 (ks.map trow) km],[.i .i64 0,.nilS],[.i .i64 (zer c).length,.nilS],[.s [],.nilS],[.s (zer c),.lst 9 ((PK (zer c) (zs.take x.1)).map srow) x.2]]) (fun _ r=>r) (fun (x:Nat × List (List D))=>x.1<=zs.length) (fun (x:Nat × List (List D))=>zs.length - x.1) (0,[]) (Nat.zero_le _) ?_;(conv=>whnf);refine⟨by ((conv=>whnf);rfl),?_⟩
      rintro⟨i,rm1⟩ hi3
      dsimp only at hi3 ⊢
      have hkl:=PK_len (zer c) zs i
      have hkm:∀ x ∈ PK (zer c) (zs.take i),x ≠ []/\x.length<=100000:=fun x hx=>by
       have:=metL_wide (PK_mem hx)
       exact⟨fun e=>hc0 (List.eq_nil_of_length_eq_zero (by rw[<- this,e];rfl)),by omega⟩
      (conv=>whnf)
      by_cases hil3:i<zs.length
      . obtain⟨m,hm⟩:∃ m,zs[i]? = some m:=⟨_,List.getElem?_eq_getElem hil3⟩
        have hmI:zs[((i:Nat):Int).toNat]? = some m:=hm
        have hmo:=(hzc m (List.mem_of_getElem? hm)).len
        have hsp:=rmeet_at m (zer c) (by omega)
        cases hmt:meetT m (zer c) with
        | none=>
         rw[hmt] at hsp
         (try (conv=>whnf));repeat' (first|refine Ok.seq ?_|((first|refine Ok.region tok ?_|refine Ok.cond ?_);conv=>whnf)|refine Ok.block ?_|((first|refine Ok.skip ?_|refine nI ?_);conv=>whnf)|(refine Or.inr (Or.inl ?_);(conv=>whnf);(repeat (refine aI ?_;conv=>whnf));refine⟨_,hsp,?_⟩;rintro _ _ ⟨rfl,rfl⟩<;>(conv=>whnf))|(refine rd rfl (by assumption) ?_;conv=>whnf)|(refine bI ?_ ?_<;>intro<;>(conv=>whnf)<;>(try (exfalso;omega)))|(refine aJ ?_;conv=>whnf)|fail)
         . rename_i h2
           exact absurd h2 (by simp)
         . refine⟨(i+1,rm1),by dsimp only;omega,by dsimp only;omega,?_⟩
           dsimp only
           rw[PK_none hm hmt]
           (conv=>whnf)
           rfl
        | some c1=>
         rw[hmt] at hsp
         have hcw:c1 ≠ []/\c1.length<=100000:=by
          unfold meetT at hmt
          split at hmt
          . cases hmt
          . have:=meetL_len hmt
            exact⟨fun e=>hc0 (List.eq_nil_of_length_eq_zero (by rw[this.2,e];rfl)),by omega⟩
         (try (conv=>whnf));repeat' (first|refine Ok.seq ?_|((first|refine Ok.region tok ?_|refine Ok.cond ?_);conv=>whnf)|refine Ok.block ?_|((first|refine Ok.skip ?_|refine nI ?_);conv=>whnf)|(refine Or.inr (Or.inl ?_);(conv=>whnf);(repeat (refine aI ?_;conv=>whnf));refine⟨_,hsp,?_⟩;rintro _ _ ⟨rfl,rfl⟩<;>(conv=>whnf))|(refine Or.inr (Or.inl ?_);(conv=>whnf);(repeat (refine aI ?_;conv=>whnf));refine⟨_,rput_at (PK (zer c) (zs.take i)) c1 (by omega) hkm hcw.1 hcw.2 rfl , ?_⟩;rintro _ _ ⟨rm2,rfl,rfl⟩<;>(conv=>whnf))|(refine rd rfl (by assumption) ?_;conv=>whnf)|(refine bI ?_ ?_<;>intro<;>(conv=>whnf)<;>(try (exfalso;omega)))|(refine aJ ?_;conv=>whnf)|fail)
         . rename_i rm2
           refine⟨(i+1,rm2),by dsimp only;omega,by dsimp only;omega,?_⟩
           dsimp only
           rw[PK_some hm hmt]
           (conv=>whnf)
           rfl
         . rename_i h2
           exact absurd rfl h2
      . have hie3:i=zs.length:=by omega
        subst hie3
        rw[List.take_length] at hkl hkm ⊢
        have ht0:=termT_pk0 (p:=zer c) (less:=zs)
        have ht1:=termT_pk1 (p:=zer c) (less:=zs)
        generalize PK (zer c) zs=K at *
        have hKl:(K.map srow).length=K.length:=by simp
        (try (conv=>whnf));repeat' (first|(refine Ok.nilC 3 1 9 rfl rfl ?_;(conv=>whnf);refine Ok.ret ?_;(conv=>whnf))|refine Ok.seq ?_|((first|refine Ok.region tok ?_|refine Ok.cond ?_|refine Ok.skip ?_|refine Ok.exit ?_|refine Ok.ret ?_|refine ixI_new (by omega) (by omega) fun _ _=>?_);conv=>whnf)|(refine bI ?_ ?_<;>intro<;>(conv=>whnf)<;>(try (exfalso;omega)))|fail)
        . rename_i h1 x hx hxp
          have h1':K.length=1:=by omega
          rw[ht0 ((one_is h1' hx).2 hxp)]
          refine⟨⟨⟨[],[]⟩,[]⟩,⟨rfl,rfl⟩,?_⟩
          (conv=>whnf)
          rfl
        . rename_i h1 x hx hxp
          have h1':K.length=1:=by omega
          rw[ht1 (fun e=>hxp ((one_is h1' hx).1 e))]
          refine⟨⟨_,rm1⟩,⟨rfl,rfl⟩,?_⟩
          (conv=>whnf)
          rfl
        . rename_i h1
          rw[ht1 (fun e=>by rw[e] at h1;simp at h1)]
          refine⟨⟨_,rm1⟩,⟨rfl,rfl⟩,?_⟩
          (conv=>whnf)
          rfl
    . rintro e x ⟨rfl,hx⟩
      (conv=>whnf)
      cases ht0:termT (zer c) zs with
      | none=>
       rw[ht0] at hx
       obtain⟨t9,r9⟩:=x
       dsimp only at hx
       subst hx
       rw[ofO_none hlong2 h2 ht0] at hks ⊢
       (conv=>whnf)
       (try (conv=>whnf));repeat' (first|refine Ok.seq ?_|((first|refine Ok.region tok ?_|refine Ok.cond ?_|refine Ok.skip ?_|refine Ok.ret ?_);conv=>whnf)|(refine Or.inr (Or.inl ?_);(conv=>whnf);(repeat (refine aI ?_;conv=>whnf));refine⟨_,rbound_at ((zer c).length:Int) [] (by simp) (by simp) rfl , ?_⟩;rintro _ _ ⟨rfl,(⟨hb,rfl⟩|⟨hb,rfl⟩)⟩<;>(conv=>whnf))|fail)
       all_goals first
        | (exfalso;simp[szT] at hb;done)
        | (rename_i h;exact absurd trivial h)
        | (rename_i h;exact absurd rfl h)
        | (refine⟨([],[]),⟨rfl,rfl⟩,?_⟩
           (conv=>whnf)
           rfl)
      | some t0=>
       rw[ofO_some hlong2 h2 ht0,formO_one] at hks ⊢
       rw[ht0] at hx
       obtain⟨t9,r9⟩:=x
       dsimp only[Option.getD_some] at hx
       subst hx
       obtain⟨hg0,_⟩:=termT_good (n:=(zer c).length) ⟨hc,hc0⟩ rfl hzc ht0
       have hle0:t9.less.length<=1048576:=by have:=termT_sz ht0;omega
       have hbd:FSpec Try.prog T 20 [.agg [.i .i64 ((zer c).length:Int),.lst 58 [drow ⟨t9,r9⟩] []]] (DOut (bndO (zer c).length [t9])):=by
        refine FSpec.mono (rbound_at ((zer c).length:Int) [⟨t9,r9⟩] (room:=[]) (by simp) (by simpa using hle0) rfl) ?_
        rintro d rows ⟨rfl,⟨hb,rfl⟩|⟨hb,rfl⟩⟩
        . rw[bndO_le (by simpa using hb)]
          exact⟨rfl,_,rfl,[⟨t9,r9⟩],_,rfl,rfl⟩
        . rw[bndO_gt (by simpa using hb)]
          exact⟨rfl,_,rfl,DSp.nil 0⟩
       (conv=>whnf)
       (try (conv=>whnf));repeat' (first|refine Ok.seq ?_|((first|refine Ok.region tok ?_|refine Ok.cond ?_|refine Ok.ret ?_);conv=>whnf)|(refine Or.inr (Or.inl ?_);(conv=>whnf);(repeat (refine aI ?_;conv=>whnf));refine⟨_,hbd , ?_⟩;rintro _ _ ⟨rfl,_,rfl,kd3,rd3,rfl,h3d⟩<;>(conv=>whnf))|((first|refine⟨_,.inl ⟨rfl,rfl⟩,?_⟩|refine⟨_,_,rfl,rfl,?_⟩|refine aJ ?_);conv=>whnf)|fail)
       all_goals first
        | (rename_i h;exact absurd trivial h)
        | (rename_i h;exact absurd rfl h)
        | (refine⟨(kd3,rd3),⟨rfl,h3d⟩,?_⟩
           (conv=>whnf)
           rfl)
  rintro e ⟨ks2,rm2⟩ ⟨rfl,hk2⟩
  dsimp only at hk2 ⊢
  (conv=>whnf)
  have hfm:zs.map crow++[crow m1,crow m2]=(zs++[m1,m2]).map crow:=by simp
  (try (conv=>whnf));repeat' (first|(refine Ok.keep (c:=sndN 9 (Try.f3.body.getD .ret)) [0,1,6,8,9,10,11,12] 2 3 ?_;(conv=>whnf);rw[hfm];exact ofs_tail c less zs (zs++[m1,m2]) m1 m2 hzs hlong (by simp[hzl]) (fun i hi=>List.getElem?_append_left (by omega)) (by rw[List.getElem?_append_right (by omega),hzl,Nat.sub_self];rfl) (by rw[List.getElem?_append_right (by omega),hzl,Nat.add_sub_cancel_left];rfl) mk1 mk2 ks ks2 rm km rm2 hks hk2)|fail)
 (try (conv=>whnf));repeat' (first|refine Ok.seq ?_|((first|refine Ok.region tok ?_|refine Ok.region_tree (id:=12) tok follows [(1,6,[]),(1,11,[]),(6,11,[]),(10,11,[])] (.q 0 (.q 2 (.q 3 (.q 4 (.q 5 (.alt 1 (.alt 6 (.q 7 (.q 8 (.q 9 (.l 10 (.l 11 (.q 12 .nil)))))) (.alt 10 (.l 6 (.q 7 (.q 8 (.q 9 (.l 11 (.q 12 .nil)))))) .nil)) (.alt 10 (.l 1 (.l 6 (.q 7 (.q 8 (.q 9 (.l 11 (.q 12 .nil))))))) .nil))))))) (by kernel_rfl) ?_|refine Ok.cond ?_|refine Ok.exit ?_);conv=>whnf)|(refine Or.inr (Or.inl ?_);(conv=>whnf);(repeat (refine aI ?_;conv=>whnf));refine⟨_,mk1 , ?_⟩;rintro _ _ ⟨rfl,rfl⟩<;>(conv=>whnf))|(refine Or.inr (Or.inl ?_);(conv=>whnf);(repeat (refine aI ?_;conv=>whnf));refine⟨_,mk2 , ?_⟩;rintro _ _ ⟨rfl,rfl⟩<;>(conv=>whnf))|((first|refine Alt2.l (aI ?_)|refine⟨_,.inl ⟨rfl,rfl⟩,?_⟩|refine⟨_,_,rfl,rfl,?_⟩);conv=>whnf)|(refine bI ?_ ?_<;>intro<;>(conv=>whnf)<;>(try (exfalso;omega)))|(refine aJ ?_;conv=>whnf)|fail)
 refine⟨less.length,rfl,(show (((less.map srow).length:Nat):Int)=(less.length:Nat) by rw[hlm]),Nat.le_trans (by omega) (Nat.le_of_eq hl3.symm),?_⟩
 (try (conv=>whnf));repeat' (first|(refine Or.inr (Or.inr (Or.inr ?_));(conv=>whnf);refine effK.new (ts:=[28,23]) (by (conv=>whnf);exact⟨Nat.le_trans (by omega) (Nat.le_of_eq hl3.symm),rfl⟩) (hN _ _ htk) ?_;rintro _ _ ⟨rfl,_,rfl,ks,km,rfl,hks⟩;refine⟨rfl,fun V v ω h=>RS.tupI (by intro d hd;simp at hd;rcases hd with rfl|rfl<;>rfl) h,?_⟩;(conv=>whnf))|(refine Ok.keep (c:=sndN 8 (Try.f3.body.getD .ret)) [0,1,6,8,9,10] 2 1 ?_;(conv=>whnf);exact rest ks km hks)|(refine Or.inr (Or.inl ?_);(conv=>whnf);(repeat (refine aI ?_;conv=>whnf));refine⟨_,ocube_at c , ?_⟩;rintro _ _ ⟨rfl,rfl⟩<;>(conv=>whnf))|(exact True.intro)|(refine And.intro ?_ ?_<;>(conv=>whnf))|fail)
end Go.Proofs.Ytaiondckookpiaa
namespace Go.Proofs.Ytaiondckookpiaa
open Go Go.Vx
theorem str1_of{B:Nat}(r:List D)(h:TySs B [.str] r):∃ a:Str,r=srow a/\a.length<=B:=by
 obtain⟨_,_,rfl,h1,h⟩:=ss_cons h
 obtain rfl:=ss_nil h
 obtain⟨a,rfl,hl⟩:=str_of h1
 exact⟨a,rfl,hl⟩
theorem spaceOfs_ats:∃ ls,shapes T 9 [9,22]=some ls/\∀ xs,TyAs T maxLen [9,22] ls xs->FSpec Try.prog T 3 xs (fun d _=>d = .b True):=by
 refine⟨_,rfl,fun xs h=>?_⟩
 obtain⟨_,_,rfl,h0,h⟩:=as_cons h
 obtain⟨_,_,rfl,h1,h⟩:=as_cons h
 obtain rfl:=as_nil h
 obtain⟨c,rfl,_⟩:=str_of (leaf h0 rfl)
 obtain⟨less,rm,rfl,_⟩:=lst_of (leaf h1 rfl) str1_of
 exact ofs_at c less rfl
end Go.Proofs.Ytaiondckookpiaa
