/- The walks and the plain laws that a law of spaces needs, part 5 of 5. -/
import Derived.Test.YtaiondckookpiaaDoorQFD
set_option linter.unusedVariables false
set_option linter.unusedSimpArgs false
namespace Go.Vx
open Go.RowKit
section
variable {P : Program} {T : Tab} {M : Blks} {s : St} {Q : Exit → St → Blks → Prop}
theorem SimH.sub{sz:TypeId->Nat}{w0 w:World}{F:Fr}{V:Vw}{μ:List Nat}{ω:List Value}{a:Act}{M':Blks}(h:SimH sz w0 F V μ ω s a w M)(hs:M'.Sublist M):SimH sz w0 F V μ ω s a w M':=by
 have hm:∀ x ∈ M'++F.kc,x ∈ M++F.kc:=fun x hx=>by
  rcases List.mem_append.1 hx with hx|hx
  . exact List.mem_append_left _ (hs.subset hx)
  . exact List.mem_append_right _ hx
 exact⟨⟨h.sim.tmps,⟨h.sim.defers.marks,h.sim.defers.kept⟩,h.sim.env,h.sim.mem.fr rfl hm⟩,h.nodup.sublist ((hs.append (List.Sublist.refl _)).map _)⟩
theorem OkH.cond{c:Operand}{x y:Code}(h:condK s c (fun s=>OkH P T x Q s M) (fun s=>OkH P T y Q s M)):OkH P T (.cond c x y) Q s M:=by
 refine⟨fun w0 F V μ ω a w hS=>?_⟩
 have hc:=hS.sim.get c
 unfold condK at h
 split at h
 . rename_i hd;rw[hd] at hc;exact wp_cond_true hc.tt_ (h.run w0 F V μ ω a w hS)
 . rename_i hd;rw[hd] at hc;exact wp_cond_false hc.ff_ (h.run w0 F V μ ω a w hS)
 . rename_i p hd
   rw[hd] at hc
   obtain⟨b,hb,hbp⟩:=hc.bool
   cases b with
   | true=>exact wp_cond_true hb ((h.1 (hbp.1 rfl)).run w0 F V μ ω a w (hS.of (hS.sim.know c (by rw[hb];exact .imm _ _ .tt))))
   | false=>exact wp_cond_false hb ((h.2 (fun hp=>by simpa using hbp.2 hp)).run w0 F V μ ω a w (hS.of (hS.sim.know c (by rw[hb];exact .imm _ _ .ff))))
 . exact h.elim
theorem OkH.keep{c:Code}(L:List Nat)(k kb:Nat)(h:keepK L k kb s fun s=>OkH P T c Q s M):OkH P T c Q s M:=by
 refine⟨fun w0 F V μ ω a w hS=>?_⟩
 obtain⟨s',μ',ω',hk,hS'⟩:=keepK_sound hS.sim h
 exact hk.run w0 F V μ' ω' a w (hS.of hS')
theorem OkH.loopK{c:Code}{ι:Type}(L:List Nat)(k kb:Nat)(mk:ι->St)(mo:ι->Blks)(I:ι->Prop)(m:ι->Nat)(x0:ι)(h0:I x0)(hm:(mo x0).Sublist M)(hs:keepK L k kb s (·=mk x0))
    (round:∀ x,I x->OkH P T c (thenH (fun s' M'=>∃ x',m x' < m x/\I x'/\(mo x').Sublist M'/\keepK L k kb s' (·=mk x')) Q) (mk x) (mo x)):OkH P T (.loop c) Q s M:=by
 refine⟨fun w0 F V μ ω a w hS=>?_⟩
 replace hS:=hS.sub hm
 obtain⟨s',μ',ω',rfl,hS'⟩:=keepK_sound hS.sim hs
 refine wp_loop_at (fun n a w=>∃ x V μ ω,m x=n/\I x/\SimH (szOf T) w0 F V μ ω (mk x) a w (mo x)) ?_ ⟨x0,V,μ',ω',rfl,h0,hS.of hS'⟩
 rintro n a w ⟨x,V,μ,ω,rfl,hI,hS⟩
 refine wp_mono ((round x hI).run w0 F V μ ω a w hS) ?_
 rintro e a' w' ⟨s',V',μ',ω',M',hk,hS'⟩
 cases e with
 | normal=>
  obtain⟨x',hlt,hI',hsb,hk⟩:=hk
  replace hS':=hS'.sub hsb
  obtain⟨s2,μ2,ω2,rfl,hS2⟩:=keepK_sound hS'.sim hk
  exact⟨m x',hlt,x',V',μ2,ω2,rfl,hI',hS'.of hS2⟩
 | _=>exact⟨s',V',μ',ω',M',hk,hS'⟩
theorem OkH.loopU{c:Code}{ι:Type}(L Cs:List Nat)(k kb:Nat)(C:ι->List D)(B:ι->List (List D)->List (List D))(R:ι->Rows->Rows)(mo:ι->Blks)(I:ι->Prop)(m:ι->Nat)(x0:ι)(h0:I x0)(hm:(mo x0).Sublist M)
    (h:keepK L k kb s fun s0=>match s0 with
     | ⟨env,box,row,n⟩=>(keepK (catL Cs L) k kb s fun s1=>s1=⟨envCat Cs (C x0) env,B x0 box,R x0 row,n⟩) /\
      ∀ x,I x->envCatK Cs (C x) env fun env'=>OkH P T c (thenH (fun s' M'=>∃ x',m x' < m x/\I x'/\(mo x').Sublist M'/\keepK (catL Cs L) k kb s' fun s1=>s1=⟨envCat Cs (C x') env,B x' box,R x' row,n⟩) Q) ⟨env',B x box,R x row,n⟩ (mo x)):OkH P T (.loop c) Q s M:=by
 obtain⟨⟨env,box,row,n⟩,h1,h2⟩:=keepK_some h
 exact OkH.loopK (catL Cs L) k kb (fun x=>⟨envCat Cs (C x) env,B x box,R x row,n⟩) mo I m x0 h0 hm h1 fun x hx=>by
  have:=h2 x hx
  rwa [envCatK_eq] at this
theorem OkH.sub{c:Code}{M':Blks}(hs:M'.Sublist M)(h:OkH P T c Q s M'):OkH P T c Q s M:=⟨fun w0 F V μ ω a w hS=>h.run w0 F V μ ω a w (hS.sub hs)⟩
theorem OkH.step{c:Code}{X:(St->Prop)->Prop}(hX:∀ {w0:World} {F:Fr} {V:Vw} {μ:List Nat} {ω:List Value} {a:Act} {w:World} {K:St->Prop},Sim (szOf T) w0 F V μ ω s a w->X K->∃ s' V' μ' ω',K s'/\Sim (szOf T) w0 F V' μ' ω' s' a w)
    (h:X fun s=>OkH P T c Q s M):OkH P T c Q s M:=by
 refine⟨fun w0 F V μ ω a w hS=>?_⟩
 obtain⟨s',V',μ',ω',hk,hS'⟩:=hX hS.sim h
 exact hk.run w0 F V' μ' ω' a w (hS.of hS')
end
end Go.Vx
namespace Go.Vx
open Go.RowKit
def BlkIs(sz:TypeId->Nat)(e:TypeId)(n c:Nat)(xs:List (List D))(o:Obj):Prop:=
 ∃ (cur:Array Value) (vals:List Value),o = .cells cur e (0,0)/\n=xs.length/\n<=c/\c<=maxLen/\cur.size=c*sz e/\cur.toList.take (n*sz e)=vals/\vals.length=n*sz e/\RowR sz (fun _=>none) e vals xs
theorem RowR.mono{sz:TypeId->Nat}{V V':Vw}{e:TypeId}{vals:List Value}{xs:List (List D)}(h:RowR sz V e vals xs)(hV:VLe V V'):RowR sz V' e vals xs:=
 ⟨h.one,h.len,fun i rw_ j d a b=>let ⟨u,x,y⟩:=h.rel i rw_ j d a b;⟨u,x,y.mono hV⟩⟩
theorem RowR.ground{sz:TypeId->Nat}{V V':Vw}{e:TypeId}{vals:List Value}{xs:List (List D)}(h:RowR sz V e vals xs)(hg:∀ x ∈ xs,grounds x=true):RowR sz V' e vals xs:=
 ⟨h.one,h.len,fun i rw_ j d a b=>let ⟨u,x,y⟩:=h.rel i rw_ j d a b;⟨u,x,y.ground (grounds_at (hg rw_ (List.mem_of_getElem? a)) j d b)⟩⟩
section
variable {P : Program} {T : Tab} {M : Blks} {Q : Exit → St → Blks → Prop}
theorem OkH.perm{c:Code}{s:St}{M':Blks}(hp:M.Perm M')(h:OkH P T c Q s M'):OkH P T c Q s M:=by
 refine⟨fun w0 F V μ ω a w hS=>h.run w0 F V μ ω a w ?_⟩
 have hm:∀ x ∈ M'++F.kc,x ∈ M++F.kc:=fun x hx=>((hp.append_right F.kc).mem_iff).2 hx
 exact⟨⟨hS.sim.tmps,⟨hS.sim.defers.marks,hS.sim.defers.kept⟩,hS.sim.env,hS.sim.mem.fr rfl hm⟩,((hp.append_right F.kc).map _).nodup_iff.1 hS.nodup⟩
theorem OkH.close(hT:TOk P T){c:Code}{env:List (Nat × D)}{box:List (List D)}{row:Rows}{nn:Nat}{t0 r g n cap:Nat}{e:TypeId}{ti:TI}{xs:List (List D)}(hti:T e=some ti)(ht:look env t0 = .tie r g n cap)
    (hr:row[r]? = some (some (e,xs)))(hg:∀ x ∈ xs,grounds x=true)(h:∀ o,BlkIs (szOf T) e n cap xs o->OkH P T c Q ⟨env,box,row.set r none,nn⟩ ((g,o) :: M)):OkH P T c Q ⟨env,box,row,nn⟩ M:=by
 refine⟨fun w0 F V μ ω a w hS=>?_⟩
 have hv:=hS.sim.env t0
 dsimp only at hv
 rw[ht] at hv
 have hω:=hv.tie_
 have hM:=hS.sim.mem
 dsimp only at hM
 obtain⟨A2,c2,vx,e1,hc,hmx,hA,hA2,hown,hR⟩:=hM.rowShape (hT _ _ hti).small hω hr
 injection e1 with e1 e2 e3
 subst e1 e3
 have hrr:r<row.length:=(List.getElem?_eq_some_iff.1 hr).1
 rcases hown.2 with⟨h1,_⟩|⟨g2,cap2,cur,h1,hb,hh,q1,q2,q3,q4⟩
 . cases h1
 cases h1
 have hOwn:Own μ ω row (.inr r) g:=⟨_,_,hω,hr,rfl⟩
 have own:∀ l b,Own μ ω (row.set r none) l b->Own μ ω row l b/\l ≠ .inr r:=by
  intro l b hl
  cases l with
  | inl i=>exact⟨hl,by simp⟩
  | inr q=>
   obtain⟨u,y,k1,k2,k3⟩:=hl
   by_cases hq:q=r
   . subst hq
     rw[List.getElem?_set_self hrr] at k2
     cases k2
   . rw[List.getElem?_set_ne (Ne.symm hq)] at k2
     exact⟨⟨u,y,k1,k2,k3⟩,by simpa using hq⟩
 refine (h (.cells cur e (0,0)) ⟨cur,vx,rfl,e2,q1,q2,q3,q4,hown.1,hR.ground hg⟩).run w0 F V μ ω a w ⟨⟨hS.sim.tmps,⟨hS.sim.defers.marks,hS.sim.defers.kept⟩,hS.sim.env,?_⟩,?_⟩
 . refine⟨hM.below,hM.vok,hM.vle,hM.vold,hM.bl,hM.hbox,by simp[hM.rl],?_,fun l l' b h1 h2=>hM.uniq l l' b (own l b h1).1 (own l' b h2).1,fun l b h1=>hM.new l b (own l b h1).1,fun p u l hp h1=>hM.vmut p u l hp (own l _ h1).1,fun x hx=>?_⟩
   . intro q u e' ys k1 k2
     by_cases hq:q=r
     . subst hq
       rw[List.getElem?_set_self hrr] at k2
       cases k2
     . rw[List.getElem?_set_ne (Ne.symm hq)] at k2
       exact hM.hrow q u e' ys k1 k2
   . have hx:x ∈ (g,Obj.cells cur e (0,0)) :: (M++F.kc):=hx
     rcases List.mem_cons.1 hx with rfl|hx
     . refine⟨hh,hb,fun l hl=>?_,fun p u hp hpb=>hM.vmut p u (.inr r) hp (hpb ▸ hOwn),fun hn=>hn _ _ _ rfl⟩
       obtain⟨k1,k2⟩:=own l _ hl
       exact k2 (hM.uniq l (.inr r) g k1 hOwn)
     . obtain⟨a1,b1,c1,d1⟩:=hM.away x hx
       exact⟨a1,b1,fun l hl=>c1 l (own l _ hl).1,d1⟩
 . show (((g,Obj.cells cur e (0,0)) :: (M++F.kc)).map (·.1)).Nodup
   rw[List.map_cons,List.nodup_cons]
   refine⟨fun hmem=>?_,hS.nodup⟩
   obtain⟨x,hx,hxg⟩:=List.mem_map.1 hmem
   exact (hM.away x hx).2.2.1 (.inr r) (by rw[hxg];exact hOwn)
theorem OkH.open{c:Code}{env:List (Nat × D)}{box:List (List D)}{row:Rows}{nn:Nat}{g n cap:Nat}(t1:Nat){e:TypeId}{xs:List (List D)}{o:Obj}(hb:BlkIs (szOf T) e n cap xs o)
    (h:natLit row.length fun q=>snocK row (some (e,xs)) fun row'=>OkH P T c Q ⟨(t1,.tie q g n cap) :: env,box,row',nn⟩ M):OkH P T c Q ⟨env,box,row,nn⟩ ((g,o) :: M):=by
 simp only[natLit_eq,snocK_eq] at h
 refine⟨fun w0 F V μ ω a w hS=>?_⟩
 have hM:=hS.sim.mem
 dsimp only at hM
 obtain⟨cur,vals,rfl,hn,q1,q2,q3,q4,q5,hR⟩:=hb
 obtain⟨a1,b1,c1,d1,_⟩:=hM.away (g,.cells cur e (0,0)) (by show _ ∈ _ :: (M++F.kc);simp)
 dsimp only at a1 b1 c1 d1
 have hnd:((g,Obj.cells cur e (0,0)) :: (M++F.kc)).map (·.1) |>.Nodup:=hS.nodup
 rw[List.map_cons,List.nodup_cons] at hnd
 have hl:row.length=ω.length:=hM.rl.symm
 have hpre:Pre ω (ω++[.slice (some ⟨g,0,none⟩) n cap]):=.append _ _
 have hlt:g<w.heap.size:=(Array.getElem?_eq_some_iff.1 a1).1
 refine h.run w0 F V μ (ω++[.slice (some ⟨g,0,none⟩) n cap]) a w ⟨⟨hS.sim.tmps,⟨hS.sim.defers.marks,hS.sim.defers.kept⟩,fun t=>?_,?_⟩,hnd.2⟩
 . show RS _ _ _ _ _ (look ((t1,_) :: env) t)
   unfold look
   split
   . exact .tie _ _ _ _ _ (by rw[hl,List.getElem?_append_right (Nat.le_refl _),Nat.sub_self];rfl)
   . exact (hS.sim.env t).mono (.refl V) (.refl μ) hpre
 . refine⟨hM.below,hM.vok,hM.vle,hM.vold,hM.bl,fun i b cs k1 k2=>?_,by simp[hM.rl],fun r u e' ys k1 k2=>?_,fun l l' b h1 h2=>?_,fun l b h1=>?_,fun p u l hp h1=>?_,fun x hx=>?_⟩
   . obtain⟨us,t',x1,x2,x3,x4,x5⟩:=hM.hbox i b cs k1 k2
     exact⟨us,t',x1,x2,x3,fun j v d' e f=>(x4 j v d' e f).mono (.refl V) (.refl μ) hpre,x5⟩
   . rcases get_append_cases k2 with k2|⟨rfl,k5⟩
     . have hi:r<ω.length:=by rw[hM.rl];exact (List.getElem?_eq_some_iff.1 k2).1
       rw[List.getElem?_append_left hi] at k1
       exact hM.hrow r u e' ys k1 k2
     . rw[hl,List.getElem?_append_right (Nat.le_refl _),Nat.sub_self] at k1
       simp at k1
       subst k1
       cases k5
       have hR2:=hR.mono (V':=V) (fun _ _ h=>by cases h)
       exact⟨vals,⟨by rw[<- hn];exact q5,.inr ⟨g,cap,cur,e,(0,0),by rw[hn],b1,a1,by rw[<- hn];exact q1,q2,q3,by rw[<- hn];exact q4,.inl ⟨rfl,rfl⟩⟩⟩,hR2.one,hR2.len,hR2.rel⟩
   . rcases Own.row_new rfl rfl hM.rl h1 with h3|⟨e1,e2⟩<;>rcases Own.row_new rfl rfl hM.rl h2 with h4|⟨e3,e4⟩
     . exact hM.uniq l l' b h3 h4
     . simp only[Value.ownBlock,Option.some.injEq] at e4;subst e4;exact absurd h3 (c1 l)
     . simp only[Value.ownBlock,Option.some.injEq] at e2;subst e2;exact absurd h4 (c1 l')
     . rw[e1,e3]
   . rcases Own.row_new rfl rfl hM.rl h1 with h1|⟨rfl,e2⟩
     . exact hM.new l b h1
     . simp only[Value.ownBlock,Option.some.injEq] at e2;subst e2;exact⟨b1,hlt⟩
   . rcases Own.row_new rfl rfl hM.rl h1 with h1|⟨rfl,e2⟩
     . exact hM.vmut p u l hp h1
     . simp only[Value.ownBlock,Option.some.injEq] at e2;exact d1 p u hp e2.symm
   . have hx':x ∈ M++F.kc:=hx
     obtain⟨a2,b2,c2,d2⟩:=hM.away x (List.mem_cons_of_mem _ hx')
     refine⟨a2,b2,fun l hl2=>?_,d2⟩
     rcases Own.row_new rfl rfl hM.rl hl2 with h1|⟨rfl,e2⟩
     . exact c2 l h1
     . simp only[Value.ownBlock,Option.some.injEq] at e2
       exact hnd.1 (List.mem_map.2 ⟨x,hx',e2.symm⟩)
end
end Go.Vx
namespace Go.Vx
open Go.RowKit
section
variable {P : Program} {T : Tab} {M : Blks} {Q : Exit → St → Blks → Prop}
theorem OkH.raw(hT:TOk P T){c:Code}{env:List (Nat × D)}{box:List (List D)}{row:Rows}{nn:Nat}(t t1:Nat){r n0:Nat}{e:TypeId}{ti:TI}{xs:List (List D)}(hti:T e=some ti)(ht:look env t = .own r n0)
    (hr:row[r]? = some (some (e,xs)))(hn0:n0=xs.length)
    (hnil:xs=[]->OkH P T c Q ⟨(t,.rnl) :: env,box,row,nn⟩ M)
    (hs:∀ g cap,xs.length<=cap->OkH P T c Q ⟨(t1,.tie r g xs.length cap) :: (t,.rsl g xs.length cap) :: env,box,row,nn⟩ M):OkH P T c Q ⟨env,box,row,nn⟩ M:=by
 refine⟨fun w0 F V μ ω a w hS=>?_⟩
 have hv:=hS.sim.env t
 dsimp only at hv
 rw[ht] at hv
 have hM:=hS.sim.mem
 dsimp only at hM
 obtain⟨A,N,cx,hω,hnN,hve⟩:=hv.own_
 obtain⟨A2,c2,vx,e1,hc,hmx,hA,hA2,hown,hR⟩:=hM.rowShape (hT _ _ hti).small hω hr
 injection e1 with e1 e2 e3
 subst e1 e3
 rcases hown.2 with⟨h1,h2⟩|⟨g2,cap2,cur,h1,hb,hh,q1,q2,q3,q4⟩
 . have hx:xs=[]:=List.eq_nil_of_length_eq_zero h2
   subst hx
   cases h1
   refine (hnil rfl).run w0 F V μ ω a w ⟨⟨hS.sim.tmps,hS.sim.defers,fun t'=>?_,hM⟩,hS.nodup⟩
   show RS _ _ _ _ _ (look ((t,_) :: env) t')
   unfold look
   split
   . rename_i hb
     have:=beq_nat_true hb
     subst this
     rw[hve,hn0]
     exact .imm _ _ .rnl
   . exact hS.sim.env t'
 . cases h1
   refine (hs g2 cx q1).run w0 F V μ ω a w ⟨⟨hS.sim.tmps,hS.sim.defers,fun t'=>?_,hM⟩,hS.nodup⟩
   show RS _ _ _ _ _ (look ((t1,_) :: (t,_) :: env) t')
   unfold look
   split
   . exact .tie _ _ _ _ _ (by rw[hω,e2])
   . unfold look
     split
     . rename_i hb
       have:=beq_nat_true hb
       subst this
       rw[hve,hn0]
       exact .imm _ _ (.rsl _ _ _)
     . exact hS.sim.env t'
theorem OkH.ghost{c:Code}(t:Nat)(e:TypeId){env:List (Nat × D)}{box:List (List D)}{row:Rows}{n:Nat}(ht:look env t = .nilS)
    (h:snocK row (some (e,[])) fun row'=>natLit row.length fun r=>OkH P T c Q ⟨(t,.own r 0) :: env,box,row',n⟩ M):OkH P T c Q ⟨env,box,row,n⟩ M:=by
 refine⟨fun w0 F V μ ω a w hS=>?_⟩
 simp only[snocK_eq,natLit_eq] at h
 have hM:=hS.sim.mem.newRow (w':=w) (Ext.refl w) (v:=.slice none 0 0) (e:=e) (xs:=[]) (vals:=[]) ⟨by simp,.inl ⟨rfl,rfl⟩⟩ ⟨by simp,by simp,by simp⟩ (by simp[Value.ownBlock])
 have hv:=hS.sim.env t
 dsimp only at hv
 rw[ht] at hv
 refine h.run w0 F V μ (ω++[.slice none 0 0]) a w ⟨⟨hS.sim.tmps,hS.sim.defers,fun x=>?_,hM⟩,hS.nodup⟩
 show RS _ _ _ _ _ (look ((t,.own row.length 0) :: env) x)
 unfold look
 split
 . rename_i hb
   rw[<- beq_nat_true hb,hv.nilS_]
   have hl:row.length=ω.length:=hS.sim.mem.rl.symm
   refine .own _ 0 none 0 0 ?_ (Nat.le_refl _)
   rw[hl,List.getElem?_append_right (Nat.le_refl _)]
   simp
 . exact (hS.sim.env x).mono (.refl V) (.refl μ) (.append _ _)
theorem OkH.pad{c:Code}(e:TypeId){env:List (Nat × D)}{box:List (List D)}{row:Rows}{n:Nat}
    (h:snocK row (some (e,[])) fun row'=>OkH P T c Q ⟨env,box,row',n⟩ M):OkH P T c Q ⟨env,box,row,n⟩ M:=by
 refine⟨fun w0 F V μ ω a w hS=>?_⟩
 simp only[snocK_eq] at h
 have hM:=hS.sim.mem.newRow (w':=w) (Ext.refl w) (v:=.slice none 0 0) (e:=e) (xs:=[]) (vals:=[]) ⟨by simp,.inl ⟨rfl,rfl⟩⟩ ⟨by simp,by simp,by simp⟩ (by simp[Value.ownBlock])
 exact h.run w0 F V μ (ω++[.slice none 0 0]) a w ⟨⟨hS.sim.tmps,hS.sim.defers,fun x=>(hS.sim.env x).mono (.refl V) (.refl μ) (.append _ _),hM⟩,hS.nodup⟩
theorem effK.untie{s:St}{f:FuncId}{r g n N c:Nat}{ds:List D}{K:D->St->Prop}(t0:Nat)(ht:look s.env t0 = .tie r g N c)(hn:n<=N)(h:effK P T s f (.own r n :: ds) K):effK P T s f (.rsl g n c :: ds) K:=by
 refine⟨h.call,fun w0 V0 V μ ω a w vs hS hvl hvR=>h.run w0 V0 V μ ω a w vs hS (by simpa using hvl) fun j v d h1 h2=>?_⟩
 cases j with
 | succ j=>exact hvR (j+1) v d h1 (by simpa using h2)
 | zero=>
  simp at h2
  subst h2
  have hv:=hvR 0 v _ h1 rfl
  have h0:=hS.env t0
  rw[ht] at h0
  rw[hv.rsl_]
  exact .own r n _ N c h0.tie_ hn
theorem FSpec.of_okH(hT:TOk P T){f:FuncId}{fn:Func}{c:Code}(hf:P.funcs[f]? = some fn)(hb:fn.body=some c)(hcall:∀ args w,(callFunc f args).run P w = .ok (.enter f args) w){ds:List D}{R:D->Rows->Prop}(hn:ds.length<=fn.ntmps)
    (h:OkH P T c (fun e s _=>endQ T fn R e s) ⟨envOf 0 ds,[],[],fn.ntmps⟩ []):FSpec P T f ds R:=
 .of_run hT hf hb hcall hn fun w V a hS=>wp_mono (h.run w ⟨V,fun _=>undef,[],[],[]⟩ V [] [] a w ⟨hS,List.nodup_nil⟩) fun _ _ _ ⟨s',V',μ',ω',_,hq,hS'⟩=>
  ⟨s',V',μ',ω',hq,hS'.sim.tmps,⟨hS'.sim.defers.marks,hS'.sim.defers.kept⟩,hS'.sim.env,hS'.sim.mem.fr rfl fun x hx=>by cases hx⟩
end
end Go.Vx
namespace Go.Proofs.YtaiondckookpiaaDoor
open Go Go.Vx Go.RowKit
theorem place_at(n:Int)(h:-9223372036854775808<=n/\n<=9223372036854775807):∃ k:Nat,k<8/\FSpec Tryd.prog T 28 [.i .i64 n] (fun d rows=>d = .i .i64 (k:Nat)/\rows=[]):=by
 refine⟨((if n<0 then 0 - (n+1) else n).tmod 8).toNat,?_,?_⟩
 . have:=Int.tmod_lt_of_pos (if n<0 then 0 - (n+1) else n) (b:=8) (by omega)
   have h2:0<=(if n<0 then 0 - (n+1) else n).tmod 8:=Int.tmod_nonneg _ (by split<;>omega)
   omega
 . have h2:0<=(if n<0 then 0 - (n+1) else n).tmod 8:=Int.tmod_nonneg _ (by split<;>omega)
   refine FSpec.of_ok tok Tryd.func28 rfl Tryd.call28 (by simp) ?_
   rw[Int.toNat_of_nonneg h2]
   by_cases h0:n<0
   . rw[if_pos h0]
     (try (conv=>whnf));repeat' (first|refine Ok.seq ?_|((first|refine Ok.region tok ?_|refine Ok.cond ?_|refine Ok.ret ?_|refine nI ?_);conv=>whnf)|(refine bI ?_ ?_<;>intro<;>(conv=>whnf)<;>(try (exfalso;omega)))|((first|refine aJ ?_|refine num_any ?_);conv=>whnf)|fail)
     all_goals first
      | (exfalso;omega)
      | (refine Or.inl ?_;(conv=>whnf)
         exact⟨rfl,rfl⟩)
   . rw[if_neg h0]
     (try (conv=>whnf));repeat' (first|refine Ok.seq ?_|((first|refine Ok.region tok ?_|refine Ok.cond ?_|refine Ok.skip ?_|refine Ok.ret ?_);conv=>whnf)|(refine bI ?_ ?_<;>intro<;>(conv=>whnf)<;>(try (exfalso;omega)))|((first|refine aJ ?_|refine num_any ?_);conv=>whnf)|fail)
     all_goals first
      | (exfalso;omega)
      | (refine Or.inl ?_;(conv=>whnf)
         exact⟨rfl,rfl⟩)
def allC(n:Int):Str:=if n<1\/256<n then [] else List.replicate n.toNat 120
theorem rep_bits(n:Nat)(i:Nat):car (List.replicate n 120) i=false/\one (List.replicate n 120) i=false:=by
 by_cases h:i<n
 . have e:(List.replicate n (120:UInt8))[i]? = some 120:=by simp[List.getElem?_replicate,h]
   rw[(at_b e).1,(at_b e).2]
   exact⟨rfl,rfl⟩
 . exact at_out (by simp;omega)
theorem wof_none{f:Nat->Bool}(h:∀ i,f i=false)(k:Nat):wof f k=0#64:=BitVec.eq_of_getLsbD_eq fun i hi=>by rw[wof_get _ _ _ hi,h];simp
theorem crow_rep(n:Nat):crow (List.replicate n 120)=[.i .i64 n,.i .u64 0,.i .u64 0,.i .u64 0,.i .u64 0,.i .u64 0,.i .u64 0,.i .u64 0,.i .u64 0]:=by
 have h1:=wof_none (fun i=>(rep_bits n i).1)
 have h2:=wof_none (fun i=>(rep_bits n i).2)
 simp only[crow,cells9,h1,h2,List.length_replicate]
 rfl
theorem all_at(n:Int):FSpec Tryd.prog T 84 [.i .i64 n] (fun d rows=>d = .agg (crow (allC n))/\rows=[]):=by
 refine FSpec.of_ok tok Tryd.func84 rfl Tryd.call84 (by simp) ?_
 (try (conv=>whnf));repeat' (first|refine Ok.seq ?_|((first|refine Ok.region tok ?_|refine Ok.cond ?_|refine Ok.skip ?_|refine Ok.ret ?_);conv=>whnf)|(refine bI ?_ ?_<;>intro<;>(conv=>whnf)<;>(try (exfalso;omega)))|fail)
 all_goals
  refine Or.inl ?_;(conv=>whnf)
  refine⟨?_,rfl⟩
  unfold allC
  first
   | (rw[if_pos (by omega),crow_nil];rfl)
   | (rw[if_neg (by omega),crow_rep,Int.toNat_of_nonneg (by omega)];rfl)
def mkC(n k:Nat):Str:=allC (1+((37*(n:Int)+k).tmod 256))
theorem mark_at(n k:Nat)(hn:n<1000)(hk:k<100000):FSpec Tryd.prog T 60 [.i .i64 (n:Nat),.i .i64 (k:Nat)] (fun d _=>d = .agg (crow (mkC n k))):=by
 have h2:0<=(37*(n:Int)+k).tmod 256:=Int.tmod_nonneg _ (by omega)
 have h3:=Int.tmod_lt_of_pos (37*(n:Int)+k) (b:=256) (by omega)
 have hal:=all_at (1+((37*(n:Int)+k).tmod 256))
 refine FSpec.of_ok tok Tryd.func60 rfl Tryd.call60 (by simp) ?_
 (try (conv=>whnf));repeat' (first|refine Ok.seq ?_|((first|refine Ok.region tok ?_|refine Ok.ret ?_|refine nI ?_);conv=>whnf)|(refine Or.inr (Or.inl ?_);(conv=>whnf);(repeat (refine aI ?_;conv=>whnf));refine⟨_,hal , ?_⟩;rintro _ _ ⟨rfl,rfl⟩<;>(conv=>whnf))|((first|refine aJ ?_|refine num_any ?_);conv=>whnf)|fail)
 refine Or.inl ?_;(conv=>whnf)
 rfl
def toldT(l:List Str):Str:=l.flatMap fun c=>c++[32]
theorem toldT_snoc(l:List Str)(c:Str):toldT (l++[c])=toldT l++c++[32]:=by simp[toldT]
theorem toldT_len{l:List Str}(h:∀ c ∈ l,CT c):(toldT l).length<=257*l.length:=by
 induction l with
 | nil=>simp[toldT]
 | cons c l ih=>
  have h1:=(h c (by simp)).len
  have h2:=ih fun c hc=>h c (by simp[hc])
  simp only[toldT,List.flatMap_cons,List.length_append,List.length_cons,List.length_nil] at h2 ⊢
  omega
def toldX(e:Int)(l:List Str):Str:=if e=0 then toldT l else [114,101,102,117,115,101,100]
set_option maxRecDepth 100000 in
set_option maxHeartbeats 4000000 in
theorem told_at(e:Int)(l:List Str){rm:List (List D)}(hl:∀ c ∈ l,CT c)(hll:l.length<=100000):FSpec Tryd.prog T 27 [.lst 69 (l.map crow) rm,.i .i64 e] (fun d rows=>d = .s (toldX e l)/\rows=[]):=by
 have h1:(l.map crow).length=l.length:=by simp
 refine FSpec.of_ok tok Tryd.func27 rfl Tryd.call27 (by simp) ?_
 by_cases h0:e=0
 . rw[show toldX e l=toldT l from if_pos h0]
   subst h0
   (try (conv=>whnf));repeat' (first|refine Ok.seq ?_|((first|refine Ok.region tok ?_|refine Ok.cond ?_);conv=>whnf)|refine Ok.block ?_|(refine Ok.skip ?_;conv=>whnf)|(refine bI ?_ ?_<;>intro<;>(conv=>whnf)<;>(try (exfalso;omega)))|fail)
   refine Ok.ghost 5 5 rfl ?_
   (conv=>whnf)
   refine Ok.loopU [0] [5,6] 1 0 (fun (i:Nat)=>[.own 0 (toldT (l.take i)).length,.i .i64 (i:Nat)]) (fun (i:Nat) (_:List (List D))=>[]) (fun (i:Nat) (_:Vx.Rows)=>[some (5,(toldT (l.take i)).map bcell)]) (fun (i:Nat)=>i<=l.length) (fun (i:Nat)=>l.length - i) (0) (Nat.zero_le _) ?_;(conv=>whnf);refine⟨by ((conv=>whnf);first|rfl|(simp[envCat,List.take_of_length_le,crow,srow,trow,drow];done)|(simp[envCat,List.take_of_length_le,crow,srow,trow,drow];rw[IntKind.wrap_i64];omega)),?_⟩
   intro i hi
   (conv=>whnf)
   by_cases hil:i<l.length
   . obtain⟨c,hc⟩:∃ c,l[i]? = some c:=⟨_,List.getElem?_eq_getElem hil⟩
     have hcI:l[((i:Nat):Int).toNat]? = some c:=hc
     have hct:=hl c (List.mem_of_getElem? hc)
     have hle:=hct.len
     have htl:=toldT_len (l:=l.take i) fun c hc=>hl c (List.mem_of_mem_take hc)
     have htk:(l.take i).length<=100000:=by simp;omega
     have hbl:((toldT (l.take i)).map bcell).length=(toldT (l.take i)).length:=by simp
     have hbl2:(((toldT (l.take i)).map bcell)++c.map bcell).length=(toldT (l.take i)).length+c.length:=by simp
     (try (conv=>whnf));repeat' (first|refine Ok.seq ?_|((first|refine Ok.region tok ?_|refine Ok.cond ?_);conv=>whnf)|refine Ok.block ?_|((first|refine Ok.skip ?_|refine nI ?_|refine ix _ (by assumption) ?_);conv=>whnf)|(refine Or.inl ?_;(conv=>whnf);(repeat (refine aI ?_;conv=>whnf));refine⟨_,text_at c hct,rfl,?_⟩;conv=>whnf)|((first|refine Alt2.l (aI ?_)|refine⟨_,.inl ⟨rfl,rfl⟩,?_⟩|refine⟨_,_,rfl,rfl,?_⟩);conv=>whnf)|(refine bI ?_ ?_<;>intro<;>(conv=>whnf)<;>(try (exfalso;omega)))|(refine aJ ?_;conv=>whnf)|fail)
     refine⟨i+1,by omega,by omega,?_⟩
     rw[take_snoc hc,toldT_snoc]
     (conv=>whnf)
     simp[envCat,bcell]
   . have hie:i=l.length:=by omega
     subst hie
     rw[List.take_length]
     (try (conv=>whnf));repeat' (first|(refine⟨toldT l,by rw[List.take_of_length_le (by simp)],?_⟩;conv=>whnf)|refine Ok.seq ?_|((first|refine Ok.region tok ?_|refine Ok.cond ?_|refine Ok.exit ?_|refine Ok.ret ?_);conv=>whnf)|(refine bI ?_ ?_<;>intro<;>(conv=>whnf)<;>(try (exfalso;omega)))|(refine aJ ?_;conv=>whnf)|fail)
     refine Or.inl ?_;(conv=>whnf)
     exact⟨rfl,rfl⟩
 . rw[show toldX e l=[114,101,102,117,115,101,100] from if_neg h0]
   (try (conv=>whnf));repeat' (first|refine Ok.seq ?_|((first|refine Ok.region tok ?_|refine Ok.cond ?_|refine Ok.ret ?_);conv=>whnf)|(refine bI ?_ ?_<;>intro<;>(conv=>whnf)<;>(try (exfalso;omega)))|fail)
   all_goals first
    | (exfalso;omega)
    | (refine Or.inl ?_;(conv=>whnf)
       exact⟨rfl,rfl⟩)
end Go.Proofs.YtaiondckookpiaaDoor
namespace Go.Proofs.YtaiondckookpiaaDoor
open Go Go.Vx Go.RowKit
structure Pl where
 n:Int
 ts:List Term
 ks:List TR
 km:List (List D)
structure Pl.Ok(x:Pl):Prop where
 f:Fine x.n x.ts
 a:x.ks.map TR.t=x.ts
@[reducible] def prow(x:Pl):List D:=[.i .i64 x.n,.lst 81 (x.ks.map trow) x.km]
structure En where
 l:D
 g:D
 ks:Blks
 no:Nat
 said:Str
@[reducible] def erow(x:En):List D:=[x.l,x.g,.i .i64 (x.no:Nat),.s x.said]
def blks(es:List En):Blks:=es.flatMap En.ks
theorem blks_cons(e:En)(es:List En):blks (e :: es)=e.ks++blks es:=rfl
theorem blks_snoc(e:En)(es:List En):blks (es++[e])=blks es++e.ks:=by simp[blks]
theorem blks_at:∀ {es:List En} {k:Nat} {e:En},es[k]? = some e->(blks es).Perm (e.ks++blks (es.eraseIdx k))
 | [],k,e,h=>by simp at h
 | x :: es,0,e,h=>by simp at h;subst h;exact .refl _
 | x :: es,k+1,e,h=>by
  have ih:=blks_at (es:=es) (k:=k) (e:=e) (by simpa using h)
  rw[List.eraseIdx_cons_succ,blks_cons,blks_cons]
  refine (ih.append_left x.ks).trans ?_
  rw[<- List.append_assoc,<- List.append_assoc]
  exact List.perm_append_comm.append_right _
theorem blks_set{es:List En}{k:Nat}{e e':En}(h:es[k]? = some e):(e'.ks++blks (es.eraseIdx k)).Perm (blks (es.set k e')):=by
 have hk:=(List.getElem?_eq_some_iff.1 h).1
 have h2:=blks_at (es:=es.set k e') (k:=k) (e:=e') (List.getElem?_set_self hk)
 rw[List.eraseIdx_set_eq] at h2
 exact h2.symm
theorem _root_.Go.Vx.BlkIs.le{sz:TypeId->Nat}{e:TypeId}{n c:Nat}{xs:List (List D)}{o:Obj}(h:BlkIs sz e n c xs o):n<=c:=by
 obtain⟨_,_,_,_,h,_⟩:=h
 exact h
def marks(i n:Nat):List Str:=(List.range n).map (mkC i)
def fulls(i n j:Nat):List Str:=marks i n++(List.range j).map fun k=>mkC i (131+k)
theorem marks_len(i n:Nat):(marks i n).length=n:=by simp[marks]
theorem fulls_len(i n j:Nat):(fulls i n j).length=n+j:=by simp[fulls,marks_len]
theorem fulls_zero(i n:Nat):fulls i n 0=marks i n:=by simp[fulls]
theorem fulls_snoc(i n j:Nat):fulls i n (j+1)=fulls i n j++[mkC i (131+j)]:=by simp[fulls,List.range_succ]
theorem fulls_at{i n j k:Nat}(h:k<n):(fulls i n j)[k]? = some (mkC i k):=by
 unfold fulls
 rw[List.getElem?_append_left (by rw[marks_len];exact h)]
 simp[marks,h]
theorem fulls_at2{i n j k:Nat}(h:k<j):(fulls i n j)[n+k]? = some (mkC i (131+k)):=by
 unfold fulls
 rw[List.getElem?_append_right (by rw[marks_len];omega),marks_len,Nat.add_sub_cancel_left]
 simp[h]
theorem crow_ground(l:List Str):∀ x ∈ l.map crow,grounds x=true:=by
 intro x hx
 obtain⟨c,_,rfl⟩:=List.mem_map.1 hx
 rfl
theorem mark2_at(n k:Nat)(hn:n<1000)(hk:k<10000):FSpec Tryd.prog T 60 [.i .i64 (n:Nat),.i .i64 (131+(k:Nat))] (fun d _=>d = .agg (crow (mkC n (131+k)))):=by
 have:=mark_at n (131+k) hn (by omega)
 rwa [Int.natCast_add] at this
inductive Fre(i:Nat):En->Prop
 | nil (said):Fre i ⟨.rnl,.lst 69 [] [],[],i,said⟩
 | raw (g c o m said) (hm:∀ c ∈ m,CT c) (hl:m.length<=2048) (hs:m ≠ []->said=toldT m) (hb:BlkIs (szOf T) 69 m.length c (m.map crow) o):Fre i ⟨.rsl g m.length c,.lst 69 [] [],[(g,o)],i,said⟩
inductive Wri(i:Nat):En->Prop
 | nil (said):Wri i ⟨.rnl,.lst 69 [] [],[],i,said⟩
 | raw (g n c o said) (hl:n<=2048) (hb:BlkIs (szOf T) 69 n c ((marks i n).map crow) o):Wri i ⟨.rsl g n c,.lst 69 [] [],[(g,o)],i,said⟩
inductive Gro(i:Nat):En->Prop
 | one (g n c o said) (hl:n<=2048) (hb:BlkIs (szOf T) 69 (n+96) c ((fulls i n 96).map crow) o):Gro i ⟨.rsl g n c,.rsl g (n+96) c,[(g,o)],i,said⟩
 | two (g n c o j g' c' o' said) (hl:n<=2048) (hb:BlkIs (szOf T) 69 (n+j) c ((fulls i n j).map crow) o) (hb':BlkIs (szOf T) 69 (n+96) c' ((fulls i n 96).map crow) o'):Gro i ⟨.rsl g n c,.rsl g' (n+96) c',[(g,o),(g',o')],i,said⟩
 | new (n g' c' o' said) (hn:n=0) (hb':BlkIs (szOf T) 69 (n+96) c' ((fulls i n 96).map crow) o'):Gro i ⟨.rnl,.rsl g' (n+96) c',[(g',o')],i,said⟩
def keepsQ:Exit->St->Blks->Prop:=fun e s _=>endQ T Tryd.f6 (fun r _=>r = .b True) e s
noncomputable def keepsSt(ps:List Pl)(fs:List Str)(es:List En):St:=⟨[(7,.own 0 ps.length),(11,.own 1 fs.length),(15,.own 2 es.length)],[],[some (24,ps.map prow),some (9,fs.map srow),some (59,es.map erow)],Tryd.f6.ntmps⟩
noncomputable def keepsC:Code:=Tryd.f6.body.getD .ret
noncomputable def saidP(p:Pl):Str:=toldX (expO p.n p.ts 2048).1 (expO p.n p.ts 2048).2
end Go.Proofs.YtaiondckookpiaaDoor
namespace Go.Proofs.YtaiondckookpiaaDoor
open Go Go.Vx Go.RowKit
set_option maxRecDepth 100000 in
set_option maxHeartbeats 16000000 in
theorem still_tail(ps:List Pl)(fs:List Str)(es:List En)(hel:es.length<=40)(hes:∀ i e,es[i]? = some e->Gro i e) :
    OkH Tryd.prog T (sndN 13 keepsC) keepsQ (keepsSt ps fs es) (blks es):=by
 have hem:(es.map erow).length=es.length:=by simp
 unfold keepsSt keepsQ keepsC
 (try (conv=>whnf));repeat' (first|refine OkH.seq ?_|(refine OkH.of_ok (Ok.region tok ?_);conv=>whnf)|refine OkH.block ?_|fail)
 refine OkH.loopU [15] [27] 3 0 (fun (i:Nat)=>[.i .i64 (i:Nat)]) (fun (i:Nat) (_:List (List D))=>[]) (fun (i:Nat) (_:Vx.Rows)=>[some (24,ps.map prow),some (9,fs.map srow),some (59,es.map erow)]) (fun (i:Nat)=>blks (es.drop i)) (fun (i:Nat)=>i<=es.length) (fun (i:Nat)=>es.length - i) (0) (Nat.zero_le _) (by first|exact .refl _|exact .cons _ (.refl _)|exact List.nil_sublist _) ?_;(conv=>whnf);refine⟨by ((conv=>whnf);first|rfl|(simp[envCat,List.take_of_length_le,crow,srow,trow,drow];done)|(simp[envCat,List.take_of_length_le,crow,srow,trow,drow];rw[IntKind.wrap_i64];omega)),?_⟩
 intro i hi
 (conv=>whnf)
 by_cases hil:i<es.length
 . obtain⟨e,he⟩:∃ e,es[i]? = some e:=⟨_,List.getElem?_eq_getElem hil⟩
   have heI:es[((i:Nat):Int).toNat]? = some e:=he
   rw[drop_get he,blks_cons]
   have hg:=hes i e he
   cases hg with
   | one g n c o said hl hb=>
    refine OkH.open 500 hb ?_
    (conv=>whnf)
    (try (conv=>whnf));repeat' (first|refine OkH.seq ?_|((first|refine OkH.of_ok (Ok.region tok ?_)|refine OkH.cond ?_);conv=>whnf)|refine OkH.block ?_|((first|refine OkH.skip ?_|refine rd rfl (by assumption) ?_);conv=>whnf)|(refine bI ?_ ?_<;>intro<;>(conv=>whnf)<;>(try (exfalso;omega)))|(refine aJ ?_;conv=>whnf)|fail)
    refine Or.inr (Or.inr (Or.inl ?_));(conv=>whnf);refine⟨_,_,Tryd.func31,rfl,Tryd.call31,?_⟩;(conv=>whnf)
    have hfl:=fulls_len i n 96
    have hfm:((fulls i n 96).map crow).length=n+96:=by rw[List.length_map,hfl]
    have hjl:=fulls_len i n 96
    have hjm:((fulls i n 96).map crow).length=n+96:=by rw[List.length_map,hjl]
    (try (conv=>whnf));repeat' (first|refine Ok.seq ?_|((first|refine Ok.region tok ?_|refine Ok.cond ?_);conv=>whnf)|refine Ok.block ?_|((first|refine Ok.skip ?_|refine nI ?_);conv=>whnf)|(refine bI ?_ ?_<;>intro<;>(conv=>whnf)<;>(try (exfalso;omega)))|fail)
    all_goals first
     | (exfalso;omega)
     | skip
    refine Ok.loopU [1,3,559,74,86] [4] 4 1 (fun (k:Nat)=>[.i .i64 (k:Nat)]) (fun _ b=>b) (fun _ r=>r) (fun (k:Nat)=>k<=n) (fun (k:Nat)=>n - k) (0) (Nat.zero_le _) ?_;(conv=>whnf);refine⟨by ((conv=>whnf);first|rfl|(simp[envCat,List.take_of_length_le,crow,srow,trow,drow];done)|(simp[envCat,List.take_of_length_le,crow,srow,trow,drow];rw[IntKind.wrap_i64];omega)),?_⟩
    intro k hk
    (conv=>whnf)
    by_cases hkl:k<n
    . have hkI:(fulls i n 96)[((k:Nat):Int).toNat]? = some (mkC i k):=fulls_at hkl
      have hjI:(fulls i n 96)[((k:Nat):Int).toNat]? = some (mkC i k):=fulls_at hkl
      (try (conv=>whnf));repeat' (first|((first|refine⟨559,3,_,_,rfl,by omega,?_⟩|refine⟨_,eqCube,by kernel_rfl,?_⟩);conv=>whnf)|(exact absurd (eqDs_self _) (by assumption))|refine Ok.seq ?_|((first|refine Ok.region tok ?_|refine Ok.region_plan (id:=7) tok follows [(6,8,[]),(1,19,[10,9,4,3]),(4,19,[10,9]),(6,19,[10,8]),(8,19,[10]),(17,19,[])] [.q 0,.q 1,.q 2,.q 3,.q 4,.q 5,.q 6,.q 7,.l 8,.q 9,.q 10,.q 11,.q 12,.q 13,.q 14,.q 15,.q 16,.q 17,.q 18,.l 19,.q 20,.q 21] (by kernel_rfl) ?_|refine Ok.cond ?_);conv=>whnf)|refine Ok.block ?_|((first|refine Ok.skip ?_|refine nI ?_);conv=>whnf)|(refine Or.inl ?_;(conv=>whnf);(repeat (refine aI ?_;conv=>whnf));refine⟨_,mark_at i k (by omega) (by omega),rfl,?_⟩;conv=>whnf)|(refine rd rfl (by assumption) ?_;conv=>whnf)|(refine bI ?_ ?_<;>intro<;>(conv=>whnf)<;>(try (exfalso;omega)))|(refine aJ ?_;conv=>whnf)|fail)
      all_goals first
       | (exfalso;omega)
       | (refine⟨k+1,by omega,by omega,?_⟩
          (conv=>whnf)
          rfl)
    . have hke:k=n:=by omega
      subst hke
      (try (conv=>whnf));repeat' (first|refine Ok.seq ?_|((first|refine Ok.region tok ?_|refine Ok.cond ?_);conv=>whnf)|refine Ok.block ?_|(refine Ok.exit ?_;conv=>whnf)|(refine bI ?_ ?_<;>intro<;>(conv=>whnf)<;>(try (exfalso;omega)))|fail)
      all_goals first
       | (exfalso;omega)
       | skip
      refine Ok.loopU [1,3,559,74,86] [5] 4 1 (fun (k:Nat)=>[.i .i64 (k:Nat)]) (fun _ b=>b) (fun _ r=>r) (fun (k:Nat)=>k<=96) (fun (k:Nat)=>96 - k) (0) (Nat.zero_le _) ?_;(conv=>whnf);refine⟨by ((conv=>whnf);first|rfl|(simp[envCat,List.take_of_length_le,crow,srow,trow,drow];done)|(simp[envCat,List.take_of_length_le,crow,srow,trow,drow];rw[IntKind.wrap_i64];omega)),?_⟩
      intro q hq
      (conv=>whnf)
      by_cases hql:q<96
      . have hqI:(fulls i k 96)[((k:Nat)+((q:Nat):Int)).toNat]? = some (mkC i (131+q)):=by rw[show ((k:Nat)+((q:Nat):Int)).toNat=k+q by omega];exact fulls_at2 hql
        (try (conv=>whnf));repeat' (first|((first|refine⟨559,3,_,_,rfl,by omega,?_⟩|refine⟨_,eqCube,by kernel_rfl,?_⟩);conv=>whnf)|(exact absurd (eqDs_self _) (by assumption))|refine Ok.seq ?_|((first|refine Ok.region tok ?_|refine Ok.region_plan (id:=12) tok follows [(8,11,[])] [.q 0,.q 1,.q 2,.q 3,.q 4,.q 5,.q 6,.q 7,.q 8,.q 9,.q 10,.l 11,.q 12] (by kernel_rfl) ?_|refine Ok.cond ?_);conv=>whnf)|refine Ok.block ?_|((first|refine Ok.skip ?_|refine nI ?_);conv=>whnf)|(refine Or.inl ?_;(conv=>whnf);(repeat (refine aI ?_;conv=>whnf));refine⟨_,mark2_at i q (by omega) (by omega),rfl,?_⟩;conv=>whnf)|(refine rd rfl (by assumption) ?_;conv=>whnf)|(refine bI ?_ ?_<;>intro<;>(conv=>whnf)<;>(try (exfalso;omega)))|(refine aJ ?_;conv=>whnf)|fail)
        all_goals first
         | (exfalso;omega)
         | (refine⟨q+1,by omega,by omega,?_⟩
            (conv=>whnf)
            rfl)
      . (try (conv=>whnf));repeat' (first|refine Ok.seq ?_|((first|refine Ok.region tok ?_|refine OkH.of_ok (Ok.region tok ?_)|refine Ok.cond ?_|refine OkH.cond ?_|refine OkH.skip ?_|refine Ok.exit ?_|refine Ok.ret ?_|refine nI ?_);conv=>whnf)|(refine bI ?_ ?_<;>intro<;>(conv=>whnf)<;>(try (exfalso;omega)))|fail)
        all_goals first
         | (exfalso;omega)
         | (refine⟨i+1,by omega,by omega,.refl _,?_⟩
            (conv=>whnf)
            rfl)
   | two g n c o j g' c' o' said hl hb hb'=>
    refine OkH.open 500 hb ?_
    (conv=>whnf)
    refine OkH.open 501 hb' ?_
    (conv=>whnf)
    (try (conv=>whnf));repeat' (first|refine OkH.seq ?_|((first|refine OkH.of_ok (Ok.region tok ?_)|refine OkH.cond ?_);conv=>whnf)|refine OkH.block ?_|((first|refine OkH.skip ?_|refine rd rfl (by assumption) ?_);conv=>whnf)|(refine bI ?_ ?_<;>intro<;>(conv=>whnf)<;>(try (exfalso;omega)))|(refine aJ ?_;conv=>whnf)|fail)
    refine Or.inr (Or.inr (Or.inl ?_));(conv=>whnf);refine⟨_,_,Tryd.func31,rfl,Tryd.call31,?_⟩;(conv=>whnf)
    have hfl:=fulls_len i n 96
    have hfm:((fulls i n 96).map crow).length=n+96:=by rw[List.length_map,hfl]
    have hjl:=fulls_len i n j
    have hjm:((fulls i n j).map crow).length=n+j:=by rw[List.length_map,hjl]
    (try (conv=>whnf));repeat' (first|refine Ok.seq ?_|((first|refine Ok.region tok ?_|refine Ok.cond ?_);conv=>whnf)|refine Ok.block ?_|((first|refine Ok.skip ?_|refine nI ?_);conv=>whnf)|(refine bI ?_ ?_<;>intro<;>(conv=>whnf)<;>(try (exfalso;omega)))|fail)
    all_goals first
     | (exfalso;omega)
     | skip
    refine Ok.loopU [1,3,559,560,74,86] [4] 5 1 (fun (k:Nat)=>[.i .i64 (k:Nat)]) (fun _ b=>b) (fun _ r=>r) (fun (k:Nat)=>k<=n) (fun (k:Nat)=>n - k) (0) (Nat.zero_le _) ?_;(conv=>whnf);refine⟨by ((conv=>whnf);first|rfl|(simp[envCat,List.take_of_length_le,crow,srow,trow,drow];done)|(simp[envCat,List.take_of_length_le,crow,srow,trow,drow];rw[IntKind.wrap_i64];omega)),?_⟩
    intro k hk
    (conv=>whnf)
    by_cases hkl:k<n
    . have hkI:(fulls i n 96)[((k:Nat):Int).toNat]? = some (mkC i k):=fulls_at hkl
      have hjI:(fulls i n j)[((k:Nat):Int).toNat]? = some (mkC i k):=fulls_at hkl
      (try (conv=>whnf));repeat' (first|((first|refine⟨559,3,_,_,rfl,by omega,?_⟩|refine⟨560,4,_,_,rfl,by omega,?_⟩|refine⟨_,eqCube,by kernel_rfl,?_⟩);conv=>whnf)|(exact absurd (eqDs_self _) (by assumption))|refine Ok.seq ?_|((first|refine Ok.region tok ?_|refine Ok.region_plan (id:=7) tok follows [(6,8,[]),(1,19,[10,9,4,3]),(4,19,[10,9]),(6,19,[10,8]),(8,19,[10]),(17,19,[])] [.q 0,.q 1,.q 2,.q 3,.q 4,.q 5,.q 6,.q 7,.l 8,.q 9,.q 10,.q 11,.q 12,.q 13,.q 14,.q 15,.q 16,.q 17,.q 18,.l 19,.q 20,.q 21] (by kernel_rfl) ?_|refine Ok.cond ?_);conv=>whnf)|refine Ok.block ?_|((first|refine Ok.skip ?_|refine nI ?_);conv=>whnf)|(refine Or.inl ?_;(conv=>whnf);(repeat (refine aI ?_;conv=>whnf));refine⟨_,mark_at i k (by omega) (by omega),rfl,?_⟩;conv=>whnf)|(refine rd rfl (by assumption) ?_;conv=>whnf)|(refine bI ?_ ?_<;>intro<;>(conv=>whnf)<;>(try (exfalso;omega)))|(refine aJ ?_;conv=>whnf)|fail)
      all_goals first
       | (exfalso;omega)
       | (refine⟨k+1,by omega,by omega,?_⟩
          (conv=>whnf)
          rfl)
    . have hke:k=n:=by omega
      subst hke
      (try (conv=>whnf));repeat' (first|refine Ok.seq ?_|((first|refine Ok.region tok ?_|refine Ok.cond ?_);conv=>whnf)|refine Ok.block ?_|(refine Ok.exit ?_;conv=>whnf)|(refine bI ?_ ?_<;>intro<;>(conv=>whnf)<;>(try (exfalso;omega)))|fail)
      all_goals first
       | (exfalso;omega)
       | skip
      refine Ok.loopU [1,3,559,560,74,86] [5] 5 1 (fun (k:Nat)=>[.i .i64 (k:Nat)]) (fun _ b=>b) (fun _ r=>r) (fun (k:Nat)=>k<=96) (fun (k:Nat)=>96 - k) (0) (Nat.zero_le _) ?_;(conv=>whnf);refine⟨by ((conv=>whnf);first|rfl|(simp[envCat,List.take_of_length_le,crow,srow,trow,drow];done)|(simp[envCat,List.take_of_length_le,crow,srow,trow,drow];rw[IntKind.wrap_i64];omega)),?_⟩
      intro q hq
      (conv=>whnf)
      by_cases hql:q<96
      . have hqI:(fulls i k 96)[((k:Nat)+((q:Nat):Int)).toNat]? = some (mkC i (131+q)):=by rw[show ((k:Nat)+((q:Nat):Int)).toNat=k+q by omega];exact fulls_at2 hql
        (try (conv=>whnf));repeat' (first|((first|refine⟨560,4,_,_,rfl,by omega,?_⟩|refine⟨_,eqCube,by kernel_rfl,?_⟩);conv=>whnf)|(exact absurd (eqDs_self _) (by assumption))|refine Ok.seq ?_|((first|refine Ok.region tok ?_|refine Ok.region_plan (id:=12) tok follows [(8,11,[])] [.q 0,.q 1,.q 2,.q 3,.q 4,.q 5,.q 6,.q 7,.q 8,.q 9,.q 10,.l 11,.q 12] (by kernel_rfl) ?_|refine Ok.cond ?_);conv=>whnf)|refine Ok.block ?_|((first|refine Ok.skip ?_|refine nI ?_);conv=>whnf)|(refine Or.inl ?_;(conv=>whnf);(repeat (refine aI ?_;conv=>whnf));refine⟨_,mark2_at i q (by omega) (by omega),rfl,?_⟩;conv=>whnf)|(refine rd rfl (by assumption) ?_;conv=>whnf)|(refine bI ?_ ?_<;>intro<;>(conv=>whnf)<;>(try (exfalso;omega)))|(refine aJ ?_;conv=>whnf)|fail)
        all_goals first
         | (exfalso;omega)
         | (refine⟨q+1,by omega,by omega,?_⟩
            (conv=>whnf)
            rfl)
      . (try (conv=>whnf));repeat' (first|refine Ok.seq ?_|((first|refine Ok.region tok ?_|refine OkH.of_ok (Ok.region tok ?_)|refine Ok.cond ?_|refine OkH.cond ?_|refine OkH.skip ?_|refine Ok.exit ?_|refine Ok.ret ?_|refine nI ?_);conv=>whnf)|(refine bI ?_ ?_<;>intro<;>(conv=>whnf)<;>(try (exfalso;omega)))|fail)
        all_goals first
         | (exfalso;omega)
         | (refine⟨i+1,by omega,by omega,.refl _,?_⟩
            (conv=>whnf)
            rfl)
   | new n g' c' o' said hn hb'=>
    refine OkH.open 500 hb' ?_
    (conv=>whnf)
    (try (conv=>whnf));repeat' (first|refine OkH.seq ?_|((first|refine OkH.of_ok (Ok.region tok ?_)|refine OkH.cond ?_);conv=>whnf)|refine OkH.block ?_|((first|refine OkH.skip ?_|refine rd rfl (by assumption) ?_);conv=>whnf)|(refine bI ?_ ?_<;>intro<;>(conv=>whnf)<;>(try (exfalso;omega)))|(refine aJ ?_;conv=>whnf)|fail)
    refine Or.inr (Or.inr (Or.inl ?_));(conv=>whnf);refine⟨_,_,Tryd.func31,rfl,Tryd.call31,?_⟩;(conv=>whnf)
    have hfl:=fulls_len i n 96
    have hfm:((fulls i n 96).map crow).length=n+96:=by rw[List.length_map,hfl]
    have hjl:=fulls_len i n 96
    have hjm:((fulls i n 96).map crow).length=n+96:=by rw[List.length_map,hjl]
    (try (conv=>whnf));repeat' (first|refine Ok.seq ?_|((first|refine Ok.region tok ?_|refine Ok.cond ?_);conv=>whnf)|refine Ok.block ?_|((first|refine Ok.skip ?_|refine nI ?_);conv=>whnf)|(refine bI ?_ ?_<;>intro<;>(conv=>whnf)<;>(try (exfalso;omega)))|fail)
    all_goals first
     | (exfalso;omega)
     | skip
    refine Ok.loopU [1,3,559,74,86] [4] 4 1 (fun (k:Nat)=>[.i .i64 (k:Nat)]) (fun _ b=>b) (fun _ r=>r) (fun (k:Nat)=>k<=0) (fun (k:Nat)=>0 - k) (0) (Nat.zero_le _) ?_;(conv=>whnf);refine⟨by ((conv=>whnf);first|rfl|(simp[envCat,List.take_of_length_le,crow,srow,trow,drow];done)|(simp[envCat,List.take_of_length_le,crow,srow,trow,drow];rw[IntKind.wrap_i64];omega)),?_⟩
    intro k hk
    (conv=>whnf)
    by_cases hkl:k<0
    . have hkI:(fulls i n 96)[((k:Nat):Int).toNat]? = some (mkC i k):=by omega
      have hjI:(fulls i n 96)[((k:Nat):Int).toNat]? = some (mkC i k):=by omega
      (try (conv=>whnf));repeat' (first|refine Ok.seq ?_|((first|refine Ok.region tok ?_|refine Ok.cond ?_);conv=>whnf)|(refine bI ?_ ?_<;>intro<;>(conv=>whnf)<;>(try (exfalso;omega)))|fail)
      all_goals first
       | (exfalso;omega)
       | (refine⟨k+1,by omega,by omega,?_⟩
          (conv=>whnf)
          rfl)
    . have hke:k=0:=by omega
      subst hke
      (try (conv=>whnf));repeat' (first|refine Ok.seq ?_|((first|refine Ok.region tok ?_|refine Ok.cond ?_);conv=>whnf)|refine Ok.block ?_|(refine Ok.exit ?_;conv=>whnf)|(refine bI ?_ ?_<;>intro<;>(conv=>whnf)<;>(try (exfalso;omega)))|fail)
      all_goals first
       | (exfalso;omega)
       | skip
      refine Ok.loopU [1,3,559,74,86] [5] 4 1 (fun (k:Nat)=>[.i .i64 (k:Nat)]) (fun _ b=>b) (fun _ r=>r) (fun (k:Nat)=>k<=96) (fun (k:Nat)=>96 - k) (0) (Nat.zero_le _) ?_;(conv=>whnf);refine⟨by ((conv=>whnf);first|rfl|(simp[envCat,List.take_of_length_le,crow,srow,trow,drow];done)|(simp[envCat,List.take_of_length_le,crow,srow,trow,drow];rw[IntKind.wrap_i64];omega)),?_⟩
      intro q hq
      (conv=>whnf)
      by_cases hql:q<96
      . have hqI:(fulls i n 96)[((0:Int)+((q:Nat):Int)).toNat]? = some (mkC i (131+q)):=by rw[show ((0:Int)+((q:Nat):Int)).toNat=n+q by omega];exact fulls_at2 hql
        (try (conv=>whnf));repeat' (first|((first|refine⟨559,3,_,_,rfl,by omega,?_⟩|refine⟨_,eqCube,by kernel_rfl,?_⟩);conv=>whnf)|(exact absurd (eqDs_self _) (by assumption))|refine Ok.seq ?_|((first|refine Ok.region tok ?_|refine Ok.region_plan (id:=12) tok follows [(8,11,[])] [.q 0,.q 1,.q 2,.q 3,.q 4,.q 5,.q 6,.q 7,.q 8,.q 9,.q 10,.l 11,.q 12] (by kernel_rfl) ?_|refine Ok.cond ?_);conv=>whnf)|refine Ok.block ?_|((first|refine Ok.skip ?_|refine nI ?_);conv=>whnf)|(refine Or.inl ?_;(conv=>whnf);(repeat (refine aI ?_;conv=>whnf));refine⟨_,mark2_at i q (by omega) (by omega),rfl,?_⟩;conv=>whnf)|(refine rd rfl (by assumption) ?_;conv=>whnf)|(refine bI ?_ ?_<;>intro<;>(conv=>whnf)<;>(try (exfalso;omega)))|(refine aJ ?_;conv=>whnf)|fail)
        all_goals first
         | (exfalso;omega)
         | (refine⟨q+1,by omega,by omega,?_⟩
            (conv=>whnf)
            rfl)
      . (try (conv=>whnf));repeat' (first|refine Ok.seq ?_|((first|refine Ok.region tok ?_|refine OkH.of_ok (Ok.region tok ?_)|refine Ok.cond ?_|refine OkH.cond ?_|refine OkH.skip ?_|refine Ok.exit ?_|refine Ok.ret ?_|refine nI ?_);conv=>whnf)|(refine bI ?_ ?_<;>intro<;>(conv=>whnf)<;>(try (exfalso;omega)))|fail)
        all_goals first
         | (exfalso;omega)
         | (refine⟨i+1,by omega,by omega,.refl _,?_⟩
            (conv=>whnf)
            rfl)
 . (try (conv=>whnf));repeat' (first|refine OkH.seq ?_|((first|refine OkH.of_ok (Ok.region tok ?_)|refine OkH.cond ?_|refine OkH.exit ?_|refine OkH.ret ?_);conv=>whnf)|(refine bI ?_ ?_<;>intro<;>(conv=>whnf)<;>(try (exfalso;omega)))|fail)
   all_goals first
    | (exfalso;omega)
    | skip
   refine Or.inl ?_;(conv=>whnf)
   rfl
end Go.Proofs.YtaiondckookpiaaDoor
namespace Go.Proofs.YtaiondckookpiaaDoor
open Go Go.Vx Go.RowKit
set_option maxRecDepth 100000 in
set_option maxHeartbeats 16000000 in
theorem again_tail(ps:List Pl)(hps:∀ p ∈ ps,p.Ok)(es:List En)(hpl:ps.length<=8)(hel:es.length<=40)(hes:∀ i e,es[i]? = some e->Gro i e) :
    OkH Tryd.prog T (sndN 12 keepsC) keepsQ (keepsSt ps (ps.map saidP) es) (blks es):=by
 have hem:(es.map erow).length=es.length:=by simp
 have hpm:(ps.map prow).length=ps.length:=by simp
 have hfl:(ps.map saidP).length=ps.length:=by simp
 have hfm:((ps.map saidP).map srow).length=ps.length:=by simp
 have hst:=still_tail ps (ps.map saidP) es hel hes
 unfold keepsSt keepsQ keepsC at hst ⊢
 (try (conv=>whnf));repeat' (first|refine OkH.seq ?_|(refine OkH.of_ok (Ok.region tok ?_);conv=>whnf)|refine OkH.block ?_|fail)
 refine OkH.loopU [7,11,15] [24] 3 0 (fun (i:Nat)=>[.i .i64 (i:Nat)]) (fun (i:Nat) (_:List (List D))=>[]) (fun (i:Nat) (_:Vx.Rows)=>[some (24,ps.map prow),some (9,(ps.map saidP).map srow),some (59,es.map erow)]) (fun (i:Nat)=>blks es) (fun (i:Nat)=>i<=ps.length) (fun (i:Nat)=>ps.length - i) (0) (Nat.zero_le _) (by first|exact .refl _|exact .cons _ (.refl _)|exact List.nil_sublist _) ?_;(conv=>whnf);refine⟨by ((conv=>whnf);first|rfl|(simp[envCat,List.take_of_length_le,crow,srow,trow,drow];done)|(simp[envCat,List.take_of_length_le,crow,srow,trow,drow];rw[IntKind.wrap_i64];omega)),?_⟩
 intro i hi
 (conv=>whnf)
 by_cases hil:i<ps.length
 . obtain⟨p,hp⟩:∃ p,ps[i]? = some p:=⟨_,List.getElem?_eq_getElem hil⟩
   have hpI:ps[((i:Nat):Int).toNat]? = some p:=hp
   have hsI:(ps.map saidP)[((i:Nat):Int).toNat]? = some (saidP p):=by rw[List.getElem?_map,hpI];rfl
   have hpo:=hps p (List.mem_of_getElem? hp)
   have hx:FSpec Tryd.prog T 26 [.agg (prow p),.i .i64 2048] (fun d rows=>d = .tup [.own 0 (expO p.n p.ts 2048).2.length,.i .i64 (expO p.n p.ts 2048).1]/\rows=[some (69,(expO p.n p.ts 2048).2.map crow)]):=expandO_at hpo.f p.ks p.km hpo.a 2048
   obtain⟨hal,hll⟩:=expO_all (limit:=2048) hpo.f
   have htd:∀ rl rm,rl=(expO p.n p.ts 2048).2.map crow->FSpec Tryd.prog T 27 [.lst 69 rl rm,.i .i64 (expO p.n p.ts 2048).1] (fun d _=>d = .s (saidP p)):=fun rl rm h=>h ▸ (told_at (expO p.n p.ts 2048).1 _ (fun c hc=>(hal c hc).1.1) (by omega)).mono fun _ _ h=>h.1
   have hml:((expO p.n p.ts 2048).2.map crow).length=(expO p.n p.ts 2048).2.length:=by simp
   generalize expO p.n p.ts 2048=ox at *
   obtain⟨xe,xl⟩:=ox
   dsimp only at *
   (try (conv=>whnf));repeat' (first|(exact absurd rfl (by assumption))|refine OkH.seq ?_|((first|refine OkH.of_ok (Ok.region tok ?_)|refine OkH.of_ok (Ok.region_draw tok follows (by kernel_rfl) ?_)|refine OkH.cond ?_);conv=>whnf)|refine OkH.block ?_|((first|refine OkH.skip ?_|refine nI ?_|refine⟨_,htd _ _ (List.take_of_length_le (Nat.le_of_eq hml)),rfl,?_⟩);conv=>whnf)|(refine Or.inr (Or.inl ?_);(conv=>whnf);(repeat (refine aI ?_;conv=>whnf));refine⟨_,hx , ?_⟩;rintro _ _ ⟨rfl,rfl⟩<;>(conv=>whnf))|(refine rd rfl (by assumption) ?_;conv=>whnf)|(refine bI ?_ ?_<;>intro<;>(conv=>whnf)<;>(try (exfalso;omega)))|(refine aJ ?_;conv=>whnf)|fail)
   all_goals first
    | (exfalso;omega)
    | (refine⟨i+1,by omega,by omega,.refl _,?_⟩
       (conv=>whnf)
       rfl)
 . have hie:i=ps.length:=by omega
   subst hie
   (try (conv=>whnf));repeat' (first|(refine OkH.keep (c:=sndN 13 (Tryd.f6.body.getD .ret)) [7,11,15] 3 0 ?_;(conv=>whnf);exact hst)|refine OkH.seq ?_|((first|refine OkH.of_ok (Ok.region tok ?_)|refine OkH.cond ?_|refine OkH.exit ?_);conv=>whnf)|(refine bI ?_ ?_<;>intro<;>(conv=>whnf)<;>(try (exfalso;omega)))|fail)
   all_goals first
    | (exfalso;omega)
end Go.Proofs.YtaiondckookpiaaDoor
namespace Go.Proofs.YtaiondckookpiaaDoor
open Go Go.Vx Go.RowKit
inductive GR(i n a c:Nat):Nat->D->D->D->Vx.Rows->Prop
 | one (j):GR i n a c j (.rsl a (n+j) c) (.tie 3 a (n+j) c) .u [some (69,(fulls i n j).map crow),some (69,[])]
 | two (q a' c' j):GR i n a c j (.rsl a' (n+j) c') (.tie 3 a (n+q) c) (.tie 4 a' (n+j) c') [some (69,(fulls i n q).map crow),some (69,(fulls i n j).map crow)]
inductive GN(i n:Nat):Nat->D->D->Vx.Rows->Prop
 | zero (h:n=0):GN i n 0 .rnl .u []
 | new (h:n=0) (a' c' j z):GN i n j (.rsl a' (n+j) c') (.tie 4 a' (n+j) c') [z,some (69,(fulls i n j).map crow)]
set_option maxRecDepth 100000 in
set_option maxHeartbeats 16000000 in
theorem grown_tail(ps:List Pl)(hps:∀ p ∈ ps,p.Ok)(es:List En)(hpl:ps.length<=8)(hel:es.length<=40)(hes:∀ i e,es[i]? = some e->Wri i e) :
    OkH Tryd.prog T (sndN 11 keepsC) keepsQ (keepsSt ps (ps.map saidP) es) (blks es):=by
 have hem:(es.map erow).length=es.length:=by simp
 have hfl:(ps.map saidP).length=ps.length:=by simp
 have hnext:=fun es2 hel2 hes2=>again_tail ps hps es2 hpl hel2 hes2
 unfold keepsSt keepsQ keepsC at hnext ⊢
 (try (conv=>whnf));repeat' (first|refine OkH.seq ?_|(refine OkH.of_ok (Ok.region tok ?_);conv=>whnf)|refine OkH.block ?_|fail)
 refine OkH.loopU [7,11,15] [23] 3 0 (fun (x:Nat × List En)=>[.i .i64 (x.1:Nat)]) (fun (x:Nat × List En) (_:List (List D))=>[]) (fun (x:Nat × List En) (_:Vx.Rows)=>[some (24,ps.map prow),some (9,(ps.map saidP).map srow),some (59,x.2.map erow)]) (fun (x:Nat × List En)=>blks x.2) (fun (x:Nat × List En)=>x.1<=es.length/\x.2.length=es.length/\(∀ i e,x.2[i]? = some e->i<x.1->Gro i e)/\(∀ i e,x.2[i]? = some e->x.1<=i->Wri i e)) (fun (x:Nat × List En)=>es.length - x.1) ((0,es)) (⟨Nat.zero_le _,rfl,fun i e _ h=>absurd h (Nat.not_lt_zero _),fun i e h _=>hes i e h⟩) (by first|exact .refl _|exact .cons _ (.refl _)|exact List.nil_sublist _) ?_;(conv=>whnf);refine⟨by ((conv=>whnf);first|rfl|(simp[envCat,List.take_of_length_le,crow,srow,trow,drow];done)|(simp[envCat,List.take_of_length_le,crow,srow,trow,drow];rw[IntKind.wrap_i64];omega)),?_⟩
 rintro⟨i,ys⟩ ⟨hi,hyl,hg,hw⟩
 dsimp only at hi hyl hg hw ⊢
 have hym:(ys.map erow).length=es.length:=by simp[hyl]
 (conv=>whnf)
 by_cases hil:i<es.length
 . obtain⟨e,he⟩:∃ e,ys[i]? = some e:=⟨_,List.getElem?_eq_getElem (by omega)⟩
   have heI:ys[((i:Nat):Int).toNat]? = some e:=he
   have next:∀ e',Gro i e'->(∀ q x,(ys.set i e')[q]? = some x->q<i+1->Gro q x)/\(∀ q x,(ys.set i e')[q]? = some x->i+1<=q->Wri q x):=fun e' h'=>
    ⟨fun q x hq hlt=>by
     by_cases hqi:i=q
     . subst hqi
       rw[List.getElem?_set_self (by omega)] at hq
       cases hq
       exact h'
     . rw[List.getElem?_set_ne hqi] at hq
       exact hg q x hq (by omega),fun q x hq hle=>by
     rw[List.getElem?_set_ne (by omega)] at hq
     exact hw q x hq (by omega)⟩
   refine OkH.perm (blks_at he) ?_
   have hwi:=hw i e he (Nat.le_refl _)
   cases hwi with
   | nil said=>
    obtain⟨n,hn0⟩:∃ n:Nat,n=0:=⟨0,rfl⟩
    (conv=>whnf)
    (try (conv=>whnf));repeat' (first|refine OkH.seq ?_|((first|refine OkH.of_ok (Ok.region tok ?_)|refine OkH.cond ?_);conv=>whnf)|refine OkH.block ?_|((first|refine OkH.skip ?_|refine rd rfl (by assumption) ?_);conv=>whnf)|(refine bI ?_ ?_<;>intro<;>(conv=>whnf)<;>(try (exfalso;omega)))|(refine aJ ?_;conv=>whnf)|fail)
    refine Or.inr (Or.inr (Or.inl ?_));(conv=>whnf);refine⟨_,_,Tryd.func30,rfl,Tryd.call30,?_⟩;(conv=>whnf)
    (try (conv=>whnf));repeat' (first|refine Ok.seq ?_|(refine Ok.region tok ?_;conv=>whnf)|refine Ok.block ?_|fail)
    refine Ok.loopU [1,2,29,33,37,45,193,194] [3,523] 5 2 (fun (x:Nat × D × D × Vx.Rows)=>[.i .i64 (x.1:Nat),x.2.2.1]) (fun (x:Nat × D × D × Vx.Rows) (_:List (List D))=>[[.rnl,x.2.1,.i .i64 (i:Nat),.s said],[.nilS,.nilS,.i .i64 0,.s []]]) (fun (x:Nat × D × D × Vx.Rows) (_:Vx.Rows)=>some (24,ps.map prow) :: some (9,(ps.map saidP).map srow) :: some (59,ys.map erow) :: x.2.2.2) (fun (x:Nat × D × D × Vx.Rows)=>x.1<=96/\GN i n x.1 x.2.1 x.2.2.1 x.2.2.2) (fun (x:Nat × D × D × Vx.Rows)=>96 - x.1) ((0,.rnl,.u,[])) (⟨Nat.zero_le _,.zero hn0⟩) ?_;(conv=>whnf);refine⟨by ((conv=>whnf);first|rfl|(simp[envCat,List.take_of_length_le,crow,srow,trow,drow];done)|(simp[envCat,List.take_of_length_le,crow,srow,trow,drow];rw[IntKind.wrap_i64];omega)),?_⟩
    rintro⟨j,gg,t1,rr⟩ ⟨hj,hI⟩
    dsimp only at hj hI ⊢
    have hfj:=fulls_len i n j
    have hfm:((fulls i n j).map crow).length=n+j:=by rw[List.length_map,hfj]
    cases hI with
    | zero hn=>
     (conv=>whnf)
     (try (conv=>whnf));repeat' (first|(refine⟨523,?_⟩;(conv=>whnf);refine⟨by simp,_,.inl ⟨rfl,rfl⟩,?_⟩;(conv=>whnf);refine⟨by simp,by simp,(fulls i n (0+1)).map crow,n+(0+1),by rw[hn0];rfl,by simp[fulls_len],fun g' c' hc'=>?_⟩;(conv=>whnf))|refine Ok.seq ?_|((first|refine Ok.region tok ?_|refine Ok.region_plan (id:=5) tok follows [(3,6,[]),(3,7,[6]),(6,7,[]),(0,8,[1]),(1,8,[]),(2,8,[6,3]),(3,8,[6]),(4,8,[6,5]),(5,8,[6]),(6,8,[]),(7,8,[]),(1,10,[]),(3,10,[]),(6,10,[]),(7,10,[]),(8,10,[])] [.q 0,.q 1,.q 2,.q 3,.q 4,.q 5,.l 6,.l 7,.l 8,.q 9,.l 10] (by kernel_rfl) ?_|refine Ok.cond ?_);conv=>whnf)|refine Ok.block ?_|((first|refine Ok.skip ?_|refine nI ?_);conv=>whnf)|(refine Or.inl ?_;(conv=>whnf);(repeat (refine aI ?_;conv=>whnf));refine⟨_,mark2_at i 0 (by omega) (by omega),rfl,?_⟩;conv=>whnf)|(refine bI ?_ ?_<;>intro<;>(conv=>whnf)<;>(try (exfalso;omega)))|fail)
     all_goals first
      | (exfalso;omega)
      | (refine⟨(0+1,.rsl g' (n+(0+1)) c',.tie 4 g' (n+(0+1)) c',[some (69,[crow (mkC i (131+0))]),some (69,(fulls i n (0+1)).map crow)]),by dsimp only;omega,⟨by dsimp only;omega,GN.new hn0 g' c' (0+1) (some (69,[crow (mkC i (131+0))]))⟩,?_⟩
         (conv=>whnf)
         rfl)

    | new hn a' c' _ z=>
     (conv=>whnf)
     by_cases hjl:j<96
     . skip
       (try (conv=>whnf));repeat' (first|((first|refine⟨523,523,4,rfl,?_⟩|refine⟨(fulls i n (j+1)).map crow,n+(j+1),by simp[fulls_snoc],by simp[fulls_len],?_⟩);conv=>whnf)|(refine⟨fun _=>?_,fun _=>⟨4,by (conv=>whnf);exact True.intro,fun g'' c'' hc'=>?_⟩⟩<;>(conv=>whnf))|refine Ok.seq ?_|((first|refine Ok.region tok ?_|refine Ok.region_plan (id:=5) tok follows [(3,6,[]),(3,7,[6]),(6,7,[]),(0,8,[1]),(1,8,[]),(2,8,[6,3]),(3,8,[6]),(4,8,[6,5]),(5,8,[6]),(6,8,[]),(7,8,[]),(1,10,[]),(3,10,[]),(6,10,[]),(7,10,[]),(8,10,[])] [.q 0,.q 1,.q 2,.q 3,.q 4,.q 5,.l 6,.l 7,.l 8,.q 9,.l 10] (by kernel_rfl) ?_|refine Ok.cond ?_);conv=>whnf)|refine Ok.block ?_|((first|refine Ok.skip ?_|refine nI ?_);conv=>whnf)|(refine Or.inl ?_;(conv=>whnf);(repeat (refine aI ?_;conv=>whnf));refine⟨_,mark2_at i j (by omega) (by omega),rfl,?_⟩;conv=>whnf)|(refine⟨_,.inl ⟨rfl,rfl⟩,?_⟩;conv=>whnf)|(refine bI ?_ ?_<;>intro<;>(conv=>whnf)<;>(try (exfalso;omega)))|(refine aJ ?_;conv=>whnf)|fail)
       all_goals first
        | (exfalso;omega)
        | (refine⟨(j+1,.rsl a' (n+(j+1)) c',.tie 4 a' (n+(j+1)) c',[z,some (69,(fulls i n (j+1)).map crow)]),by dsimp only;omega,⟨by dsimp only;omega,GN.new hn0 a' c' (j+1) z⟩,?_⟩
           (conv=>whnf)
           rfl)
        | (refine⟨(j+1,.rsl g'' (n+(j+1)) c'',.tie 4 g'' (n+(j+1)) c'',[z,some (69,(fulls i n (j+1)).map crow)]),by dsimp only;omega,⟨by dsimp only;omega,GN.new hn0 g'' c'' (j+1) z⟩,?_⟩
           (conv=>whnf)
           rfl)

     . skip
       have hje:j=96:=by omega
       subst hje
       (try (conv=>whnf));repeat' (first|((first|refine st ⟨.rnl,.rsl a' (n+96) c',[],i,said⟩ heI (by simp) (by simp[setCells]) ?_|refine OkH.close tok (t0:=501) (ti:=_) rfl rfl rfl (crow_ground _) fun o2 ho2=>?_);conv=>whnf)|(refine OkH.perm (blks_set (e':=⟨.rnl,.rsl a' (n+96) c',[(a',o2)],i,said⟩) he) ?_)|refine Ok.seq ?_|((first|refine Ok.region tok ?_|refine OkH.of_ok (Ok.region tok ?_)|refine Ok.cond ?_|refine Ok.exit ?_|refine Ok.ret ?_|refine nI ?_);conv=>whnf)|(refine bI ?_ ?_<;>intro<;>(conv=>whnf)<;>(try (exfalso;omega)))|(refine aJ ?_;conv=>whnf)|fail)
       all_goals first
        | (exfalso;omega)
        | (refine⟨(i+1,ys.set i ⟨.rnl,.rsl a' (n+96) c',[(a',o2)],i,said⟩),by dsimp only;omega,⟨by dsimp only;omega,by simp[hyl],next _ (Gro.new n a' c' o2 said hn0 ho2)⟩,.refl _,?_⟩
           (conv=>whnf)
           simp[envCat,List.map_set])

   | raw g n c o said hl hb=>
    refine OkH.open 500 hb ?_
    have hnc:n<=c:=hb.le
    (conv=>whnf)
    refine OkH.pad 69 ?_
    (conv=>whnf)
    (try (conv=>whnf));repeat' (first|refine OkH.seq ?_|((first|refine OkH.of_ok (Ok.region tok ?_)|refine OkH.cond ?_);conv=>whnf)|refine OkH.block ?_|((first|refine OkH.skip ?_|refine rd rfl (by assumption) ?_);conv=>whnf)|(refine bI ?_ ?_<;>intro<;>(conv=>whnf)<;>(try (exfalso;omega)))|(refine aJ ?_;conv=>whnf)|fail)
    refine Or.inr (Or.inr (Or.inl ?_));(conv=>whnf);refine⟨_,_,Tryd.func30,rfl,Tryd.call30,?_⟩;(conv=>whnf)
    (try (conv=>whnf));repeat' (first|refine Ok.seq ?_|(refine Ok.region tok ?_;conv=>whnf)|refine Ok.block ?_|fail)
    rw[<- fulls_zero]
    refine Ok.loopU [1,2,29,33,37,45,193,194] [3,522,523] 5 2 (fun (x:Nat × D × D × D × Vx.Rows)=>[.i .i64 (x.1:Nat),x.2.2.1,x.2.2.2.1]) (fun (x:Nat × D × D × D × Vx.Rows) (_:List (List D))=>[[.rsl g n c,x.2.1,.i .i64 (i:Nat),.s said],[.nilS,.nilS,.i .i64 0,.s []]]) (fun (x:Nat × D × D × D × Vx.Rows) (_:Vx.Rows)=>some (24,ps.map prow) :: some (9,(ps.map saidP).map srow) :: some (59,ys.map erow) :: x.2.2.2.2) (fun (x:Nat × D × D × D × Vx.Rows)=>x.1<=96/\GR i n g c x.1 x.2.1 x.2.2.1 x.2.2.2.1 x.2.2.2.2) (fun (x:Nat × D × D × D × Vx.Rows)=>96 - x.1) ((0,.rsl g n c,.tie 3 g n c,.u,[some (69,(fulls i n 0).map crow),some (69,[])])) (⟨Nat.zero_le _,.one 0⟩) ?_;(conv=>whnf);refine⟨by ((conv=>whnf);first|rfl|(simp[envCat,List.take_of_length_le,crow,srow,trow,drow];done)|(simp[envCat,List.take_of_length_le,crow,srow,trow,drow];rw[IntKind.wrap_i64];omega)),?_⟩
    rintro⟨j,gg,t0,t1,rr⟩ ⟨hj,hI⟩
    dsimp only at hj hI ⊢
    have hfj:=fulls_len i n j
    have hfm:((fulls i n j).map crow).length=n+j:=by rw[List.length_map,hfj]
    cases hI with
    | one=>
     (conv=>whnf)
     by_cases hjl:j<96
     . skip
       (try (conv=>whnf));repeat' (first|((first|refine⟨522,523,3,rfl,?_⟩|refine⟨(fulls i n (j+1)).map crow,n+(j+1),by simp[fulls_snoc],by simp[fulls_len],?_⟩);conv=>whnf)|(refine⟨fun _=>?_,fun _=>⟨4,by (conv=>whnf);exact True.intro,fun g' c' hc'=>?_⟩⟩<;>(conv=>whnf))|refine Ok.seq ?_|((first|refine Ok.region tok ?_|refine Ok.region_plan (id:=5) tok follows [(3,6,[]),(3,7,[6]),(6,7,[]),(0,8,[1]),(1,8,[]),(2,8,[6,3]),(3,8,[6]),(4,8,[6,5]),(5,8,[6]),(6,8,[]),(7,8,[]),(1,10,[]),(3,10,[]),(6,10,[]),(7,10,[]),(8,10,[])] [.q 0,.q 1,.q 2,.q 3,.q 4,.q 5,.l 6,.l 7,.l 8,.q 9,.l 10] (by kernel_rfl) ?_|refine Ok.cond ?_);conv=>whnf)|refine Ok.block ?_|((first|refine Ok.skip ?_|refine nI ?_);conv=>whnf)|(refine Or.inl ?_;(conv=>whnf);(repeat (refine aI ?_;conv=>whnf));refine⟨_,mark2_at i j (by omega) (by omega),rfl,?_⟩;conv=>whnf)|(refine⟨_,.inl ⟨rfl,rfl⟩,?_⟩;conv=>whnf)|(refine bI ?_ ?_<;>intro<;>(conv=>whnf)<;>(try (exfalso;omega)))|(refine aJ ?_;conv=>whnf)|fail)
       all_goals first
        | (exfalso;omega)
        | (refine⟨(j+1,.rsl g (n+(j+1)) c,.tie 3 g (n+(j+1)) c,.u,[some (69,(fulls i n (j+1)).map crow),some (69,[])]),by dsimp only;omega,⟨by dsimp only;omega,.one (j+1)⟩,?_⟩
           (conv=>whnf)
           rfl)
        | (refine⟨(j+1,.rsl g' (n+(j+1)) c',.tie 3 g (n+j) c,.tie 4 g' (n+(j+1)) c',[some (69,(fulls i n j).map crow),some (69,(fulls i n (j+1)).map crow)]),by dsimp only;omega,⟨by dsimp only;omega,GR.two j g' c' (j+1)⟩,?_⟩
           (conv=>whnf)
           rfl)

     . skip
       have hje:j=96:=by omega
       subst hje
       (try (conv=>whnf));repeat' (first|((first|refine st ⟨.rsl g n c,.rsl g (n+96) c,[],i,said⟩ heI (by simp) (by simp[setCells]) ?_|refine OkH.close tok (t0:=500) (ti:=_) rfl rfl rfl (crow_ground _) fun o1 ho1=>?_);conv=>whnf)|(refine OkH.perm (blks_set (e':=⟨.rsl g n c,.rsl g (n+96) c,[(g,o1)],i,said⟩) he) ?_)|refine Ok.seq ?_|((first|refine Ok.region tok ?_|refine OkH.of_ok (Ok.region tok ?_)|refine Ok.cond ?_|refine Ok.exit ?_|refine Ok.ret ?_|refine nI ?_);conv=>whnf)|(refine bI ?_ ?_<;>intro<;>(conv=>whnf)<;>(try (exfalso;omega)))|(refine aJ ?_;conv=>whnf)|fail)
       all_goals first
        | (exfalso;omega)
        | (refine⟨(i+1,ys.set i ⟨.rsl g n c,.rsl g (n+96) c,[(g,o1)],i,said⟩),by dsimp only;omega,⟨by dsimp only;omega,by simp[hyl],next _ (Gro.one g n c o1 said hl ho1)⟩,.refl _,?_⟩
           (conv=>whnf)
           simp[envCat,List.map_set])

    | two q a' c'=>
     (conv=>whnf)
     by_cases hjl:j<96
     . skip
       (try (conv=>whnf));repeat' (first|((first|refine⟨523,523,4,rfl,?_⟩|refine⟨(fulls i n (j+1)).map crow,n+(j+1),by simp[fulls_snoc],by simp[fulls_len],?_⟩);conv=>whnf)|(refine⟨fun _=>?_,fun _=>⟨4,by (conv=>whnf);exact True.intro,fun g'' c'' hc'=>?_⟩⟩<;>(conv=>whnf))|refine Ok.seq ?_|((first|refine Ok.region tok ?_|refine Ok.region_plan (id:=5) tok follows [(3,6,[]),(3,7,[6]),(6,7,[]),(0,8,[1]),(1,8,[]),(2,8,[6,3]),(3,8,[6]),(4,8,[6,5]),(5,8,[6]),(6,8,[]),(7,8,[]),(1,10,[]),(3,10,[]),(6,10,[]),(7,10,[]),(8,10,[])] [.q 0,.q 1,.q 2,.q 3,.q 4,.q 5,.l 6,.l 7,.l 8,.q 9,.l 10] (by kernel_rfl) ?_|refine Ok.cond ?_);conv=>whnf)|refine Ok.block ?_|((first|refine Ok.skip ?_|refine nI ?_);conv=>whnf)|(refine Or.inl ?_;(conv=>whnf);(repeat (refine aI ?_;conv=>whnf));refine⟨_,mark2_at i j (by omega) (by omega),rfl,?_⟩;conv=>whnf)|(refine⟨_,.inl ⟨rfl,rfl⟩,?_⟩;conv=>whnf)|(refine bI ?_ ?_<;>intro<;>(conv=>whnf)<;>(try (exfalso;omega)))|(refine aJ ?_;conv=>whnf)|fail)
       all_goals first
        | (exfalso;omega)
        | (refine⟨(j+1,.rsl a' (n+(j+1)) c',.tie 3 g (n+q) c,.tie 4 a' (n+(j+1)) c',[some (69,(fulls i n q).map crow),some (69,(fulls i n (j+1)).map crow)]),by dsimp only;omega,⟨by dsimp only;omega,GR.two q a' c' (j+1)⟩,?_⟩
           (conv=>whnf)
           rfl)
        | (refine⟨(j+1,.rsl g'' (n+(j+1)) c'',.tie 3 g (n+q) c,.tie 4 g'' (n+(j+1)) c'',[some (69,(fulls i n q).map crow),some (69,(fulls i n (j+1)).map crow)]),by dsimp only;omega,⟨by dsimp only;omega,GR.two q g'' c'' (j+1)⟩,?_⟩
           (conv=>whnf)
           rfl)

     . skip
       have hje:j=96:=by omega
       subst hje
       (try (conv=>whnf));repeat' (first|((first|refine st ⟨.rsl g n c,.rsl a' (n+96) c',[],i,said⟩ heI (by simp) (by simp[setCells]) ?_|refine OkH.close tok (t0:=501) (ti:=_) rfl rfl rfl (crow_ground _) fun o2 ho2=>?_|refine OkH.close tok (t0:=500) (ti:=_) rfl rfl rfl (crow_ground _) fun o1 ho1=>?_);conv=>whnf)|(refine OkH.perm (blks_set (e':=⟨.rsl g n c,.rsl a' (n+96) c',[(g,o1),(a',o2)],i,said⟩) he) ?_)|refine Ok.seq ?_|((first|refine Ok.region tok ?_|refine OkH.of_ok (Ok.region tok ?_)|refine Ok.cond ?_|refine Ok.exit ?_|refine Ok.ret ?_|refine nI ?_);conv=>whnf)|(refine bI ?_ ?_<;>intro<;>(conv=>whnf)<;>(try (exfalso;omega)))|(refine aJ ?_;conv=>whnf)|fail)
       all_goals first
        | (exfalso;omega)
        | (refine⟨(i+1,ys.set i ⟨.rsl g n c,.rsl a' (n+96) c',[(g,o1),(a',o2)],i,said⟩),by dsimp only;omega,⟨by dsimp only;omega,by simp[hyl],next _ (Gro.two g n c o1 q a' c' o2 said hl ho1 ho2)⟩,.refl _,?_⟩
           (conv=>whnf)
           simp[envCat,List.map_set])

 . have hie:i=es.length:=by omega
   subst hie
   (try (conv=>whnf));repeat' (first|(refine OkH.keep (c:=sndN 12 (Tryd.f6.body.getD .ret)) [7,11,15] 3 0 ?_;(conv=>whnf);rw[<- hyl];exact hnext ys (by omega) (fun i e h=>hg i e h (by have:=(List.getElem?_eq_some_iff.1 h).1;omega)))|refine OkH.seq ?_|((first|refine OkH.of_ok (Ok.region tok ?_)|refine OkH.cond ?_|refine OkH.exit ?_);conv=>whnf)|(refine bI ?_ ?_<;>intro<;>(conv=>whnf)<;>(try (exfalso;omega)))|fail)
   all_goals first
    | (exfalso;omega)
end Go.Proofs.YtaiondckookpiaaDoor
namespace Go.Proofs.YtaiondckookpiaaDoor
open Go Go.Vx Go.RowKit
theorem map_same{α β:Type}{f:α->β}{l:List α}{i:Nat}{a a':α}(h:l[i]? = some a)(hf:f a'=f a):(l.set i a').map f=l.map f:=by
 apply List.ext_getElem?
 intro q
 rw[List.getElem?_map,List.getElem?_map]
 by_cases hq:i=q
 . subst hq
   rw[List.getElem?_set_self (List.getElem?_eq_some_iff.1 h).1,h]
   exact congrArg some hf
 . rw[List.getElem?_set_ne hq]
theorem wrt_set{i j:Nat}{m:List Str}(h:j<m.length):((marks i m.length).take j++m.drop j).set j (mkC i j)=(marks i m.length).take (j+1)++m.drop (j+1):=by
 have e1:(marks i m.length)[j]? = some (mkC i j):=by simp[marks,h]
 have hl:((marks i m.length).take j).length=j:=by rw[List.length_take,marks_len];omega
 rw[take_snoc e1,List.drop_eq_getElem_cons h,List.set_append_right _ _ (by omega),hl,Nat.sub_self,List.set_cons_zero,List.append_assoc]
 rfl
set_option maxRecDepth 100000 in
set_option maxHeartbeats 16000000 in
theorem write_tail(ps:List Pl)(hps:∀ p ∈ ps,p.Ok)(es:List En)(hpl:ps.length<=8)(hel:es.length<=40)(hes:∀ i e,es[i]? = some e->Fre i e) :
    OkH Tryd.prog T (sndN 10 keepsC) keepsQ (keepsSt ps (ps.map saidP) es) (blks es):=by
 have hem:(es.map erow).length=es.length:=by simp
 have hfl:(ps.map saidP).length=ps.length:=by simp
 have hnext:=fun es2 hel2 hes2=>grown_tail ps hps es2 hpl hel2 hes2
 unfold keepsSt keepsQ keepsC at hnext ⊢
 (try (conv=>whnf));repeat' (first|refine OkH.seq ?_|(refine OkH.of_ok (Ok.region tok ?_);conv=>whnf)|refine OkH.block ?_|fail)
 refine OkH.loopU [7,11,15] [22] 3 0 (fun (x:Nat × List En)=>[.i .i64 (x.1:Nat)]) (fun (x:Nat × List En) (_:List (List D))=>[]) (fun (x:Nat × List En) (_:Vx.Rows)=>[some (24,ps.map prow),some (9,(ps.map saidP).map srow),some (59,x.2.map erow)]) (fun (x:Nat × List En)=>blks x.2) (fun (x:Nat × List En)=>x.1<=es.length/\x.2.length=es.length/\(∀ i e,x.2[i]? = some e->i<x.1->Wri i e)/\(∀ i e,x.2[i]? = some e->x.1<=i->Fre i e)) (fun (x:Nat × List En)=>es.length - x.1) ((0,es)) (⟨Nat.zero_le _,rfl,fun i e _ h=>absurd h (Nat.not_lt_zero _),fun i e h _=>hes i e h⟩) (by first|exact .refl _|exact .cons _ (.refl _)|exact List.nil_sublist _) ?_;(conv=>whnf);refine⟨by ((conv=>whnf);first|rfl|(simp[envCat,List.take_of_length_le,crow,srow,trow,drow];done)|(simp[envCat,List.take_of_length_le,crow,srow,trow,drow];rw[IntKind.wrap_i64];omega)),?_⟩
 rintro⟨i,ys⟩ ⟨hi,hyl,hg,hw⟩
 dsimp only at hi hyl hg hw ⊢
 have hym:(ys.map erow).length=es.length:=by simp[hyl]
 (conv=>whnf)
 by_cases hil:i<es.length
 . obtain⟨e,he⟩:∃ e,ys[i]? = some e:=⟨_,List.getElem?_eq_getElem (by omega)⟩
   have heI:ys[((i:Nat):Int).toNat]? = some e:=he
   have next:∀ e',Wri i e'->(∀ q x,(ys.set i e')[q]? = some x->q<i+1->Wri q x)/\(∀ q x,(ys.set i e')[q]? = some x->i+1<=q->Fre q x):=fun e' h'=>
    ⟨fun q x hq hlt=>by
     by_cases hqi:i=q
     . subst hqi
       rw[List.getElem?_set_self (by omega)] at hq
       cases hq
       exact h'
     . rw[List.getElem?_set_ne hqi] at hq
       exact hg q x hq (by omega),fun q x hq hle=>by
     rw[List.getElem?_set_ne (by omega)] at hq
     exact hw q x hq (by omega)⟩
   have same:Wri i e->(∀ q x,ys[q]? = some x->q<i+1->Wri q x)/\(∀ q x,ys[q]? = some x->i+1<=q->Fre q x):=fun h'=>
    ⟨fun q x hq hlt=>by
     by_cases hqi:q=i
     . subst hqi
       cases he.symm.trans hq
       exact h'
     . exact hg q x hq (by omega),fun q x hq hle=>hw q x hq (by omega)⟩
   have hwi:=hw i e he (Nat.le_refl _)
   cases hwi with
   | nil said=>
    (try (conv=>whnf));repeat' (first|refine OkH.seq ?_|((first|refine OkH.of_ok (Ok.region tok ?_)|refine OkH.cond ?_);conv=>whnf)|refine OkH.block ?_|((first|refine OkH.skip ?_|refine rd rfl (by assumption) ?_);conv=>whnf)|(refine bI ?_ ?_<;>intro<;>(conv=>whnf)<;>(try (exfalso;omega)))|(refine aJ ?_;conv=>whnf)|fail)
    refine Or.inr (Or.inr (Or.inl ?_));(conv=>whnf);refine⟨_,_,Tryd.func29,rfl,Tryd.call29,?_⟩;(conv=>whnf)
    (try (conv=>whnf));repeat' (first|refine Ok.seq ?_|(refine Ok.region tok ?_;conv=>whnf)|refine Ok.block ?_|fail)
    refine Ok.loopU [1,25,29,33,40] [2] 3 1 (fun (j:Nat)=>[.i .i64 (j:Nat)]) (fun _ b=>b) (fun _ r=>r) (fun (j:Nat)=>j=0) (fun (j:Nat)=>0) (0) (rfl) ?_;(conv=>whnf);refine⟨by ((conv=>whnf);first|rfl|(simp[envCat,List.take_of_length_le,crow,srow,trow,drow];done)|(simp[envCat,List.take_of_length_le,crow,srow,trow,drow];rw[IntKind.wrap_i64];omega)),?_⟩
    rintro j rfl
    (conv=>whnf)
    (try (conv=>whnf));repeat' (first|refine Ok.seq ?_|((first|refine Ok.region tok ?_|refine OkH.of_ok (Ok.region tok ?_)|refine Ok.cond ?_|refine Ok.exit ?_|refine nI ?_);conv=>whnf)|(refine bI ?_ ?_<;>intro<;>(conv=>whnf)<;>(try (exfalso;omega)))|fail)
    all_goals first
     | (exfalso;omega)
     | (refine⟨(i+1,ys),by dsimp only;omega,⟨by dsimp only;omega,hyl,same (.nil said)⟩,.refl _,?_⟩
        (conv=>whnf)
        rfl)
   | raw g c o m said hm hl hs hb=>
    refine OkH.perm (blks_at he) ?_
    refine OkH.open 500 hb ?_
    have hnc:m.length<=c:=hb.le
    have hsm:∀ o',(ys.set i ⟨.rsl g m.length c,.lst 69 [] [],[(g,o')],i,said⟩).map erow=ys.map erow:=fun o'=>map_same he rfl
    (conv=>whnf)
    (try (conv=>whnf));repeat' (first|refine OkH.seq ?_|((first|refine OkH.of_ok (Ok.region tok ?_)|refine OkH.cond ?_);conv=>whnf)|refine OkH.block ?_|((first|refine OkH.skip ?_|refine rd rfl (by assumption) ?_);conv=>whnf)|(refine bI ?_ ?_<;>intro<;>(conv=>whnf)<;>(try (exfalso;omega)))|(refine aJ ?_;conv=>whnf)|fail)
    refine Or.inr (Or.inr (Or.inl ?_));(conv=>whnf);refine⟨_,_,Tryd.func29,rfl,Tryd.call29,?_⟩;(conv=>whnf)
    (try (conv=>whnf));repeat' (first|refine Ok.seq ?_|(refine Ok.region tok ?_;conv=>whnf)|refine Ok.block ?_|fail)
    refine Ok.loopU [1,518,25,29,33,40] [2] 4 1 (fun (j:Nat)=>[.i .i64 (j:Nat)]) (fun (j:Nat) (_:List (List D))=>[[.rsl g m.length c,.lst 69 [] [],.i .i64 (i:Nat),.s said]]) (fun (j:Nat) (_:Vx.Rows)=>[some (24,ps.map prow),some (9,(ps.map saidP).map srow),some (59,ys.map erow),some (69,((marks i m.length).take j++m.drop j).map crow)]) (fun (j:Nat)=>j<=m.length) (fun (j:Nat)=>m.length - j) (0) (Nat.zero_le _) ?_;(conv=>whnf);refine⟨by ((conv=>whnf);first|rfl|(simp[envCat,List.take_of_length_le,crow,srow,trow,drow];done)|(simp[envCat,List.take_of_length_le,crow,srow,trow,drow];rw[IntKind.wrap_i64];omega)),?_⟩
    intro j hj
    (conv=>whnf)
    have hwl:((marks i m.length).take j++m.drop j).length=m.length:=by rw[List.length_append,List.length_take,List.length_drop,marks_len];omega
    have hwm:(((marks i m.length).take j++m.drop j).map crow).length=m.length:=by rw[List.length_map,hwl]
    by_cases hjl:j<m.length
    . obtain⟨a,ha⟩:∃ a,((marks i m.length).take j++m.drop j)[j]? = some a:=⟨_,List.getElem?_eq_getElem (by omega)⟩
      have haI:((marks i m.length).take j++m.drop j)[((j:Nat):Int).toNat]? = some a:=ha
      (try (conv=>whnf));repeat' (first|((first|refine⟨518,3,_,_,rfl,by omega,?_⟩|refine st (mkC i j) haI (by simp) (by first|rfl|simp[setCells]) ?_);conv=>whnf)|refine Ok.seq ?_|((first|refine Ok.region tok ?_|refine Ok.region_plan (id:=4) tok follows [(4,6,[]),(1,8,[]),(4,8,[]),(6,8,[])] [.q 0,.q 1,.q 2,.q 3,.q 4,.q 5,.l 6,.q 7,.l 8] (by kernel_rfl) ?_|refine Ok.cond ?_);conv=>whnf)|refine Ok.block ?_|((first|refine Ok.skip ?_|refine nI ?_);conv=>whnf)|(refine Or.inl ?_;(conv=>whnf);(repeat (refine aI ?_;conv=>whnf));refine⟨_,mark_at i j (by omega) (by omega),rfl,?_⟩;conv=>whnf)|(refine bI ?_ ?_<;>intro<;>(conv=>whnf)<;>(try (exfalso;omega)))|(refine aJ ?_;conv=>whnf)|fail)
      all_goals first
       | (exfalso;omega)
       | (refine⟨j+1,by omega,by omega,?_⟩
          rw[<- wrt_set hjl]
          (conv=>whnf)
          rfl)
    . have hje:j=m.length:=by omega
      subst hje
      rw[List.take_of_length_le (Nat.le_of_eq (marks_len i m.length)),List.drop_length,List.append_nil]
      (try (conv=>whnf));repeat' (first|(refine OkH.close tok (t0:=500) (ti:=_) rfl rfl rfl (crow_ground _) fun o1 ho1=>?_;conv=>whnf)|(refine OkH.perm (blks_set (e':=⟨.rsl g m.length c,.lst 69 [] [],[(g,o1)],i,said⟩) he) ?_)|refine Ok.seq ?_|((first|refine Ok.region tok ?_|refine OkH.of_ok (Ok.region tok ?_)|refine Ok.cond ?_|refine Ok.exit ?_|refine nI ?_);conv=>whnf)|(refine bI ?_ ?_<;>intro<;>(conv=>whnf)<;>(try (exfalso;omega)))|fail)
      all_goals first
       | (exfalso;omega)
       | (refine⟨(i+1,ys.set i ⟨.rsl g m.length c,.lst 69 [] [],[(g,o1)],i,said⟩),by dsimp only;omega,⟨by dsimp only;omega,by simp[hyl],next _ (.raw g m.length c o1 said hl ho1)⟩,.refl _,?_⟩
          rw[hsm o1]
          (conv=>whnf)
          rfl)
 . have hie:i=es.length:=by omega
   subst hie
   (try (conv=>whnf));repeat' (first|(refine OkH.keep (c:=sndN 11 (Tryd.f6.body.getD .ret)) [7,11,15] 3 0 ?_;(conv=>whnf);rw[<- hyl];exact hnext ys (by omega) (fun i e h=>hg i e h (by have:=(List.getElem?_eq_some_iff.1 h).1;omega)))|refine OkH.seq ?_|((first|refine OkH.of_ok (Ok.region tok ?_)|refine OkH.cond ?_|refine OkH.exit ?_);conv=>whnf)|(refine bI ?_ ?_<;>intro<;>(conv=>whnf)<;>(try (exfalso;omega)))|fail)
   all_goals first
    | (exfalso;omega)
end Go.Proofs.YtaiondckookpiaaDoor
namespace Go.Proofs.YtaiondckookpiaaDoor
open Go Go.Vx Go.RowKit
theorem _root_.Go.Vx.RS.sT{sz:TypeId->Nat}{V V':Vw}{ω:List Value}{v:Value}{s:Str}(h:RS sz V [] ω v (.s s)):RS sz V' [] [] v (.s s):=.imm _ _ ((immD_ri h rfl).ground rfl)
set_option maxRecDepth 100000 in
set_option maxHeartbeats 16000000 in
theorem told_tail(ps:List Pl)(hps:∀ p ∈ ps,p.Ok)(es:List En)(hpl:ps.length<=8)(hel:es.length<=40)(hes:∀ i e,es[i]? = some e->Fre i e) :
    OkH Tryd.prog T (sndN 9 keepsC) keepsQ (keepsSt ps (ps.map saidP) es) (blks es):=by
 have hem:(es.map erow).length=es.length:=by simp
 have hfl:(ps.map saidP).length=ps.length:=by simp
 have hnext:=fun es2 hel2 hes2=>write_tail ps hps es2 hpl hel2 hes2
 unfold keepsSt keepsQ keepsC at hnext ⊢
 (try (conv=>whnf));repeat' (first|refine OkH.seq ?_|(refine OkH.of_ok (Ok.region tok ?_);conv=>whnf)|refine OkH.block ?_|fail)
 refine OkH.loopU [7,11,15] [21] 3 0 (fun (x:Nat × List En)=>[.i .i64 (x.1:Nat)]) (fun (x:Nat × List En) (_:List (List D))=>[]) (fun (x:Nat × List En) (_:Vx.Rows)=>[some (24,ps.map prow),some (9,(ps.map saidP).map srow),some (59,x.2.map erow)]) (fun (x:Nat × List En)=>blks x.2) (fun (x:Nat × List En)=>x.1<=es.length/\x.2.length=es.length/\(∀ i e,x.2[i]? = some e->Fre i e)) (fun (x:Nat × List En)=>es.length - x.1) ((0,es)) (⟨Nat.zero_le _,rfl,hes⟩) (by first|exact .refl _|exact .cons _ (.refl _)|exact List.nil_sublist _) ?_;(conv=>whnf);refine⟨by ((conv=>whnf);first|rfl|(simp[envCat,List.take_of_length_le,crow,srow,trow,drow];done)|(simp[envCat,List.take_of_length_le,crow,srow,trow,drow];rw[IntKind.wrap_i64];omega)),?_⟩
 rintro⟨i,ys⟩ ⟨hi,hyl,hw⟩
 dsimp only at hi hyl hw ⊢
 have hym:(ys.map erow).length=es.length:=by simp[hyl]
 (conv=>whnf)
 by_cases hil:i<es.length
 . obtain⟨e,he⟩:∃ e,ys[i]? = some e:=⟨_,List.getElem?_eq_getElem (by omega)⟩
   have heI:ys[((i:Nat):Int).toNat]? = some e:=he
   have next:∀ e',Fre i e'->∀ q x,(ys.set i e')[q]? = some x->Fre q x:=fun e' h' q x hq=>by
    by_cases hqi:i=q
    . subst hqi
      rw[List.getElem?_set_self (by omega)] at hq
      cases hq
      exact h'
    . rw[List.getElem?_set_ne hqi] at hq
      exact hw q x hq
   have hwi:=hw i e he
   cases hwi with
   | nil said=>
    (try (conv=>whnf));repeat' (first|refine OkH.seq ?_|((first|refine OkH.of_ok (Ok.region tok ?_)|refine OkH.of_ok (Ok.region_plan (id:=33) tok follows [(4,13,[7,6,5]),(12,13,[])] [.q 0,.q 1,.q 2,.q 3,.q 4,.q 5,.q 6,.q 7,.q 8,.q 9,.q 10,.q 11,.q 12,.q 14,.q 15,.q 16,.q 17,.q 18,.l 13,.q 19,.q 20] (by kernel_rfl) ?_)|refine OkH.cond ?_);conv=>whnf)|refine OkH.block ?_|((first|refine OkH.skip ?_|refine nI ?_|refine rd rfl (by assumption) ?_);conv=>whnf)|(refine bI ?_ ?_<;>intro<;>(conv=>whnf)<;>(try (exfalso;omega)))|(refine aJ ?_;conv=>whnf)|fail)
    all_goals first
     | (exfalso;omega)
     | (refine⟨(i+1,ys),by dsimp only;omega,⟨by dsimp only;omega,hyl,hw⟩,.refl _,?_⟩
        (conv=>whnf)
        rfl)
   | raw g c o m said hm hl hs hb=>
    refine OkH.perm (blks_at he) ?_
    refine OkH.open 500 hb ?_
    have hnc:m.length<=c:=hb.le
    have hsm:∀ o',(ys.set i ⟨.rsl g m.length c,.lst 69 [] [],[(g,o')],i,said⟩).map erow=ys.map erow:=fun o'=>map_same he rfl
    have hmm:(m.map crow).length=m.length:=by simp
    have htd:∀ rl rm,rl=m.map crow->FSpec Tryd.prog T 27 [.lst 69 rl rm,.i .i64 0] (fun d rows=>d = .s (toldT m)/\rows=[]):=fun rl rm h=>h ▸ told_at 0 m hm (by omega)
    have htk:(m.map crow).take m.length=m.map crow:=List.take_of_length_le (by omega)
    (conv=>whnf)
    by_cases hme:m=[]
    . have hml:m.length=0:=by rw[hme];rfl
      (try (conv=>whnf));repeat' (first|(refine OkH.close (c:=.region 32 _ _) tok (t0:=500) (ti:=_) rfl rfl rfl (crow_ground _) fun o1 ho1=>?_;conv=>whnf)|(refine OkH.perm (blks_set (e':=⟨.rsl g m.length c,.lst 69 [] [],[(g,o1)],i,said⟩) he) ?_)|refine OkH.seq ?_|((first|refine OkH.of_ok (Ok.region tok ?_)|refine OkH.of_ok (Ok.region_plan (id:=33) tok follows [(4,13,[7,6,5]),(12,13,[])] [.q 0,.q 1,.q 2,.q 3,.q 4,.q 5,.q 6,.q 7,.q 8,.q 9,.q 10,.q 11,.q 12,.q 14,.q 15,.q 16,.q 17,.q 18,.l 13,.q 19,.q 20] (by kernel_rfl) ?_)|refine OkH.cond ?_);conv=>whnf)|refine OkH.block ?_|((first|refine OkH.skip ?_|refine nI ?_|refine rd rfl (by assumption) ?_);conv=>whnf)|(refine bI ?_ ?_<;>intro<;>(conv=>whnf)<;>(try (exfalso;omega)))|(refine aJ ?_;conv=>whnf)|fail)
      all_goals first
       | (exfalso;omega)
       | (refine⟨(i+1,ys.set i ⟨.rsl g m.length c,.lst 69 [] [],[(g,o1)],i,said⟩),by dsimp only;omega,⟨by dsimp only;omega,by simp[hyl],next _ (.raw g c o1 m said hm hl hs ho1)⟩,.refl _,?_⟩
          rw[hsm o1]
          (conv=>whnf)
          rfl)
    . have hml:0<m.length:=by cases m with|nil=>exact absurd rfl hme|cons a l=>simp
      have hsd:=hs hme
      subst hsd
      (try (conv=>whnf));repeat' (first|(exact absurd rfl (by assumption))|(refine Or.inr (Or.inr (Or.inr ?_));(conv=>whnf);refine effK.untie 500 rfl (Nat.le_refl _) ?_;refine effK.deep (ts:=[52,33]) (by (conv=>whnf);exact⟨Nat.le_of_eq hmm.symm,rfl⟩) (htd _ _ htk) ?_;rintro _ _ ⟨rfl,rfl⟩;refine⟨rfl,fun _ _ _ _ h=>h.sT,?_⟩;(conv=>whnf))|(refine OkH.close (c:=.region 32 _ _) tok (t0:=500) (ti:=_) rfl rfl rfl (crow_ground _) fun o1 ho1=>?_;conv=>whnf)|(refine OkH.perm (blks_set (e':=⟨.rsl g m.length c,.lst 69 [] [],[(g,o1)],i,toldT m⟩) he) ?_)|refine OkH.seq ?_|((first|refine OkH.of_ok (Ok.region tok ?_)|refine OkH.of_ok (Ok.region_plan (id:=33) tok follows [(4,13,[7,6,5]),(12,13,[])] [.q 0,.q 1,.q 2,.q 3,.q 4,.q 5,.q 6,.q 7,.q 8,.q 9,.q 10,.q 11,.q 12,.q 14,.q 15,.q 16,.q 17,.q 18,.l 13,.q 19,.q 20] (by kernel_rfl) ?_)|refine OkH.cond ?_);conv=>whnf)|refine OkH.block ?_|((first|refine OkH.skip ?_|refine nI ?_|refine rd rfl (by assumption) ?_);conv=>whnf)|(refine bI ?_ ?_<;>intro<;>(conv=>whnf)<;>(try (exfalso;omega)))|(refine aJ ?_;conv=>whnf)|fail)
      all_goals first
       | (exfalso;omega)
       | (refine⟨(i+1,ys.set i ⟨.rsl g m.length c,.lst 69 [] [],[(g,o1)],i,toldT m⟩),by dsimp only;omega,⟨by dsimp only;omega,by simp[hyl],next _ (.raw g c o1 m (toldT m) hm hl hs ho1)⟩,.refl _,?_⟩
          rw[hsm o1]
          (conv=>whnf)
          rfl)
 . have hie:i=es.length:=by omega
   subst hie
   (try (conv=>whnf));repeat' (first|(refine OkH.keep (c:=sndN 10 (Tryd.f6.body.getD .ret)) [7,11,15] 3 0 ?_;(conv=>whnf);rw[<- hyl];exact hnext ys (by omega) hw)|refine OkH.seq ?_|((first|refine OkH.of_ok (Ok.region tok ?_)|refine OkH.cond ?_|refine OkH.exit ?_);conv=>whnf)|(refine bI ?_ ?_<;>intro<;>(conv=>whnf)<;>(try (exfalso;omega)))|fail)
   all_goals first
    | (exfalso;omega)
end Go.Proofs.YtaiondckookpiaaDoor
namespace Go.Proofs.YtaiondckookpiaaDoor
open Go Go.Vx Go.RowKit
@[reducible] def irow(n:Int):List D:=[.i .i64 n]
theorem expO_ne{n:Int}{ts:List Term}{limit:Int}(h:(expO n ts limit).2 ≠ []):(expO n ts limit).1=0:=by
 unfold expO at h ⊢
 split
 . rename_i h1
   rw[if_pos h1] at h
   exact absurd rfl h
 . rename_i h1
   rw[if_neg h1] at h
   split
   . rename_i h2
     rw[if_pos h2] at h
     exact absurd rfl h
   . rename_i h2
     rw[if_neg h2] at h
     cases h3:expX limit ts [] with
     | none=>rw[h3] at h;exact absurd rfl h
     | some l=>rfl
set_option maxRecDepth 100000 in
set_option maxHeartbeats 16000000 in
theorem book_tail(asks:List Int)(am:List (List D))(hak:∀ n ∈ asks,-9223372036854775808<=n/\n<=9223372036854775807)(ps:List Pl)(hps:∀ p ∈ ps,p.Ok)(hpl:ps.length<=8)(hp0:0<ps.length) :
    OkH Tryd.prog T (sndN 7 keepsC) keepsQ ⟨[(2,.lst 3 (asks.map irow) am),(7,.own 0 ps.length),(11,.own 1 ps.length)],[],[some (24,ps.map prow),some (9,(ps.map saidP).map srow)],Tryd.f6.ntmps⟩ []:=by
 have ham:(asks.map irow).length=asks.length:=by simp
 have hpm:(ps.map prow).length=ps.length:=by simp
 have hfm:((ps.map saidP).map srow).length=ps.length:=by simp
 have hnext:=fun es hel hes=>told_tail ps hps es hpl hel hes
 unfold keepsSt keepsQ keepsC at hnext
 unfold keepsQ keepsC
 simp only[List.length_map] at hnext
 (try (conv=>whnf));repeat' (first|refine OkH.seq ?_|(refine OkH.of_ok (Ok.region tok ?_);conv=>whnf)|refine OkH.block ?_|fail)
 refine OkH.ghost 15 59 rfl ?_
 (conv=>whnf)
 refine OkH.loopU [2,7,11] [15,16] 3 0 (fun (x:Nat × List En)=>[.own 2 x.2.length,.i .i64 (x.1:Nat)]) (fun (x:Nat × List En) (_:List (List D))=>[]) (fun (x:Nat × List En) (_:Vx.Rows)=>[some (24,ps.map prow),some (9,(ps.map saidP).map srow),some (59,x.2.map erow)]) (fun (x:Nat × List En)=>blks x.2) (fun (x:Nat × List En)=>x.1<=2/\x.2.length<=20*x.1/\(∀ i e,x.2[i]? = some e->Fre i e)) (fun (x:Nat × List En)=>2 - x.1) ((0,[])) (⟨by simp,by simp,by simp⟩) (by first|exact .refl _|exact .cons _ (.refl _)|exact List.nil_sublist _) ?_;(conv=>whnf);refine⟨by ((conv=>whnf);first|rfl|(simp[envCat,List.take_of_length_le,crow,srow,trow,drow,prow,irow];done)|(simp[envCat,List.take_of_length_le,crow,srow,trow,drow,prow,irow];rw[IntKind.wrap_i64];omega)),?_⟩
 rintro⟨r,es⟩ ⟨hr,hel,hes⟩
 dsimp only at hr hel hes ⊢
 have hem:(es.map erow).length=es.length:=by simp
 (conv=>whnf)
 by_cases hrl:r<2
 . (try (conv=>whnf));repeat' (first|refine OkH.seq ?_|((first|refine OkH.of_ok (Ok.region tok ?_)|refine OkH.cond ?_);conv=>whnf)|refine OkH.block ?_|(refine OkH.skip ?_;conv=>whnf)|(refine bI ?_ ?_<;>intro<;>(conv=>whnf)<;>(try (exfalso;omega)))|fail)
   all_goals first
    | (exfalso;omega)
    | skip
   refine OkH.loopU [2,7,11,16] [15,17] 3 0 (fun (x:Nat × List En)=>[.own 2 x.2.length,.i .i64 (x.1:Nat)]) (fun (x:Nat × List En) (_:List (List D))=>[]) (fun (x:Nat × List En) (_:Vx.Rows)=>[some (24,ps.map prow),some (9,(ps.map saidP).map srow),some (59,x.2.map erow)]) (fun (x:Nat × List En)=>blks x.2) (fun (x:Nat × List En)=>x.1<=20/\x.1<=asks.length/\x.2.length<=20*r+x.1/\(∀ i e,x.2[i]? = some e->Fre i e)) (fun (x:Nat × List En)=>20 - x.1) ((0,es)) (⟨by simp,by simp,by simpa using hel,hes⟩) (by first|exact .refl _|exact .cons _ (.refl _)|exact List.nil_sublist _) ?_;(conv=>whnf);refine⟨by ((conv=>whnf);first|rfl|(simp[envCat,List.take_of_length_le,crow,srow,trow,drow,prow,irow];done)|(simp[envCat,List.take_of_length_le,crow,srow,trow,drow,prow,irow];rw[IntKind.wrap_i64];omega)),?_⟩
   clear hel hes hem
   rintro⟨n,ys⟩ ⟨hn20,hna,hyl,hys⟩
   dsimp only at hn20 hna hyl hys ⊢
   have hym:(ys.map erow).length=ys.length:=by simp
   (conv=>whnf)
   by_cases hnl:n<asks.length/\n<20
   . obtain⟨q,hq⟩:∃ q,asks[n]? = some q:=⟨_,List.getElem?_eq_getElem hnl.1⟩
     have hqI:asks[((n:Nat):Int).toNat]? = some q:=hq
     obtain⟨k,hk8,hpk⟩:=place_at q (hak q (List.mem_of_getElem? hq))
     have hkm:Int.tmod (k:Int) (ps.length:Int)=((k % ps.length:Nat):Int):=by rw[Int.tmod_eq_emod_of_nonneg (by omega)];rfl
     have hkl:k % ps.length<ps.length:=Nat.mod_lt _ hp0
     obtain⟨p,hp⟩:∃ p,ps[k % ps.length]? = some p:=⟨_,List.getElem?_eq_getElem hkl⟩
     have hpI:ps[((k % ps.length:Nat):Int).toNat]? = some p:=hp
     have hsI:(ps.map saidP)[((k % ps.length:Nat):Int).toNat]? = some (saidP p):=by rw[List.getElem?_map,hpI];rfl
     have hpo:=hps p (List.mem_of_getElem? hp)
     have hx:FSpec Tryd.prog T 26 [.agg (prow p),.i .i64 2048] (fun d rows=>d = .tup [.own 0 (expO p.n p.ts 2048).2.length,.i .i64 (expO p.n p.ts 2048).1]/\rows=[some (69,(expO p.n p.ts 2048).2.map crow)]):=expandO_at hpo.f p.ks p.km hpo.a 2048
     obtain⟨hal,hll⟩:=expO_all (limit:=2048) hpo.f
     have hct:∀ c ∈ (expO p.n p.ts 2048).2,CT c:=fun c hc=>(hal c hc).1.1
     have hsd:(expO p.n p.ts 2048).2 ≠ []->saidP p=toldT (expO p.n p.ts 2048).2:=fun h=>by unfold saidP toldX;rw[if_pos (expO_ne h)]
     have htd:∀ rl rm,rl=(expO p.n p.ts 2048).2.map crow->FSpec Tryd.prog T 27 [.lst 69 rl rm,.i .i64 (expO p.n p.ts 2048).1] (fun d _=>d = .s (saidP p)):=fun rl rm h=>h ▸ (told_at (expO p.n p.ts 2048).1 _ (fun c hc=>(hal c hc).1.1) (by omega)).mono fun _ _ h=>h.1
     have hml:((expO p.n p.ts 2048).2.map crow).length=(expO p.n p.ts 2048).2.length:=by simp
     generalize expO p.n p.ts 2048=ox at *
     obtain⟨xe,xl⟩:=ox
     dsimp only at *
     generalize hnew:k % ps.length=kk at *
     have next:∀ e',Fre ys.length e'->∀ i x,(ys++[e'])[i]? = some x->Fre i x:=fun e' h' i x hx=>by
      rcases Nat.lt_trichotomy i ys.length with h|h|h
      . rw[List.getElem?_append_left h] at hx
        exact hys i x hx
      . subst h
        rw[List.getElem?_append_right (Nat.le_refl _),Nat.sub_self] at hx
        cases hx
        exact h'
      . rw[List.getElem?_append_right (by omega),show i - ys.length=(i - ys.length - 1)+1 by omega] at hx
        cases hx
     (try (conv=>whnf));repeat' (first|(refine OkH.raw (c:=.region 29 _ _) tok 19 500 (ti:=_) rfl rfl rfl hml.symm (fun hx0=>?_) (fun g c hgc=>?_)<;>(conv=>whnf))|(refine OkH.close (c:=.region 24 _ _) tok (t0:=500) (ti:=_) rfl rfl rfl (crow_ground _) fun o ho=>OkH.perm (M':=blks (ys++[⟨.rsl g (xl.map crow).length c,.lst 69 [] [],[(g,o)],ys.length,saidP p⟩])) (by rw[blks_snoc];exact List.perm_append_comm (l₁:=[(g,o)])) ?_)|(exact absurd rfl (by assumption))|refine OkH.seq ?_|((first|refine OkH.of_ok (Ok.region tok ?_)|refine⟨_,(hkm).symm,?_⟩|refine OkH.of_ok (Ok.region_draw tok follows (by kernel_rfl) ?_)|refine OkH.cond ?_);conv=>whnf)|refine OkH.block ?_|((first|refine OkH.skip ?_|refine nI ?_|refine ix _ (by assumption) ?_|refine⟨_,htd _ _ (List.take_of_length_le (Nat.le_of_eq hml)),rfl,?_⟩);conv=>whnf)|(refine Or.inr (Or.inl ?_);(conv=>whnf);(repeat (refine aI ?_;conv=>whnf));refine⟨_,hpk,?_⟩;rintro _ _ ⟨rfl,rfl⟩;conv=>whnf)|(refine Or.inr (Or.inl ?_);(conv=>whnf);(repeat (refine aI ?_;conv=>whnf));refine⟨_,hx , ?_⟩;rintro _ _ ⟨rfl,rfl⟩<;>(conv=>whnf))|((first|refine Alt2.l (aI ?_)|refine rd rfl (by assumption) ?_|refine⟨_,.inl ⟨rfl,rfl⟩,?_⟩|refine⟨_,_,rfl,rfl,?_⟩);conv=>whnf)|(refine bI ?_ ?_<;>intro<;>(conv=>whnf)<;>(try (exfalso;omega)))|(refine aJ ?_;conv=>whnf)|fail)
     all_goals first
      | (exfalso;omega)
      | (refine⟨(n+1,ys++[⟨.rnl,.lst 69 [] [],[],ys.length,saidP p⟩]),by dsimp only;omega,⟨by dsimp only;omega,by dsimp only;omega,by simp;omega,next _ (.nil _)⟩,by rw[blks_snoc];exact (List.append_nil _).symm ▸ .refl _,?_⟩
         (conv=>whnf)
         simp[envCat])
      | (refine⟨(n+1,ys++[⟨.rsl g (xl.map crow).length c,.lst 69 [] [],[(g,o)],ys.length,saidP p⟩]),by dsimp only;omega,⟨by dsimp only;omega,by dsimp only;omega,by simp;omega,next _ (by rw[hml] at ho ⊢;exact .raw g c o xl _ hct hll hsd ho)⟩,.refl _,?_⟩
         (conv=>whnf)
         simp[envCat])
   . have hnn:=hnl
     (try (conv=>whnf));repeat' (first|refine OkH.seq ?_|((first|refine OkH.of_ok (Ok.region tok ?_)|refine OkH.cond ?_|refine OkH.exit ?_|refine nI ?_);conv=>whnf)|(refine bI ?_ ?_<;>intro<;>(conv=>whnf)<;>(try (exfalso;omega)))|fail)
     all_goals first
      | (exfalso;omega)
      | (refine⟨(r+1,ys),by dsimp only;omega,⟨by dsimp only;omega,by dsimp only;omega,hys⟩,.refl _,?_⟩
         (conv=>whnf)
         rfl)
 . (try (conv=>whnf));repeat' (first|(refine OkH.keep (c:=sndN 9 (Tryd.f6.body.getD .ret)) [7,11,15] 3 0 ?_;(conv=>whnf);exact hnext es (by omega) hes)|refine OkH.seq ?_|((first|refine OkH.of_ok (Ok.region tok ?_)|refine OkH.cond ?_|refine OkH.exit ?_);conv=>whnf)|(refine bI ?_ ?_<;>intro<;>(conv=>whnf)<;>(try (exfalso;omega)))|fail)
   all_goals first
    | (exfalso;omega)
set_option maxRecDepth 100000 in
set_option maxHeartbeats 16000000 in
theorem first_tail(asks:List Int)(am:List (List D))(hak:∀ n ∈ asks,-9223372036854775808<=n/\n<=9223372036854775807)(ps:List Pl)(hps:∀ p ∈ ps,p.Ok)(hpl:ps.length<=8)(hp0:0<ps.length) :
    OkH Tryd.prog T (sndN 5 keepsC) keepsQ ⟨[(2,.lst 3 (asks.map irow) am),(7,.own 0 ps.length)],[],[some (24,ps.map prow)],Tryd.f6.ntmps⟩ []:=by
 have hpm:(ps.map prow).length=ps.length:=by simp
 have hnext:=book_tail asks am hak ps hps hpl hp0
 unfold keepsQ keepsC at hnext ⊢
 (try (conv=>whnf));repeat' (first|refine OkH.seq ?_|(refine OkH.of_ok (Ok.region tok ?_);conv=>whnf)|refine OkH.block ?_|fail)
 refine OkH.ghost 11 9 rfl ?_
 (conv=>whnf)
 refine OkH.loopU [2,7] [11,12] 2 0 (fun (i:Nat)=>[.own 1 i,.i .i64 (i:Nat)]) (fun (i:Nat) (_:List (List D))=>[]) (fun (i:Nat) (_:Vx.Rows)=>[some (24,ps.map prow),some (9,((ps.take i).map saidP).map srow)]) (fun (i:Nat)=>[]) (fun (i:Nat)=>i<=ps.length) (fun (i:Nat)=>ps.length - i) (0) (Nat.zero_le _) (by first|exact .refl _|exact .cons _ (.refl _)|exact List.nil_sublist _) ?_;(conv=>whnf);refine⟨by ((conv=>whnf);first|rfl|(simp[envCat,List.take_of_length_le,crow,srow,trow,drow,prow,irow];done)|(simp[envCat,List.take_of_length_le,crow,srow,trow,drow,prow,irow];rw[IntKind.wrap_i64];omega)),?_⟩
 intro i hi
 have hfm:(((ps.take i).map saidP).map srow).length=i:=by simp;omega
 (conv=>whnf)
 by_cases hil:i<ps.length
 . obtain⟨p,hp⟩:∃ p,ps[i]? = some p:=⟨_,List.getElem?_eq_getElem hil⟩
   have hpI:ps[((i:Nat):Int).toNat]? = some p:=hp
   have hpo:=hps p (List.mem_of_getElem? hp)
   have hx:FSpec Tryd.prog T 26 [.agg (prow p),.i .i64 2048] (fun d rows=>d = .tup [.own 0 (expO p.n p.ts 2048).2.length,.i .i64 (expO p.n p.ts 2048).1]/\rows=[some (69,(expO p.n p.ts 2048).2.map crow)]):=expandO_at hpo.f p.ks p.km hpo.a 2048
   obtain⟨hal,hll⟩:=expO_all (limit:=2048) hpo.f
   have htd:∀ rl rm,rl=(expO p.n p.ts 2048).2.map crow->FSpec Tryd.prog T 27 [.lst 69 rl rm,.i .i64 (expO p.n p.ts 2048).1] (fun d _=>d = .s (saidP p)):=fun rl rm h=>h ▸ (told_at (expO p.n p.ts 2048).1 _ (fun c hc=>(hal c hc).1.1) (by omega)).mono fun _ _ h=>h.1
   have hml:((expO p.n p.ts 2048).2.map crow).length=(expO p.n p.ts 2048).2.length:=by simp
   have hsn:((ps.take (i+1)).map saidP).map srow=((ps.take i).map saidP).map srow++[srow (saidP p)]:=by rw[take_snoc hp];simp
   generalize expO p.n p.ts 2048=ox at *
   obtain⟨xe,xl⟩:=ox
   dsimp only at *
   (try (conv=>whnf));repeat' (first|refine OkH.seq ?_|((first|refine OkH.of_ok (Ok.region tok ?_)|refine OkH.cond ?_);conv=>whnf)|refine OkH.block ?_|((first|refine OkH.skip ?_|refine nI ?_);conv=>whnf)|(refine Or.inl ?_;(conv=>whnf);(repeat (refine aI ?_;conv=>whnf));refine⟨_,htd _ _ (List.take_of_length_le (Nat.le_of_eq hml)),rfl,?_⟩;conv=>whnf)|(refine Or.inr (Or.inl ?_);(conv=>whnf);(repeat (refine aI ?_;conv=>whnf));refine⟨_,hx , ?_⟩;rintro _ _ ⟨rfl,rfl⟩<;>(conv=>whnf))|((first|refine Alt2.l (aI ?_)|refine rd rfl (by assumption) ?_|refine⟨_,.inl ⟨rfl,rfl⟩,?_⟩|refine⟨_,_,rfl,rfl,?_⟩);conv=>whnf)|(refine bI ?_ ?_<;>intro<;>(conv=>whnf)<;>(try (exfalso;omega)))|(refine aJ ?_;conv=>whnf)|fail)
   all_goals first
    | (exfalso;omega)
    | (refine⟨i+1,by omega,by omega,.refl _,?_⟩
       rw[hsn]
       (conv=>whnf)
       simp[envCat,Nat.min_eq_left hi])
 . have hie:i=ps.length:=by omega
   subst hie
   rw[List.take_length]
   (try (conv=>whnf));repeat' (first|(refine OkH.keep (c:=sndN 7 (Tryd.f6.body.getD .ret)) [2,7,11] 2 0 ?_;(conv=>whnf);exact hnext)|refine OkH.seq ?_|((first|refine OkH.of_ok (Ok.region tok ?_)|refine OkH.cond ?_|refine OkH.exit ?_);conv=>whnf)|(refine bI ?_ ?_<;>intro<;>(conv=>whnf)<;>(try (exfalso;omega)))|fail)
   all_goals first
    | (exfalso;omega)
set_option maxRecDepth 100000 in
set_option maxHeartbeats 16000000 in
theorem keeps_law(b:Int)(texts:List Str)(tm:List (List D))(asks:List Int)(am:List (List D))(hak:∀ n ∈ asks,-9223372036854775808<=n/\n<=9223372036854775807) :
    FSpec Tryd.prog T 6 [.i .i64 b,.lst 9 (texts.map srow) tm,.lst 3 (asks.map irow) am] (fun d _=>d = .b True):=by
 have htm:(texts.map srow).length=texts.length:=by simp
 have hnext:=first_tail asks am hak
 unfold keepsQ keepsC at hnext
 refine FSpec.of_okH tok Tryd.func6 rfl Tryd.call6 (by simp) ?_
 (try (conv=>whnf));repeat' (first|refine OkH.seq ?_|((first|refine OkH.of_ok (Ok.region tok ?_)|refine OkH.cond ?_);conv=>whnf)|refine OkH.block ?_|((first|refine OkH.skip ?_|refine OkH.ret ?_);conv=>whnf)|(refine Or.inl ?_;(conv=>whnf);(repeat (refine aI ?_;conv=>whnf));refine⟨_,awake_at,rfl,?_⟩;conv=>whnf)|(refine bI ?_ ?_<;>intro<;>(conv=>whnf)<;>(try (exfalso;omega)))|fail)
 all_goals first
  | (exfalso;omega)
  | (exact absurd trivial (by assumption))
  | skip
 refine OkH.ghost 7 24 rfl ?_
 (conv=>whnf)
 refine OkH.loopU [0,1,2] [7,8] 1 0 (fun (x:Nat × List Pl)=>[.own 0 x.2.length,.i .i64 (x.1:Nat)]) (fun (x:Nat × List Pl) (_:List (List D))=>[]) (fun (x:Nat × List Pl) (_:Vx.Rows)=>[some (24,x.2.map prow)]) (fun (x:Nat × List Pl)=>[]) (fun (x:Nat × List Pl)=>x.1<=8/\x.1<=texts.length/\x.2.length<=x.1/\∀ p ∈ x.2,p.Ok) (fun (x:Nat × List Pl)=>8 - x.1) ((0,[])) (⟨by simp,by simp,by simp,by simp⟩) (by first|exact .refl _|exact .cons _ (.refl _)|exact List.nil_sublist _) ?_;(conv=>whnf);refine⟨by ((conv=>whnf);first|rfl|(simp[envCat,List.take_of_length_le,crow,srow,trow,drow,prow,irow];done)|(simp[envCat,List.take_of_length_le,crow,srow,trow,drow,prow,irow];rw[IntKind.wrap_i64];omega)),?_⟩
 rintro⟨i,ps⟩ ⟨hi8,hit,hpl,hps⟩
 dsimp only at hi8 hit hpl hps ⊢
 have hpm:(ps.map prow).length=ps.length:=by simp
 (conv=>whnf)
 by_cases hil:i<texts.length/\i<8
 . obtain⟨a,ha⟩:∃ a,texts[i]? = some a:=⟨_,List.getElem?_eq_getElem hil.1⟩
   have haI:texts[((i:Nat):Int).toNat]? = some a:=ha
   have hpf:=parO_fine b a
   have hpa:=parse2_at b a
   unfold POut at hpa
   generalize parO b a=o at *
   obtain⟨pe,pn,pt⟩:=o
   dsimp only at *
   (try (conv=>whnf));repeat' (first|refine OkH.seq ?_|((first|refine OkH.of_ok (Ok.region tok ?_)|refine OkH.cond ?_);conv=>whnf)|refine OkH.block ?_|((first|refine OkH.skip ?_|refine nI ?_|refine ix _ (by assumption) ?_);conv=>whnf)|(refine Or.inr (Or.inl ?_);(conv=>whnf);(repeat (refine aI ?_;conv=>whnf));refine⟨_,hpa , ?_⟩;rintro _ _ ⟨rfl,_,rfl,ks,km,rfl,hks⟩<;>(conv=>whnf))|((first|refine Alt2.l (aI ?_)|refine⟨_,.inl ⟨rfl,rfl⟩,?_⟩|refine⟨_,_,rfl,rfl,?_⟩);conv=>whnf)|(refine bI ?_ ?_<;>intro<;>(conv=>whnf)<;>(try (exfalso;omega)))|(refine aJ ?_;conv=>whnf)|fail)
   all_goals first
    | (exfalso;omega)
    | (refine⟨(i+1,ps++[⟨pn,pt,ks,km⟩]),by dsimp only;omega,⟨by dsimp only;omega,by dsimp only;omega,by simp;omega,fun p hp=>?_⟩,.refl _,?_⟩
       . rcases List.mem_append.1 hp with hp|hp
         . exact hps p hp
         . simp at hp
           subst hp
           exact⟨hpf,hks⟩
       . (conv=>whnf)
         simp[envCat])
    | (refine⟨(i+1,ps),by dsimp only;omega,⟨by dsimp only;omega,by dsimp only;omega,by dsimp only;omega,hps⟩,.refl _,?_⟩
       (conv=>whnf)
       rfl)
 . by_cases hp0:0<ps.length
   . (try (conv=>whnf));repeat' (first|(refine OkH.keep (c:=sndN 5 (Tryd.f6.body.getD .ret)) [2,7] 1 0 ?_;(conv=>whnf);exact hnext ps hps (by omega) hp0)|refine OkH.seq ?_|((first|refine OkH.of_ok (Ok.region tok ?_)|refine OkH.cond ?_|refine OkH.skip ?_|refine OkH.exit ?_);conv=>whnf)|(refine bI ?_ ?_<;>intro<;>(conv=>whnf)<;>(try (exfalso;omega)))|fail)
     all_goals first
      | (exfalso;omega)
   . have hpn:ps.length=0:=by omega
     (try (conv=>whnf));repeat' (first|refine OkH.seq ?_|((first|refine OkH.of_ok (Ok.region tok ?_)|refine OkH.cond ?_|refine OkH.exit ?_|refine OkH.ret ?_);conv=>whnf)|(refine bI ?_ ?_<;>intro<;>(conv=>whnf)<;>(try (exfalso;omega)))|fail)
     all_goals first
      | (exfalso;omega)
      | (refine Or.inl ?_;(conv=>whnf)
         rfl)
theorem str1_of{B:Nat}(r:List D)(h:TySs B [.str] r):∃ a:Str,r=srow a/\a.length<=B:=by
 obtain⟨_,_,rfl,h1,h⟩:=ss_cons h
 obtain rfl:=ss_nil h
 obtain⟨a,rfl,hl⟩:=str_of h1
 exact⟨a,rfl,hl⟩
theorem spaceKeeps_ats:∃ ls,shapes T 9 [3,40,50]=some ls/\∀ xs,TyAs T 1048576 [3,40,50] ls xs->FSpec Tryd.prog T 6 xs (fun d _=>d = .b True):=by
 refine⟨_,rfl,fun xs h=>?_⟩
 obtain⟨_,_,rfl,h0,h⟩:=as_cons h
 obtain⟨_,_,rfl,h1,h⟩:=as_cons h
 obtain⟨_,_,rfl,h2,h⟩:=as_cons h
 obtain rfl:=as_nil h
 obtain⟨b,rfl,_⟩:=int_of (leaf h0 rfl)
 obtain⟨texts,tm,rfl,_⟩:=lst_of (leaf h1 rfl) str1_of
 obtain⟨asks,am,rfl,_,hw,_⟩:=ints_of (leaf h2 rfl)
 exact keeps_law b texts _ asks _ fun n hn=>wf64 (hw n hn)
end Go.Proofs.YtaiondckookpiaaDoor
