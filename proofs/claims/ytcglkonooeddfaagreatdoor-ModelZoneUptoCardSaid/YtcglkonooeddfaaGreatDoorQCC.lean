/- The walks and the plain laws that a law of networks needs, part 3 of 6. -/
import Derived.Test.YtcglkonooeddfaaGreatDoorQCB
import Derived.MapKept
import Derived.Maps.RangeRun
import Derived.Test.YtcglkonooeddfaaGreatDoorRows
import Derived.ProofKit
import Derived.Deep.Slices
import Derived.Test.YtcglkonooeddfaaGreatDoorProg
import Derived.KernelRfl
import Derived.Shelf.GgSortFunc.Tiny
import Derived.Shelf.Strings.Builder1
import Derived.Shelf.Strings.Split
import Derived.Ground.GgsProg
import Derived.Shelf.Strings.Repeat
import Derived.Shelf.Strings.SlTrimAscii
import Derived.Shelf.LaysM
import Derived.Shelf.Strconv.Itoa3
set_option linter.unusedVariables false
set_option linter.unusedSimpArgs false
set_option maxRecDepth 100000
set_option maxHeartbeats 16000000
namespace Go.Vx
open Go.RowKit
section
variable {P : Program} {T : Tab} {G : FuncId → Prop} {Q : Exit → St → Prop} {s : St}
section
variable {sz : TypeId → Nat} {w0 w : World} {V0 : Fr} {V V' : Vw} {μ : List Nat} {ω : List Value} {box : List (List D)} {row : Rows} {a : Act}
theorem pbL_sound(hM:Mem sz w0 V0 V μ ω box row w)(hi:immLL box=true)(hV:VLe V V')(hp:∀ (i g:Nat) (off:Nat) v,μ[i]? = some g->w.cell? ⟨g,off,none⟩=some v->V' ⟨g,off,none⟩=some v):∀ {l:List D} {K:List D->Prop},pbL box l K ->
    ∃ l',K l'/\l'.length=l.length/\∀ (j:Nat) d d' v,l[j]? = some d->l'[j]? = some d'->RS sz V μ ω v d->RI sz V' v d'
 | [],K,h=>⟨[],h,rfl,fun j d d' v h1=>by simp at h1⟩
 | d :: l,K,h=>by
  simp only[pbL] at h
  obtain⟨d',h,hd⟩:=pbD1_sound hM hi hV hp h
  obtain⟨l',h,hl,hr⟩:=pbL_sound hM hi hV hp h
  refine⟨d' :: l',h,by simp[hl],fun j e e' v h1 h2 hv=>?_⟩
  cases j with
  | zero=>simp at h1 h2;subst h1 h2;exact hd v hv
  | succ j=>exact hr j e e' v (by simpa using h1) (by simpa using h2) hv
theorem pbD_sound(hM:Mem sz w0 V0 V μ ω box row w)(hi:immLL box=true)(hV:VLe V V')(hp:∀ (i g:Nat) (off:Nat) v,μ[i]? = some g->w.cell? ⟨g,off,none⟩=some v->V' ⟨g,off,none⟩=some v){d:D}{K:D->Prop}(h:pbD box d K) :
    ∃ d',K d'/\∀ v,RS sz V μ ω v d->RI sz V' v d':=by
 unfold pbD at h
 split at h
 . obtain⟨x',h,hx,hxr⟩:=pbL_sound hM hi hV hp h
   obtain⟨y',h,hy,hyr⟩:=pbL_sound hM hi hV hp h
   refine⟨_,h,fun v hv=>?_⟩
   obtain⟨vs,us,rfl,h1,h2,hR1,hR2⟩:=hv.fnh_
   refine .fn _ _ _ vs us (by rw[h1,hx]) (by rw[h2,hy]) (fun j v d' a b=>?_) fun j v d' a b=>?_
   . obtain⟨hlt,_⟩:=Array.getElem?_eq_some_iff.1 a
     have:=gEt0 (show j<_ by rw[<- h1];exact hlt)
     exact hxr j _ d' v this b (hR1 j v _ a this)
   . obtain⟨hlt,_⟩:=Array.getElem?_eq_some_iff.1 a
     have:=gEt0 (show j<_ by rw[<- h2];exact hlt)
     exact hyr j _ d' v this b (hR2 j v _ a this)
 . exact pbD1_sound hM hi hV hp h
theorem pbE_sound{n:Nat}(hM:Mem sz w0 V0 V μ ω box row w)(hi:immLL box=true)(hV:VLe V V')(hp:∀ (i g:Nat) (off:Nat) v,μ[i]? = some g->w.cell? ⟨g,off,none⟩=some v->V' ⟨g,off,none⟩=some v):∀ {env:List (Nat × D)} {K:List (Nat × D)->Prop},pbE box env K ->
    ∃ env',K env'/\∀ t v,RS sz V μ ω v (look env t)->RI sz V' v (look env' t)
 | [],K,h=>⟨[],h,fun t v _=>.u v⟩
 | (k,d) :: env,K,h=>by
  simp only[pbE] at h
  obtain⟨d',h,hd⟩:=pbD_sound hM hi hV hp h
  obtain⟨env',h,he⟩:=pbE_sound (n:=n) hM hi hV hp h
  refine⟨(k,d') :: env',h,fun t v hv=>?_⟩
  unfold look at hv ⊢
  cases hb:Nat.beq k t with
  | true=>rw[hb] at hv;exact hd v hv
  | false=>rw[hb] at hv;exact he t v hv
end
end
end Go.Vx
namespace Go.Vx
open Go.RowKit
section
variable {P : Program} {T : Tab}
variable {l : Nat} {xs : List (List D)} {n : Nat} {Q : Exit → Option Nat → List (Nat × D) → Prop} {g : Option Nat} {env : List (Nat × D)}
theorem effW.of{s:St}{f:FuncId}{ds:List D}{K:D->St->Prop}(h:effK P T s f ds K):effW P T s f ds K:=
 ⟨h.call,fun w0 V0 V μ ω a w vs hS hl hR=>(h.run w0 V0 V μ ω a w vs hS hl hR).mono fun _ _ ⟨v,d,s',V',μ',ω',h1,h2,h3,h4,_⟩=>⟨v,d,s',V',μ',ω',h1,h2,h3,h4⟩⟩
end
end Go.Vx
namespace Go.Vx
open Go.RowKit
abbrev Objs:=List (Nat × Obj)
def Fr.with(F:Fr)(M:Objs):Fr:={ F with kp:=M++F.kp }
structure SimM(sz:TypeId->Nat)(w0:World)(F:Fr)(V:Vw)(μ:List Nat)(ω:List Value)(s:St)(a:Act)(w:World)(H M:Objs):Prop where
 sim:Sim sz w0 (F.with M) V μ ω s a w
 nodup:((M++F.kp).map (·.1)).Nodup
 old:∀ x ∈ H,w0.heap[x.1]? = some x.2
structure OkM(P:Program)(T:Tab)(H:Objs)(c:Code)(Q:Exit->St->Objs->Prop)(s:St)(M:Objs):Prop where
 run:∀ (w0:World) (F:Fr) (V:Vw) (μ:List Nat) (ω:List Value) (a:Act) (w:World),SimM (szOf T) w0 F V μ ω s a w H M ->
  c.wp P (fun e a' w'=>∃ s' V' μ' ω' M',Q e s' M'/\SimM (szOf T) w0 F V' μ' ω' s' a' w' H M') a w
section
variable {P : Program} {T : Tab} {H M : Objs} {s : St} {Q : Exit → St → Objs → Prop}
theorem OkM.of_ok{c:Code}(h:Ok P T c (fun e s'=>Q e s' M) s):OkM P T H c Q s M:=by
 refine⟨fun w0 F V μ ω a w hS=>wp_mono (h.run w0 (F.with M) V μ ω a w hS.sim) ?_⟩
 rintro e a' w' ⟨s',V',μ',ω',hk,hS'⟩
 exact⟨s',V',μ',ω',M,hk,hS',hS.nodup,hS.old⟩
def thenM(N:St->Objs->Prop)(Q:Exit->St->Objs->Prop):Exit->St->Objs->Prop
 | .normal,s,M=>N s M
 | e,s,M=>Q e s M
theorem OkM.seq{x y:Code}(h:OkM P T H x (thenM (OkM P T H y Q) Q) s M):OkM P T H (.seq x y) Q s M:=by
 refine⟨fun w0 F V μ ω a w hS=>wp_seq (wp_mono (h.run w0 F V μ ω a w hS) ?_)⟩
 rintro e a' w' ⟨s',V',μ',ω',M',hk,hS'⟩
 cases e with
 | normal=>exact OkM.run hk w0 F V' μ' ω' a' w' hS'
 | _=>exact⟨s',V',μ',ω',M',hk,hS'⟩
theorem OkM.skip(h:Q .normal s M):OkM P T H .skip Q s M:=⟨fun _ _ V μ ω _ _ hS=>wp_skip ⟨s,V,μ,ω,M,h,hS⟩⟩
theorem OkM.ret(h:Q .ret s M):OkM P T H .ret Q s M:=⟨fun _ _ V μ ω _ _ hS=>wp_ret ⟨s,V,μ,ω,M,h,hS⟩⟩
theorem OkM.exit{id:Nat}(h:Q (.exit id) s M):OkM P T H (.exit id) Q s M:=⟨fun _ _ V μ ω _ _ hS=>wp_exit ⟨s,V,μ,ω,M,h,hS⟩⟩
def blockM(id:Nat)(Q:Exit->St->Objs->Prop):Exit->St->Objs->Prop
 | .exit id',s,M=>match Nat.beq id' id with|true=>Q .normal s M|false=>Q (.exit id') s M
 | e,s,M=>Q e s M
theorem OkM.block{id:Nat}{c:Code}(h:OkM P T H c (blockM id Q) s M):OkM P T H (.block id c) Q s M:=by
 refine⟨fun w0 F V μ ω a w hS=>?_⟩
 refine wp_block (wp_mono (h.run w0 F V μ ω a w hS) ?_)
 rintro e a' w' ⟨s',V',μ',ω',M',hk,hS'⟩
 cases e with
 | exit id'=>
  simp only[blockM] at hk
  simp only[Exit.inBlock]
  split at hk
  . rename_i hb
    rw[if_pos (beq_nat_true hb)]
    exact⟨s',V',μ',ω',M',hk,hS'⟩
  . rename_i hb
    rw[if_neg (by rintro rfl;rw[Nat.beq_refl] at hb;cases hb)]
    exact⟨s',V',μ',ω',M',hk,hS'⟩
 | _=>exact⟨s',V',μ',ω',M',hk,hS'⟩
theorem SimM.of{sz:TypeId->Nat}{w0 w w':World}{F:Fr}{V V':Vw}{μ μ':List Nat}{ω ω':List Value}{s s':St}{a a':Act}(h:SimM sz w0 F V μ ω s a w H M)(h':Sim sz w0 (F.with M) V' μ' ω' s' a' w'):SimM sz w0 F V' μ' ω' s' a' w' H M:=
 ⟨h',h.nodup,h.old⟩
theorem SimM.sub{sz:TypeId->Nat}{w0 w:World}{F:Fr}{V:Vw}{μ:List Nat}{ω:List Value}{a:Act}{M':Objs}(h:SimM sz w0 F V μ ω s a w H M)(hs:M'.Sublist M):SimM sz w0 F V μ ω s a w H M':=by
 have hm:∀ x ∈ M'++F.kp,x ∈ M++F.kp:=fun x hx=>by
  rcases mAp0.1 hx with hx|hx
  . exact List.mem_append_left _ (hs.subset hx)
  . exact List.mem_append_right _ hx
 obtain⟨ms,e1,e2,e3⟩:=h.sim.defers.marks
 exact⟨⟨h.sim.tmps,⟨⟨ms,e1,e2,fun D hD=>⟨(e3 D hD).1,(e3 D hD).2.1,fun x hx=>(e3 D hD).2.2 x (hm x hx)⟩⟩,fun x hx=>h.sim.defers.kept x (hm x hx)⟩,h.sim.env,h.sim.mem.fr rfl⟩,h.nodup.sublist ((hs.append (List.Sublist.refl _)).map _),h.old⟩
theorem OkM.cond{c:Operand}{x y:Code}(h:condK s c (fun s=>OkM P T H x Q s M) (fun s=>OkM P T H y Q s M)):OkM P T H (.cond c x y) Q s M:=by
 refine⟨fun w0 F V μ ω a w hS=>?_⟩
 have hc:=hS.sim.get c
 unfold condK at h
 split at h
 . rename_i hd;rw[hd] at hc;exact wp_cond_true hc.tt_ (h.run w0 F V μ ω a w hS)
 . rename_i hd;rw[hd] at hc;exact wp_cond_false hc.ff_ (h.run w0 F V μ ω a w hS)
 . rename_i p hd
   rw[hd] at hc
   obtain⟨b,hb,hbp⟩:=hc.bool
   cases b with
   | true=>exact wp_cond_true hb ((h.1 (hbp.1 rfl)).run w0 F V μ ω a w (hS.of (hS.sim.know c (by rw[hb];exact .imm _ _ .tt))))
   | false=>exact wp_cond_false hb ((h.2 (fun hp=>by simpa using hbp.2 hp)).run w0 F V μ ω a w (hS.of (hS.sim.know c (by rw[hb];exact .imm _ _ .ff))))
 . exact h.elim
theorem OkM.loopK{c:Code}{ι:Type}(L:List Nat)(k kb:Nat)(mk:ι->St)(mo:ι->Objs)(I:ι->Prop)(m:ι->Nat)(x0:ι)(h0:I x0)(hm:(mo x0).Sublist M)(hs:keepK L k kb s (·=mk x0))
    (round:∀ x,I x->OkM P T H c (thenM (fun s' M'=>∃ x',m x' < m x/\I x'/\(mo x').Sublist M'/\keepK L k kb s' (·=mk x')) Q) (mk x) (mo x)):OkM P T H (.loop c) Q s M:=by
 refine⟨fun w0 F V μ ω a w hS=>?_⟩
 replace hS:=hS.sub hm
 obtain⟨s',μ',ω',rfl,hS'⟩:=keepK_sound hS.sim hs
 refine wp_loop_at (fun n a w=>∃ x V μ ω,m x=n/\I x/\SimM (szOf T) w0 F V μ ω (mk x) a w H (mo x)) ?_ ⟨x0,V,μ',ω',rfl,h0,hS.of hS'⟩
 rintro n a w ⟨x,V,μ,ω,rfl,hI,hS⟩
 refine wp_mono ((round x hI).run w0 F V μ ω a w hS) ?_
 rintro e a' w' ⟨s',V',μ',ω',M',hk,hS'⟩
 cases e with
 | normal=>
  obtain⟨x',hlt,hI',hsb,hk⟩:=hk
  replace hS':=hS'.sub hsb
  obtain⟨s2,μ2,ω2,rfl,hS2⟩:=keepK_sound hS'.sim hk
  exact⟨m x',hlt,x',V',μ2,ω2,rfl,hI',hS'.of hS2⟩
 | _=>exact⟨s',V',μ',ω',M',hk,hS'⟩
theorem OkM.loopU{c:Code}{ι:Type}(L Cs:List Nat)(k kb:Nat)(C:ι->List D)(B:ι->List (List D)->List (List D))(R:ι->Rows->Rows)(mo:ι->Objs)(I:ι->Prop)(m:ι->Nat)(x0:ι)(h0:I x0)(hm:(mo x0).Sublist M)
    (h:keepK L k kb s fun s0=>match s0 with
     | ⟨env,box,row,n⟩=>(keepK (catL Cs L) k kb s fun s1=>s1=⟨envCat Cs (C x0) env,B x0 box,R x0 row,n⟩) /\
      ∀ x,I x->envCatK Cs (C x) env fun env'=>OkM P T H c (thenM (fun s' M'=>∃ x',m x' < m x/\I x'/\(mo x').Sublist M'/\keepK (catL Cs L) k kb s' fun s1=>s1=⟨envCat Cs (C x') env,B x' box,R x' row,n⟩) Q) ⟨env',B x box,R x row,n⟩ (mo x)):OkM P T H (.loop c) Q s M:=by
 obtain⟨⟨env,box,row,n⟩,h1,h2⟩:=keepK_some h
 exact OkM.loopK (catL Cs L) k kb (fun x=>⟨envCat Cs (C x) env,B x box,R x row,n⟩) mo I m x0 h0 hm h1 fun x hx=>by
  have:=h2 x hx
  rwa [envCatK_eq] at this
end
end Go.Vx
namespace Go.Vx
open Go.RowKit Go.MapKept
section
variable {κ α : Type} [DecidableEq κ]
def mfind(k:κ):List (κ × α × Nat)->Nat->Option (Nat × α)
 | [],_=>none
 | e :: l,i=>if e.1=k then some (i,e.2.1) else mfind k l (i+1)
def lk(l:List (κ × α × Nat))(k:κ):Option α:=(mfind k l 0).map (·.2)
def mput(l:List (κ × α × Nat))(c:Nat)(k:κ)(a:α):List (κ × α × Nat) × Nat:=match mfind k l 0 with
 | some (i,_)=>(l.modify i fun e=>(e.1,a,e.2.2),c)
 | none=>(l++[(k,a,c)],c+1)
def mdel(l:List (κ × α × Nat))(k:κ):List (κ × α × Nat):=match mfind k l 0 with
 | some (i,_)=>l.eraseIdx i
 | none=>l
noncomputable def mEnt(kd:κ->D)(f:Option α->D)(e:κ × α × Nat):MapEntry:=⟨toV1 (kd e.1),toV (f (some e.2.1)),e.2.2⟩
noncomputable def mObj(kd:κ->D)(f:Option α->D)(l:List (κ × α × Nat))(c:Nat):Obj:=.map (l.map (mEnt kd f)).toArray c
structure KeyOk(P:Program)(kt:TypeId)(kd:κ->D):Prop where
 check:∀ b k w,(Instr.checkKey b 10000 kt (toV1 (kd k))).run P w = .ok () w
 find:∀ {β:Type} (f:Option β->D) (l:List (κ × β × Nat)) (k:κ) (w:World),(Instr.findKey kt (toV1 (kd k)) (l.map (mEnt kd f))).run P w = .ok ((mfind k l 0).map fun x=>(x.1,toV (f (some x.2)))) w
 stays:∀ k w,(Instr.keyThatStays (toV1 (kd k)) (toV1 (kd k))).run P w = .ok (toV1 (kd k)) w
 ground:∀ k,(kd k).ground=true
end
theorem keyS{P:Program}{kt:TypeId}(h:P.underlying kt=some .string):KeyOk P kt (κ:=List UInt8) D.s:=by
 have hf:∀ {β:Type} (f:Option β->D) (k:List UInt8) (l:List (List UInt8 × β × Nat)) (i:Nat),Instr.findNow .string (toV1 (.s k)) (l.map (mEnt D.s f)) i=some ((mfind k l i).map fun x=>(x.1,toV (f (some x.2)))):=by
  intro β f k l
  induction l with
  | nil=>intro i;rfl
  | cons e l ih=>
   intro i
   obtain⟨k',b,n⟩:=e
   simp only[List.map_cons,Instr.findNow,mEnt,toV1,Instr.sameNow,mfind]
   by_cases hk:k'=k
   . subst hk
     rw[(bytes_beq (bstr k') (bstr k')).2 rfl,if_pos rfl]
     rfl
   . have:(bstr k == bstr k')=false:=by
       cases hb:bstr k == bstr k' with
       | false=>rfl
       | true=>exact absurd (bstr_inj ((bytes_beq _ _).1 hb)).symm hk
     rw[this,if_neg hk]
     exact ih (i+1)
 refine⟨fun b k w=>?_,fun f l k w=>?_,fun k w=>?_,fun _=>rfl⟩
 . exact run_checkKey (d:=.string) (k:=.string (bstr k)) h trivial b 9999
 . simp only[Instr.findKey,Sem.run_bind,run_under h,Result.andThen_ok,hf,Sem.run_pure]
 . exact run_keyThatStays (d:=.string) (k:=.string (bstr k)) trivial
theorem map_erase{β γ:Type}(h:β->γ):∀ (l:List β) (i:Nat),(l.map h).eraseIdx i=(l.eraseIdx i).map h
 | [],_=>rfl
 | _ :: _,0=>rfl
 | x :: l,i+1=>by simp only[List.map_cons,List.eraseIdx_cons_succ,map_erase h l i]
structure MTy(P:Program)(t:TypeId){κ α:Type}[DecidableEq κ](kd:κ->D)(f:Option α->D):Prop where
 und:∃ kt et,P.underlying t=some (.map kt et)/\KeyOk P kt kd/\∀ w,(zeroValue et).run P w = .ok (toV (f none)) w
 vg:∀ o,(f o).ground'=true
section
variable {P : Program} {t : TypeId} {κ α : Type} [DecidableEq κ] {kd : κ → D} {f : Option α → D} {w : World} {g : Nat} {l : List (κ × α × Nat)} {c : Nat}
theorem run_setObj_of{r:Nat}{es:Array MapEntry}{clock:Nat}(o:Obj)(hb:w.heap[r]? = some (.map es clock)):(setObj r o).run P w = .ok () (w.putObj r o):=
 run_setObj_map o hb
theorem MTy.lookup(h:MTy P t kd f)(hb:w.heap[g]? = some (mObj kd f l c))(k:κ)(ok:Bool) :
    (Instr.lookup t (.map (some g)) (toV1 (kd k)) ok).run P w = .ok (if ok then .tuple #[toV (f (lk l k)),.bool (lk l k).isSome] else toV (f (lk l k))) w:=by
 obtain⟨⟨kt,et,hu,hk,hz⟩,_⟩:=h
 simp only[Instr.lookup,Sem.run_bind,run_under hu,Result.andThen_ok,getObj,Sem.run,hb,mObj,Result.andThen,Sem.run_pure,hk.check,hk.find,lk]
 cases hm:mfind k l 0 with
 | none=>simp[hz]
 | some x=>simp
theorem MTy.update(h:MTy P t kd f)(hb:w.heap[g]? = some (mObj kd f l c))(k:κ)(a:α) :
    (Instr.mapUpdate t (.map (some g)) (toV1 (kd k)) (toV (f (some a)))).run P w = .ok () (w.putObj g (mObj kd f (mput l c k a).1 (mput l c k a).2)):=by
 obtain⟨⟨kt,et,hu,hk,hz⟩,_⟩:=h
 simp only[Instr.mapUpdate,Sem.run_bind,run_under hu,Result.andThen_ok,getObj,Sem.run,hb,mObj,Result.andThen,Sem.run_pure,hk.check,hk.find,mput]
 have hat:∀ {l:List (κ × α × Nat)} {i j:Nat} {x:α},mfind k l j=some (i,x)->j<=i/\∃ n,l[i - j]? = some (k,x,n):=by
  intro l
  induction l with
  | nil=>intro i j x h;cases h
  | cons e l ih=>
   intro i j x h
   simp only[mfind] at h
   split at h
   . rename_i he
     cases h
     exact⟨Nat.le_refl _,e.2.2,by simp[<- he]⟩
   . obtain⟨h1,n,h2⟩:=ih h
     refine⟨by omega,n,?_⟩
     rw[show i - j=(i - (j+1))+1 by omega,List.getElem?_cons_succ]
     exact h2
 cases hm:mfind k l 0 with
 | none=>
  simp only[Option.map_none]
  rw[run_setObj_of _ hb]
  congr 3
  simp[mEnt]
 | some x=>
  obtain⟨i,x⟩:=x
  obtain⟨_,n,hi⟩:=hat hm
  simp only[Option.map_some,Nat.sub_zero] at hi ⊢
  have hi2:(l.map (mEnt kd f)).toArray[i]? = some ⟨toV1 (kd k),toV (f (some x)),n⟩:=by simp[hi,mEnt]
  simp only[hi2,Option.map_some,Option.getD_some,hk.stays,Sem.run_bind,Result.andThen]
  rw[run_setObj_of _ hb]
  congr 3
  apply Array.ext'
  simp only[Array.toList_modify]
  apply List.ext_getElem?
  intro j
  simp only[List.getElem?_modify,gMp0]
  by_cases hj:i=j
  . subst hj
    simp[hi,mEnt]
  . simp[hj]
theorem MTy.delete(h:MTy P t kd f)(hb:w.heap[g]? = some (mObj kd f l c))(k:κ)(t2 ty:TypeId) :
    (Builtin.delete_ #[t,t2] ty #[.map (some g),toV1 (kd k)]).run P w = .ok (.tuple #[]) (w.putObj g (mObj kd f (mdel l k) c)):=by
 obtain⟨⟨kt,et,hu,hk,hz⟩,_⟩:=h
 have e1:(#[t,t2]:Array TypeId)[0]? = some t:=rfl
 have e2:(#[Value.map (some g),toV1 (kd k)]:Array Value)[0]? = some (.map (some g)):=rfl
 have e3:(#[Value.map (some g),toV1 (kd k)]:Array Value)[1]? = some (toV1 (kd k)):=rfl
 simp only[Builtin.delete_,e1,e2,e3,Sem.run_bind,run_under hu,Result.andThen_ok,getObj,Sem.run,hb,mObj,Result.andThen,Sem.run_pure,hk.check,hk.find,mdel]
 cases hm:mfind k l 0 with
 | none=>
  simp only[Option.map_none,Sem.run_bind,run_setObj_of (P:=P) _ hb,Result.andThen,Sem.run_pure]
 | some x=>
  simp only[Option.map_some,Sem.run_bind,run_setObj_of (P:=P) _ hb,Result.andThen,Sem.run_pure]
  congr 3
  apply Array.ext'
  simp[Array.eraseIdxIfInBounds]
  split
  . exact map_erase _ _ _
  . rename_i hlt
    rw[List.eraseIdx_of_length_le (by omega)]
theorem MTy.make(h:MTy P t kd f)(w:World):(Instr.makeMap t none).run P w = .ok (.map (some w.heap.size)) (w.alloc (mObj kd f [] 0)):=by
 simp only[Instr.makeMap,Sem.run_bind,run_newObj,Sem.run_pure,Result.andThen,mObj,List.map_nil]
 rfl
end
end Go.Vx
namespace Go.Vx
open Go.RowKit
section
variable {sz : TypeId → Nat} {w0 w : World} {F : Fr} {V : Vw} {μ : List Nat} {ω : List Value} {s : St} {a : Act} {H M : Objs}
theorem SimM.kept(h:SimM sz w0 F V μ ω s a w H M){x:Nat × Obj}(hx:x ∈ M):w.heap[x.1]? = some x.2/\noC x.2/\w0.heap.size<=x.1:=h.sim.defers.kept x (List.mem_append_left _ hx)
theorem SimM.read(h:SimM sz w0 F V μ ω s a w H M){x:Nat × Obj}(hx:x ∈ H++M):w.heap[x.1]? = some x.2:=by
 rcases mAp0.1 hx with hx|hx
 . have ho:=h.old x hx
   rw[h.sim.mem.below.block x.1 (Array.getElem?_eq_some_iff.1 ho).1]
   exact ho
 . exact (h.kept hx).1
theorem SimM.new(h:SimM sz w0 F V μ ω s a w H M)(o:Obj)(hn:noC o):SimM sz w0 F V μ ω s a (w.alloc o) H ((w.heap.size,o) :: M):=by
 have hS:=h.sim.ext (Ext.alloc w o)
 have hlt:∀ x ∈ M++F.kp,x.1<w.heap.size:=fun x hx=>(Array.getElem?_eq_some_iff.1 (h.sim.defers.kept x hx).1).1
 obtain⟨ms,e1,e2,e3⟩:=h.sim.defers.marks
 refine⟨⟨hS.tmps,⟨⟨ms,e1,e2,fun D hD=>?_⟩,fun x hx=>?_⟩,hS.env,hS.mem.fr rfl⟩,?_,h.old⟩
 . obtain⟨f1,f2,f3⟩:=e3 D hD
   refine⟨(Ext.alloc w o).heap f1,f2,fun x hx=>?_⟩
   rcases List.mem_cons.1 hx with rfl|hx
   . have:=(Array.getElem?_eq_some_iff.1 f1).1
     show w.heap.size ≠ D
     omega
   . exact f3 x hx
 . rcases List.mem_cons.1 hx with rfl|hx
   . exact⟨heap_alloc_new w o,hn,h.sim.mem.below.size⟩
   . obtain⟨f1,f2,f3⟩:=h.sim.defers.kept x hx
     exact⟨(Ext.alloc w o).heap f1,f2,f3⟩
 . simp only[List.cons_append,List.map_cons,List.nodup_cons]
   refine⟨fun hm=>?_,h.nodup⟩
   obtain⟨x,hx,e⟩:=List.mem_map.1 hm
   have:=hlt x hx
   omega
theorem SimM.put(h:SimM sz w0 F V μ ω s a w H M){n g:Nat}{o:Obj}(o':Obj)(hn:noC o')(hg:M[n]? = some (g,o)):SimM sz w0 F V μ ω s a (w.putObj g o') H (M.set n (g,o')):=by
 obtain⟨k1,k2,k3⟩:=h.kept (mOf0 hg)
 have hlt:g<w.heap.size:=(Array.getElem?_eq_some_iff.1 k1).1
 have hnl:n<M.length:=(gSm0.1 hg).1
 obtain⟨ms,e1,e2,e3⟩:=h.sim.defers.marks
 have hkeys:(M.set n (g,o')).map (·.1)=M.map (·.1):=by
  rw[List.map_set]
  apply List.ext_getElem?
  intro j
  by_cases hj:n=j
  . subst hj
    rw[List.getElem?_set_self (by simpa using hnl),gMp0,hg]
    rfl
  . rw[List.getElem?_set_ne hj]
 have hother:∀ j x,(M++F.kp)[j]? = some x->j ≠ n->x.1 ≠ g:=by
  intro j x hx hj e
  have hnd:=h.nodup
  have h1:((M++F.kp).map (·.1))[j]? = some g:=by rw[gMp0,hx,<- e];rfl
  have h2:((M++F.kp).map (·.1))[n]? = some g:=by rw[gMp0,List.getElem?_append_left hnl,hg];rfl
  exact hj ((List.getElem?_inj (gSm0.1 h1).1 hnd).1 (h1.trans h2.symm))
 have hk:∀ x ∈ M.set n (g,o')++F.kp,(w.putObj g o').heap[x.1]? = some x.2/\noC x.2/\w0.heap.size<=x.1:=by
  intro x hx
  obtain⟨j,hj⟩:=List.getElem?_of_mem hx
  by_cases hjn:j=n
  . subst hjn
    rw[List.getElem?_append_left (by simpa using hnl),List.getElem?_set_self hnl] at hj
    cases hj
    exact⟨World.putObj_heap_same hlt,hn,k3⟩
  . have hj2:(M++F.kp)[j]? = some x:=by
      rw[List.getElem?_append] at hj ⊢
      simp only[List.length_set,List.getElem?_set_ne (Ne.symm hjn)] at hj
      exact hj
    obtain⟨f1,f2,f3⟩:=h.sim.defers.kept x (mOf0 hj2)
    exact⟨(World.putObj_heap_other (hother j x hj2 hjn)).trans f1,f2,f3⟩
 refine⟨⟨h.sim.tmps,⟨⟨ms,e1,e2,fun D hD=>?_⟩,hk⟩,h.sim.env,(h.sim.mem.putOther o' k1 k2 k3).fr rfl⟩,?_,h.old⟩
 . obtain⟨f1,f2,f3⟩:=e3 D hD
   have hDg:D ≠ g:=fun e=>f3 (g,o) (List.mem_append_left _ (mOf0 hg)) e.symm
   refine⟨(World.putObj_heap_other hDg).trans f1,f2,fun x hx e=>?_⟩
   obtain⟨j,hj⟩:=List.getElem?_of_mem (show x ∈ M.set n (g,o')++F.kp from hx)
   by_cases hjn:j=n
   . subst hjn
     rw[List.getElem?_append_left (by simpa using hnl),List.getElem?_set_self hnl] at hj
     cases hj
     exact hDg e.symm
   . refine f3 x (mOf0 (i:=j) ?_) e
     show (M++F.kp)[j]? = some x
     rw[List.getElem?_append] at hj ⊢
     simp only[List.length_set,List.getElem?_set_ne (Ne.symm hjn)] at hj
     exact hj
 . rw[List.map_append,hkeys,<- List.map_append]
   exact h.nodup
theorem noC_map(es:Array MapEntry)(c:Nat):noC (.map es c):=fun _ _ _ e=>by cases e
theorem noC_iter(m:Option Nat)(b:Nat)(seen:Array Nat)(c:Nat):noC (.mapIter m b seen c):=fun _ _ _ e=>by cases e
end
end Go.Vx
namespace Go.Vx
open Go.RowKit
structure FSpecH(P:Program)(T:Tab)(H:Objs)(f:FuncId)(ds:List D)(R:D->Rows->Objs->Prop):Prop where
 call:∀ args w,(callFunc f args).run P w = .ok (.enter f args) w
 run:∀ (V:Vw) (w:World) (args:Array Value),VOk V w->(∀ x ∈ H,w.heap[x.1]? = some x.2)->args.size=ds.length->(∀ (j:Nat) v d,args[j]? = some v->ds[j]? = some d->RI (szOf T) V v d) ->
  Calls P f args w fun e w'=>∃ V' ω row v d M,e = .returned v/\R d row M/\RS (szOf T) V' [] ω v d/\Res (szOf T) V V' ω row w w'/\(∀ x ∈ M,w'.heap[x.1]? = some x.2/\noC x.2/\w.heap.size<=x.1)/\(M.map (·.1)).Nodup
section
variable {P : Program} {T : Tab} {H M : Objs} {s : St}
theorem FSpecH.nil{f:FuncId}{ds:List D}{R:D->Rows->Prop}(h:FSpecH P T [] f ds (fun d rows _=>R d rows)):FSpec P T f ds R:=by
 refine⟨h.call,fun V w args hV hl hR=>(h.run V w args hV (by simp) hl hR).mono ?_⟩
 rintro e w' ⟨V',ω,row,v,d,M,h1,h2,h3,h4,_⟩
 exact⟨V',ω,row,v,d,h1,h2,h3,h4⟩
theorem FSpecH.mono{f:FuncId}{ds:List D}{R R':D->Rows->Objs->Prop}(h:FSpecH P T H f ds R)(hR:∀ d rows M,R d rows M->R' d rows M):FSpecH P T H f ds R':=
 ⟨h.call,fun V w args hV hH hl hr=>(h.run V w args hV hH hl hr).mono fun _ _ ⟨V',ω,row,v,d,M,h1,h2,h3⟩=>⟨V',ω,row,v,d,M,h1,hR _ _ _ h2,h3⟩⟩
theorem FSpecH.more{H':Objs}{f:FuncId}{ds:List D}{R:D->Rows->Objs->Prop}(h:FSpecH P T H f ds R)(hH:∀ x ∈ H,x ∈ H'):FSpecH P T H' f ds R:=
 ⟨h.call,fun V w args hV hx hl hr=>h.run V w args hV (fun x hm=>hx x (hH x hm)) hl hr⟩
def endM(T:Tab)(fn:Func)(R:D->Rows->Objs->Prop):Exit->St->Objs->Prop
 | .normal,s,M=>retK T fn (fun d rows=>R d rows M) s
 | .ret,s,M=>retK T fn (fun d rows=>R d rows M) s
 | _,_,_=>False
theorem FSpecH.of_ok(hT:TOk P T){f:FuncId}{fn:Func}{c:Code}(hf:P.funcs[f]? = some fn)(hb:fn.body=some c)(hcall:∀ args w,(callFunc f args).run P w = .ok (.enter f args) w){ds:List D}{R:D->Rows->Objs->Prop}(hn:ds.length<=fn.ntmps)
    (h:OkM P T H c (endM T fn R) ⟨envOf 0 ds,[],[],fn.ntmps⟩ []):FSpecH P T H f ds R:=by
 refine⟨hcall,fun V w args hV hH hl hR=>calls_of_wpM hf hb ?_⟩
 refine wp_mono (h.run w ⟨V,fun _=>undef,[],[]⟩ V [] [] _ w ⟨start_sim hn hV hl hR,by simp,hH⟩) ?_
 rintro e a' w' ⟨s',V',μ',ω',M',hq,hS'⟩
 have fin:retK T fn (fun d rows=>R d rows M') s'->LeavesInM Fence.wide 0 P fn a'.tmps (fun e w'=>∃ V' ω row v' d M,e = .returned v'/\R d row M/\RS (szOf T) V' [] ω v' d/\Res (szOf T) V V' ω row w w'/\(∀ x ∈ M,w'.heap[x.1]? = some x.2/\noC x.2/\w.heap.size<=x.1)/\(M.map (·.1)).Nodup) a'.defers .returning w':=by
  intro hr
  obtain⟨ms',e1,e2,e3,hS2⟩:=hS'.sim.shut
  rw[e1]
  have e4:ms'.map mkD++[]=ms'.map mkD:=List.append_nil _
  show LeavesInM _ _ _ _ _ _ (ms'.map mkD++[]) _ _
  rw[e4]
  refine leavesM (by simp) ms' w' e2 e3 ?_
  obtain⟨v,hv,V2,ω2,row,v',d,h1,h2,h3,h4⟩:=retK_leaves hT rfl hS2 hr
  exact⟨v,hv,V2,ω2,row,v',d,M',h1,h2,h3,h4,fun x hx=>hS2.defers.kept x (List.mem_append_left _ hx),by have:=hS'.nodup;simpa using this⟩
 cases e<;>simp only[endM] at hq
 . exact fin hq
 . exact fin hq
def endM0(T:Tab)(fn:Func)(R:D->Rows->Prop):Exit->St->Objs->Prop
 | .normal,s,_=>retK T fn R s
 | .ret,s,_=>retK T fn R s
 | _,_,_=>False
theorem FSpecH.of_ok0(hT:TOk P T){f:FuncId}{fn:Func}{c:Code}(hf:P.funcs[f]? = some fn)(hb:fn.body=some c)(hcall:∀ args w,(callFunc f args).run P w = .ok (.enter f args) w){ds:List D}{R:D->Rows->Prop}(hn:ds.length<=fn.ntmps)
    (h:OkM P T H c (endM0 T fn R) ⟨envOf 0 ds,[],[],fn.ntmps⟩ []):FSpecH P T H f ds (fun d rows M=>R d rows/\M=[]):=by
 refine⟨hcall,fun V w args hV hH hl hR=>calls_of_wpM hf hb ?_⟩
 refine wp_mono (h.run w ⟨V,fun _=>undef,[],[]⟩ V [] [] _ w ⟨start_sim hn hV hl hR,by simp,hH⟩) ?_
 rintro e a' w' ⟨s',V',μ',ω',M',hq,hS'⟩
 replace hS':=hS'.sub (List.nil_sublist _)
 have fin:retK T fn R s'->LeavesInM Fence.wide 0 P fn a'.tmps (fun e w'=>∃ V' ω row v' d,∃ M:Objs,e = .returned v'/\(R d row/\M=[])/\RS (szOf T) V' [] ω v' d/\Res (szOf T) V V' ω row w w'/\(∀ x ∈ M,w'.heap[x.1]? = some x.2/\noC x.2/\w.heap.size<=x.1)/\(M.map (·.1)).Nodup) a'.defers .returning w':=by
  intro hr
  obtain⟨ms',e1,e2,e3,hS2⟩:=hS'.sim.shut
  rw[e1]
  have e4:ms'.map mkD++[]=ms'.map mkD:=List.append_nil _
  show LeavesInM _ _ _ _ _ _ (ms'.map mkD++[]) _ _
  rw[e4]
  refine leavesM (by simp) ms' w' e2 e3 ?_
  obtain⟨v,hv,V2,ω2,row,v',d,h1,h2,h3,h4⟩:=retK_leaves hT rfl hS2 hr
  exact⟨v,hv,V2,ω2,row,v',d,[],h1,⟨h2,rfl⟩,h3,h4,by simp,by simp⟩
 cases e<;>simp only[endM0] at hq
 . exact fin hq
 . exact fin hq
end
def noK(M:Objs)(g:Nat):Prop:=∀ x ∈ M,x.1 ≠ g
def setM:Objs->Nat->Nat × Obj->(Objs->Prop)->Prop
 | [],_,_,K=>K []
 | _ :: M,0,x,K=>K (x :: M)
 | y :: M,n+1,x,K=>setM M n x fun M=>K (y :: M)
theorem setM_eq:∀ (M:Objs) (n:Nat) (x:Nat × Obj) (K:Objs->Prop),setM M n x K=K (M.set n x)
 | [],_,_,_=>rfl
 | _ :: _,0,_,_=>rfl
 | _ :: M,n+1,x,K=>setM_eq M n x _
def appM:Objs->Objs->(Objs->Prop)->Prop
 | [],M,K=>K M
 | x :: l,M,K=>appM l M fun M=>K (x :: M)
theorem appM_eq:∀ (l M:Objs) (K:Objs->Prop),appM l M K=K (l++M)
 | [],_,_=>rfl
 | _ :: l,M,K=>appM_eq l M _
def callH(P:Program)(T:Tab)(H M:Objs)(s:St)(f:FuncId)(ts:List TypeId)(ds:List D)(K:D->St->Objs->Prop):Prop:=
 pubsK 8 s ds fun ds s=>exposN T ts ds fun ds=>∃ R,FSpecH P T (H++M) f ds R/\∀ d rows M',R d rows M'->(match s with
  | ⟨env,box,row,n⟩=>shiftD row.length d fun d=>catK row rows fun row=>appM M' M fun M=>K d ⟨env,box,row,n⟩ M)
def inlQM(T:Tab)(fn:Func)(n:Nat)(K:D->St->Objs->Prop):Exit->St->Objs->Prop
 | .normal,s,M=>inlE T fn n (fun d s=>K d s M) s
 | .ret,s,M=>inlE T fn n (fun d s=>K d s M) s
 | _,_,_=>False
def inlM(P:Program)(T:Tab)(H M:Objs)(s:St)(f:FuncId)(ds:List D)(K:D->St->Objs->Prop):Prop:=
 ∃ fn c,P.funcs[f]? = some fn/\fn.body=some c/\(∀ args w,(callFunc f args).run P w = .ok (.enter f args) w) /\
  leB ds.length fn.ntmps (match s with|⟨env,box,row,n⟩=>shE fn.ntmps env fun env=>catK (envOf 0 ds) env fun env=>OkM P T H c (inlQM T fn n K) ⟨env,box,row,fn.ntmps⟩ M)
def lookM(P:Program)(H M:Objs)(t:TypeId)(x i:D)(ok:Bool)(K:D->Prop):Prop:=
 match x with
 | .mv (some g)=>∃ (κ α:Type) (_:DecidableEq κ) (kd:κ->D) (f:Option α->D) (l:List (κ × α × Nat)) (c:Nat) (k:κ),MTy P t kd f/\(g,mObj kd f l c) ∈ H++M/\i=kd k /\
     (match ok with|true=>K (.tup [f (lk l k),.b ((lk l k).isSome=true)])|false=>K (f (lk l k)))
 | _=>False
def updM(P:Program)(M:Objs)(t:TypeId)(x i v:D)(K:Objs->Prop):Prop:=
 match x with
 | .mv (some g)=>∃ (κ α:Type) (_:DecidableEq κ) (kd:κ->D) (f:Option α->D) (l:List (κ × α × Nat)) (c n:Nat) (k:κ) (a:α),MTy P t kd f/\M[n]? = some (g,mObj kd f l c)/\i=kd k/\v=f (some a) /\
     setM M n (g,mObj kd f (mput l c k a).1 (mput l c k a).2) K
 | _=>False
def delM(P:Program)(M:Objs)(t:TypeId)(x i:D)(K:Objs->Prop):Prop:=
 match x with
 | .mv (some g)=>∃ (κ α:Type) (_:DecidableEq κ) (kd:κ->D) (f:Option α->D) (l:List (κ × α × Nat)) (c n:Nat) (k:κ),MTy P t kd f/\M[n]? = some (g,mObj kd f l c)/\i=kd k /\
     setM M n (g,mObj kd f (mdel l k) c) K
 | _=>False
def makM(P:Program)(M:Objs)(t:TypeId)(K:D->Objs->Prop):Prop:=
 ∃ (κ α:Type) (_:DecidableEq κ) (kd:κ->D) (f:Option α->D),MTy P t kd f/\∀ g,noK M g->K (.mv (some g)) ((g,mObj kd f [] 0) :: M)
def itObj(m c:Nat)(seen:List Nat):Obj:=.mapIter (some m) c seen.toArray c
section
variable {κ α : Type} [DecidableEq κ]
def mWf(l:List (κ × α × Nat))(c:Nat):Prop:=(l.map fun e=>e.2.2).Nodup/\∀ e ∈ l,e.2.2<c
omit [DecidableEq κ] in
theorem mWf.nil:mWf ([]:List (κ × α × Nat)) 0:=⟨List.nodup_nil,by simp⟩
end
def rangM(P:Program)(H M:Objs)(t:TypeId)(x:D)(K:D->Objs->Prop):Prop:=
 match x with
 | .mv (some m)=>∃ (κ α:Type) (_:DecidableEq κ) (kd:κ->D) (f:Option α->D) (l:List (κ × α × Nat)) (c:Nat),MTy P t kd f/\(m,mObj kd f l c) ∈ H++M /\
     ∀ g,noK M g->K (.itv g) ((g,itObj m c []) :: M)
 | _=>False
def nextM(H M:Objs)(x:D)(K:D->Objs->Prop):Prop:=
 match x with
 | .itv g=>∃ (κ α:Type) (_:DecidableEq κ) (kd:κ->D) (f:Option α->D) (l:List (κ × α × Nat)) (c n m:Nat) (seen:List Nat),(∀ k,(kd k).ground=true)/\(∀ o,(f o).ground'=true)/\mWf l c/\M[n]? = some (g,itObj m c seen)/\(m,mObj kd f l c) ∈ H++M /\
     ((∀ e ∈ l,e.2.2 ∈ seen)->K (.tup [.ff]) M)/\∀ e ∈ l,e.2.2 ∉ seen->setM M n (g,itObj m c (seen++[e.2.2])) fun M=>K (.tup [.tt,kd e.1,f (some e.2.1)]) M
 | _=>False
def entrM(H M:Objs)(x:D)(K:D->Prop):Prop:=
 match x with
 | .itv g=>∃ (κ α:Type) (_:DecidableEq κ) (kd:κ->D) (f:Option α->D) (l:List (κ × α × Nat)) (c n m:Nat) (seen:List Nat) (e:κ × α × Nat),(∀ k,(kd k).ground=true)/\(∀ o,(f o).ground'=true)/\mWf l c/\M[n]? = some (g,itObj m c (seen++[e.2.2]))/\(m,mObj kd f l c) ∈ H++M/\e ∈ l /\
     K (.tup [kd e.1,f (some e.2.1)])
 | _=>False
def vopM(P:Program)(T:Tab)(H M:Objs)(s:St)(o:Oper)(K:D->St->Objs->Prop):Prop:=
 match o.op with
 | .makeMap t none=>makM P M t fun d M=>K d s M
 | .lookup t x i ok=>lookM P H M t (s.get x) (s.get i) ok fun d=>K d s M
 | .mapUpdate t m k x=>updM P M t (s.get m) (s.get k) (s.get x) fun M=>K (.tup []) s M
 | .range t x=>rangM P H M t (s.get x) fun d M=>K d s M
 | .next x false=>nextM H M (s.get x) fun d M=>K d s M
 | .entry x=>entrM H M (s.get x) fun d=>K d s M
 | .call { callee:=.builtin .delete,args,argTypes }=>match args.toList,argTypes.toList with
  | [m,k],[t,_]=>delM P M t (s.get m) (s.get k) fun M=>K (.tup []) s M
  | _,_=>False
 | .call { callee:=.value (.func f),args,argTypes }=>vop P T s o (fun d s=>K d s M)\/callH P T H M s f argTypes.toList (s.gets args.toList) K\/(forceL (s.gets args.toList) fun ds=>inlM P T H M s f ds K)
 | .call { callee:=.value (.tmp t),args,argTypes:=_ }=>vop P T s o (fun d s=>K d s M)\/fnK (s.get (.tmp t)) fun f first cap=>forceL (first++s.gets args.toList++cap) fun ds=>inlM P T H M s f ds K
 | _=>vop P T s o fun d s=>K d s M
def vopsM(P:Program)(T:Tab)(H:Objs)(ops:List Oper):List Oper->St->Objs->(St->Objs->Prop)->Prop
 | [],s,M,K=>K s M
 | o :: rest,s,M,K=>wantK ops s o.guard
     (fun s=>vopM P T H M s o fun d s M=>putK s o.dst d fun s=>vopsM P T H ops rest s M K)
     (fun s=>putK s o.dst (.tup []) fun s=>vopsM P T H ops rest s M K)
end Go.Vx
namespace Go.Vx
open Go.RowKit
section
variable {P : Program} {T : Tab} {H M : Objs} {s : St} {w0 w w' : World} {F : Fr} {V : Vw} {μ : List Nat} {ω : List Value} {a : Act}
theorem keptOf_keys(ms:List Nat):(keptOf ms).map (·.1)=ms:=by
 induction ms with
 | nil=>rfl
 | cons D ms ih=>simpa[keptOf] using ih
theorem inlM_sound(hT:TOk P T)(hS:SimM (szOf T) w0 F V μ ω s a w H M){f:FuncId}{ds:List D}{vs:List Value}{K:D->St->Objs->Prop}(hv:Vals (szOf T) V μ ω vs ds)(h:inlM P T H M s f ds K) :
    (∀ args w,(callFunc f args).run P w = .ok (.enter f args) w)/\Calls P f vs.toArray w fun e w'=>∃ v d s' V' μ' ω' M',e = .returned v/\K d s' M'/\RS (szOf T) V' μ' ω' v d/\SimM (szOf T) w0 F V' μ' ω' s' a w' H M':=by
 obtain⟨fn,c,hf,hb,hcall,h⟩:=h
 refine⟨hcall,calls_of_wpM hf hb ?_⟩
 obtain⟨hn,h⟩:=leB_iff.1 h
 obtain⟨env,box,row,n⟩:=s
 simp only[shE_eq,catK_eq] at h
 obtain⟨ms,d1,d2,d3⟩:=hS.sim.defers.marks
 have hkept:∀ x ∈ M++(F.kp++keptOf ms),w.heap[x.1]? = some x.2/\noC x.2/\w0.heap.size<=x.1:=by
  intro x hx
  rw[<- List.append_assoc] at hx
  rcases mAp0.1 hx with hx|hx
  . exact hS.sim.defers.kept x hx
  . obtain⟨D,hD,rfl⟩:=List.mem_map.1 hx
    exact⟨(d3 D hD).1,(fun _ _ _ e=>by cases e),(d3 D hD).2.1⟩
 have hnd:((M++(F.kp++keptOf ms)).map (·.1)).Nodup:=by
  rw[<- List.append_assoc,List.map_append,keptOf_keys]
  refine List.nodup_append.2 ⟨hS.nodup,d2,fun x hx y hy e=>?_⟩
  obtain⟨z,hz,rfl⟩:=List.mem_map.1 hx
  exact (d3 y hy).2.2 z hz e
 have hS':SimM (szOf T) w0 ⟨F.V,fun t=>slotV F n a (t - fn.ntmps),[],F.kp++keptOf ms⟩ V μ ω ⟨envOf 0 ds++env.map (fun x=>(x.1+fn.ntmps,x.2)),box,row,fn.ntmps⟩
     { tmps:=vs.toArray++Array.replicate (fn.ntmps - vs.toArray.size) undef,defers:=[] } w H M:=by
  refine⟨⟨by have:=hv.1;simp;omega,⟨⟨[],rfl,List.nodup_nil,by simp⟩,hkept⟩,fun t=>?_,hS.sim.mem.fr rfl⟩,hnd,hS.old⟩
  show RS _ _ _ _ (slotV _ fn.ntmps _ t) (look (envOf 0 ds++env.map (fun x=>(x.1+fn.ntmps,x.2))) t)
  unfold slotV
  split
  . rename_i htn
    show RS _ _ _ _ ((vs.toArray++Array.replicate (fn.ntmps - vs.toArray.size) undef).getD t undef) _
    by_cases ht:t<ds.length
    . rw[look_append_in _ _ _ (envOf_has ds 0 t (by omega) (by omega)),look_envOf,if_pos (Nat.zero_le _),Nat.sub_zero]
      have hta:t<vs.length:=by rw[hv.1];exact ht
      have hd:=gEt0 ht
      have ha:=gEt0 hta
      have:=hv.2 t _ _ ha hd
      have e1:(vs.toArray++Array.replicate (fn.ntmps - vs.toArray.size) undef).getD t undef=vs[t]:=by
       have hv1:=hv.1
       simp[Array.getD,hta]
       omega
      rw[e1]
      simp only[List.getD,hd,Option.getD_some]
      exact this
    . rw[look_append _ _ _ (fun x hx=>by have:=envOf_mem ds 0 x hx;omega),look_shift_lt _ _ _ htn]
      exact .imm _ _ (.u _)
  . rename_i htn
    rw[look_append _ _ _ (fun x hx=>by have:=envOf_mem ds 0 x hx;omega)]
    have e2:t=(t - fn.ntmps)+fn.ntmps:=by omega
    rw[e2,look_shift,<- e2]
    exact hS.sim.env (t - fn.ntmps)
 refine wp_mono (h.run w0 _ V μ ω _ w hS') ?_
 rintro e a' w' ⟨s',V',μ',ω',M',hq,hS2⟩
 have fin:inlE T fn n (fun d s=>K d s M') s'->LeavesInM Fence.wide 0 P fn a'.tmps (fun e w'=>∃ v d s' V' μ' ω' M',e = .returned v/\K d s' M'/\RS (szOf T) V' μ' ω' v d/\SimM (szOf T) w0 F V' μ' ω' s' a w' H M') a'.defers .returning w':=by
  intro hr
  obtain⟨ms',e1,e2,e3,hS3⟩:=hS2.sim.shut
  rw[e1]
  have e4:ms'.map mkD++[]=ms'.map mkD:=List.append_nil _
  show LeavesInM _ _ _ _ _ _ (ms'.map mkD++[]) _ _
  rw[e4]
  refine leavesM (by simp) ms' w' e2 e3 ?_
  obtain⟨env',box',row',m⟩:=s'
  obtain⟨hm,hr⟩:=eqN_iff hr
  obtain⟨us,ds',hk,hv',hrun⟩:=resK_sound hT hS3 _ _ hr
  refine⟨if h:us.toArray.size=1 then us.toArray[0] else .tuple us.toArray,?_,?_⟩
  . rw[results_eq,Array.mapM_eq_mapM_toList]
    dsimp only at hrun
    simp only[Sem.run_bind,Sem.run_map,hrun,Result.andThen_ok,Sem.run_pure]
  . rw[unE_eq] at hk
    have hkp:∀ x ∈ M'++(F.kp++keptOf ms),(shut ms' w').heap[x.1]? = some x.2/\noC x.2/\w0.heap.size<=x.1:=hS3.defers.kept
    have hnd2:((M'++(F.kp++keptOf ms)).map (·.1)).Nodup:=hS2.nodup
    rw[<- List.append_assoc,List.map_append,keptOf_keys] at hnd2
    obtain⟨n1,n2,n3⟩:=List.nodup_append.1 hnd2
    refine⟨_,_,_,V',μ',ω',M',rfl,hk,oneD_rel hv',⟨hS.sim.tmps,⟨⟨ms,d1,d2,fun D hD=>?_⟩,fun x hx=>hkp x (by rw[<- List.append_assoc];exact List.mem_append_left _ hx)⟩,fun t=>?_,hS3.mem.fr rfl⟩,n1,hS.old⟩
    . obtain⟨k1,k2,k3⟩:=hkp (D,.deferred (some [])) (List.mem_append_right _ (List.mem_append_right _ (List.mem_map.2 ⟨D,hD,rfl⟩)))
      exact⟨k1,k3,fun x hx e=>n3 x.1 (List.mem_map.2 ⟨x,hx,rfl⟩) D hD e⟩
    have:=hS3.env (t+fn.ntmps)
    unfold slotV at this
    rw[if_neg (by show ¬ t+fn.ntmps<m;omega)] at this
    show RS _ _ _ _ (slotV F n a t) (look (unEF fn.ntmps env') t)
    rw[look_unEF]
    have e3:t+fn.ntmps - fn.ntmps=t:=by omega
    have this2:RS (szOf T) V' μ' ω' (slotV F n a (t+fn.ntmps - fn.ntmps)) (look env' (t+fn.ntmps)):=this
    rw[e3] at this2
    exact this2
 cases e<;>simp only[inlQM] at hq
 . exact fin hq
 . exact fin hq
def VokM(P:Program)(T:Tab)(w0:World)(F:Fr)(H:Objs)(a:Act)(w:World)(o:Oper)(K:D->St->Objs->Prop):Prop:=
 ∀ (next:Act->World->Prop) (Q:Exit->Act->World->Prop),
  (∀ d v s V' μ' ω' M' w',K d s M'->RS (szOf T) V' μ' ω' v d->SimM (szOf T) w0 F V' μ' ω' s a w' H M'->next (a.put o.dst v) w')->o.wp P a w next Q
theorem VokM.of_vop(hT:TOk P T)(hS:SimM (szOf T) w0 F V μ ω s a w H M){o:Oper}{K:D->St->Objs->Prop}(h:vop P T s o fun d s=>K d s M):VokM P T w0 F H a w o K:=by
 intro next Q hn
 exact vop_sound hT hS.sim h next Q fun d v s V' μ' ω' w' hk hr hS' _=>hn d v s V' μ' ω' M w' hk hr (hS.of hS')
theorem ground_val{sz:TypeId->Nat}{v:Value}{d:D}(h:RS sz V μ ω v d)(hg:d.ground=true):v=toV1 d:=by
 have hr:=h.ri (by cases d<;>first|exact hg|(simp[D.ground] at hg))
 exact hr.uniq (toV1_ri (V:=V) hg) hg
theorem ground_val'{sz:TypeId->Nat}{v:Value}{d:D}(h:RS sz V μ ω v d)(hg:d.ground'=true):v=toV d:=
 (h.ri hg).uniq' (toV_ri (V:=V) hg) hg
theorem RS.mv_{sz:TypeId->Nat}{v:Value}{o:Option Nat}(h:RS sz V μ ω v (.mv o)):v = .map o:=by
 cases h with|imm _ _ h=>cases h;rfl
theorem toV_rs{sz:TypeId->Nat}{d:D}(hg:d.ground'=true):RS sz V μ ω (toV d) d:=.imm _ _ (toV_ri hg)
theorem VokM.value{o:Oper}{K:D->St->Objs->Prop}{v:Value}{d:D}{V':Vw}{μ':List Nat}{ω':List Value}{s':St}{M':Objs}(hr:(execOp a.eval o).run P w = .ok (.value v) w')
    (hk:K d s' M')(hv:RS (szOf T) V' μ' ω' v d)(hS:SimM (szOf T) w0 F V' μ' ω' s' a w' H M'):VokM P T w0 F H a w o K:=by
 intro next Q hn
 unfold Oper.wp
 rw[hr]
 exact hn d v s' V' μ' ω' M' w' hk hv hS
theorem VokM.unit{o:Oper}{K:D->St->Objs->Prop}{V':Vw}{μ':List Nat}{ω':List Value}{s':St}{M':Objs}(hr:(execOp a.eval o).run P w = .ok .skip w')
    (hk:K (.tup []) s' M')(hS:SimM (szOf T) w0 F V' μ' ω' s' a w' H M'):VokM P T w0 F H a w o K:=by
 intro next Q hn
 unfold Oper.wp
 rw[hr]
 exact hn (.tup []) undef s' V' μ' ω' M' w' hk (RS.tup [] #[] rfl (fun j v d h=>by simp at h)) hS
end
section
variable {P : Program} {T : Tab} {H M : Objs} {s : St} {w0 w : World} {F : Fr} {V : Vw} {μ : List Nat} {ω : List Value} {a : Act} {sz : TypeId → Nat}
theorem RS.itv_{sz:TypeId->Nat}{v:Value}{g:Nat}(h:RS sz V μ ω v (.itv g)):v = .pointer (some ⟨g,0,none⟩):=by
 cases h with|imm _ _ h=>cases h;rfl
theorem tup3_rs{v1 v2:Value}{d1 d2:D}(b:Bool)(h1:RS sz V μ ω v1 d1)(h2:RS sz V μ ω v2 d2):RS sz V μ ω (.tuple #[.bool b,v1,v2]) (.tup [if b then .tt else .ff,d1,d2]):=by
 refine .tup _ _ rfl fun j v d e1 e2=>?_
 match j with
 | 0=>simp at e1 e2;subst e1 e2;cases b<;>exact .imm _ _ (by constructor)
 | 1=>simp at e1 e2;subst e1 e2;exact h1
 | 2=>simp at e1 e2;subst e1 e2;exact h2
 | j+3=>simp at e1
theorem setBlock_put(w:World)(g:Nat)(o:Obj):ChangeMaps.setBlock w g o=w.putObj g o:=rfl
theorem SimM.ext{w':World}(h:SimM sz w0 F V μ ω s a w H M)(hx:Ext w w'):SimM sz w0 F V μ ω s a w' H M:=⟨h.sim.ext hx,h.nodup,h.old⟩
theorem left_mem{κ α:Type}{kd:κ->D}{f:Option α->D}{l:List (κ × α × Nat)}{seen:List Nat}{x:MapEntry}:x ∈ (leftOf (l.map (mEnt kd f)).toArray seen.toArray).toList ↔ ∃ e ∈ l,e.2.2 ∉ seen/\mEnt kd f e=x:=by
 simp only[leftOf,Array.toList_filter,List.mem_filter,List.mem_map]
 constructor
 . rintro⟨⟨e,he,rfl⟩,h2⟩
   exact⟨e,he,by simpa[mEnt] using h2,rfl⟩
 . rintro⟨e,he,h2,rfl⟩
   exact⟨⟨e,he,rfl⟩,by simpa[mEnt] using h2⟩
theorem rangM_sound(hS:SimM (szOf T) w0 F V μ ω s a w H M){dst:Option Nat}{type:TypeId}{pos:String}{after:Array Edge}{guard:Option (Nat × Bool)}{t:TypeId}{x:Operand}{K:D->St->Objs->Prop}
    (h:rangM P H M t (s.get x) fun d M=>K d s M):VokM P T w0 F H a w ⟨dst,.range t x,type,pos,after,guard⟩ K:=by
 unfold rangM at h
 split at h
 case h_2=>exact h.elim
 rename_i m hx
 obtain⟨κ,α,_,kd,f,l,c,hty,hg,hk⟩:=h
 have hxv:=hS.sim.get x
 rw[hx] at hxv
 obtain⟨kt,et,hu,_,_⟩:=hty.und
 have hno:noK M w.heap.size:=fun x hx=>by
  have:=(Array.getElem?_eq_some_iff.1 (hS.kept hx).1).1
  omega
 refine .value (v:=.pointer (some ⟨w.heap.size,0,none⟩)) ?_ (hk _ hno) (.imm _ _ (.itv _)) (hS.new (itObj m c []) (noC_iter _ _ _ _))
 have:=run_range_map w t kt et m _ c hu (hS.read hg)
 simp only[execOp,hxv.mv_,this,Sem.run_bind,Result.andThen_ok,Sem.run_pure]
 rfl
theorem nextM_sound(hS:SimM (szOf T) w0 F V μ ω s a w H M){dst:Option Nat}{type:TypeId}{pos:String}{after:Array Edge}{guard:Option (Nat × Bool)}{x:Operand}{K:D->St->Objs->Prop}
    (h:nextM H M (s.get x) fun d M=>K d s M):VokM P T w0 F H a w ⟨dst,.next x false,type,pos,after,guard⟩ K:=by
 unfold nextM at h
 split at h
 case h_2=>exact h.elim
 rename_i g hx
 obtain⟨κ,α,_,kd,f,l,c,n,m,seen,hkg,hvg,⟨_,hc⟩,hit,hm,h1,h2⟩:=h
 have hxv:=hS.sim.get x
 rw[hx] at hxv
 have hr:=(hS.kept (mOf0 hit)).1
 have hb:=hS.read hm
 have hold:∀ x ∈ (l.map (mEnt kd f)).toArray.toList,x.born<c:=by
  intro x hx
  simp only[List.mem_map] at hx
  obtain⟨e,he,rfl⟩:=hx
  exact hc e he
 rcases run_next_at (P:=P) w type g m c c seen.toArray (l.map (mEnt kd f)).toArray c hr hb hold (Nat.le_refl _) with⟨h0,hrun⟩|⟨x,hxl,w1,hw1,hrun⟩
 . refine .value (v:=.tuple #[.bool false]) (d:=.tup [.ff]) ?_ (h1 fun e he=>?_) (.tup _ _ rfl fun j v d e1 e2=>?_) hS
   . simp only[execOp,hxv.itv_,hrun,Sem.run_bind,Result.andThen_ok,Sem.run_pure]
   . refine Classical.byContradiction fun hns=>?_
     have:mEnt kd f e ∈ (leftOf (l.map (mEnt kd f)).toArray seen.toArray).toList:=left_mem.2 ⟨e,he,hns,rfl⟩
     have h00:(leftOf (l.map (mEnt kd f)).toArray seen.toArray).toList=[]:=by
      apply List.eq_nil_of_length_eq_zero
      rw[Array.length_toList]
      exact h0
     rw[h00] at this
     cases this
   . match j with
     | 0=>simp at e1 e2;subst e1 e2;exact .imm _ _ .ff
     | j+1=>simp at e1
 . obtain⟨e,he,hns,rfl⟩:=left_mem.1 hxl
   have hS1:SimM (szOf T) w0 F V μ ω s a w1 H M:=by
    rcases hw1 with rfl|rfl
    . exact hS
    . exact hS.ext ((Below.refl w.heap.size w).drew)
   have hS2:=hS1.put (itObj m c (seen++[e.2.2])) (noC_iter _ _ _ _) hit
   refine .value (v:=.tuple #[.bool true,toV1 (kd e.1),toV (f (some e.2.1))]) ?_ (by have:=h2 e he hns;rw[setM_eq] at this;exact this) (tup3_rs true (.imm _ _ (toV1_ri (hkg _))) (toV_rs (hvg _))) hS2
   simp only[execOp,hxv.itv_,hrun,Sem.run_bind,Result.andThen_ok,Sem.run_pure]
   simp[mEnt,itObj,setBlock_put]
theorem entrM_sound(hS:SimM (szOf T) w0 F V μ ω s a w H M){dst:Option Nat}{type:TypeId}{pos:String}{after:Array Edge}{guard:Option (Nat × Bool)}{x:Operand}{K:D->St->Objs->Prop}
    (h:entrM H M (s.get x) fun d=>K d s M):VokM P T w0 F H a w ⟨dst,.entry x,type,pos,after,guard⟩ K:=by
 unfold entrM at h
 split at h
 case h_2=>exact h.elim
 rename_i g hx
 obtain⟨κ,α,_,kd,f,l,c,n,m,seen,e,hkg,hvg,⟨hnd,hc⟩,hit,hm,he,hk⟩:=h
 have hxv:=hS.sim.get x
 rw[hx] at hxv
 have hr:=(hS.kept (mOf0 hit)).1
 have hb:=hS.read hm
 have hr':w.heap[g]? = some (.mapIter (some m) c (seen.toArray.push e.2.2) c):=by rw[hr];simp[itObj]
 have:=run_entry_at (P:=P) w g m c seen.toArray (l.map (mEnt kd f)).toArray c (mEnt kd f e) hr' hb (by simp only[List.mem_map];exact⟨e,he,rfl⟩) (by simpa[List.map_map,Function.comp_def,mEnt] using hnd)
 refine .value (v:=.tuple #[toV1 (kd e.1),toV (f (some e.2.1))]) ?_ hk (.tup _ _ rfl fun j v d e1 e2=>?_) hS
 . simp only[execOp,hxv.itv_,this,Sem.run_bind,Result.andThen_ok,Sem.run_pure]
   rfl
 . match j with
   | 0=>simp at e1 e2;subst e1 e2;exact .imm _ _ (toV1_ri (hkg _))
   | 1=>simp at e1 e2;subst e1 e2;exact toV_rs (hvg _)
   | j+2=>simp at e1
end
end Go.Vx
namespace Go.Vx
open Go.RowKit
section
variable {P : Program} {T : Tab} {H M : Objs} {s : St} {w0 w w' : World} {F : Fr} {V : Vw} {μ : List Nat} {ω : List Value} {a : Act}
theorem callH_sound(hS:SimM (szOf T) w0 F V μ ω s a w H M){dst:Option Nat}{type:TypeId}{pos:String}{after:Array Edge}{guard:Option (Nat × Bool)}{f:FuncId}{args:Array Operand}{argTypes:Array TypeId}{K:D->St->Objs->Prop}
    (h:callH P T H M s f argTypes.toList (s.gets args.toList) K):VokM P T w0 F H a w ⟨dst,.call ⟨.value (.func f),args,argTypes⟩,type,pos,after,guard⟩ K:=by
 obtain⟨V1,ds1,s1,h,hv1,hS1,_⟩:=pubsK_sound 8 hS.sim (hS.sim.gets _) h
 obtain⟨es,⟨R,hf,h⟩,hes,hri⟩:=exposN_sound argTypes.toList ds1 _ _ hv1 h
 obtain⟨env,box,row,n⟩:=s1
 intro next Q hn
 have hcalls:=hf.run V1 w (args.map a.eval) hS1.mem.vok (fun x hx=>hS.read hx) (by have:=hv1.1;simp at this ⊢;omega) (fun j v d h1 h2=>hri j v d (by simpa using h1) h2)
 unfold Oper.wp
 have hrun:(execOp a.eval ⟨dst,.call ⟨.value (.func f),args,argTypes⟩,type,pos,after,guard⟩).run P w = .ok (.enter f (args.map a.eval)) w:=by
  simp only[execOp,resolve,Act.eval,Deferred.ofValue,invoke,Sem.run_bind,Sem.run_pure,Result.andThen_ok]
  rw[show (#[]++args.map a.eval)++#[]=args.map a.eval by simp,hf.call]
 rw[hrun]
 show Calls P f (args.map a.eval) w _
 refine hcalls.mono ?_
 rintro e w'' ⟨V',ω0,row0,v,d,M',rfl,hR,hrs,hres,hM',hnd⟩
 have hMm:=hS1.mem.call hres
 have hk:=h d row0 M' hR
 have hl:row.length=ω.length:=hS1.mem.rl.symm
 dsimp only at hk
 rw[hl] at hk
 obtain⟨d',hk,hr⟩:=shiftD_sound (μ:=μ) (V':=V') (ω':=ω++ω0) (VLe.refl V') (fun r u hu=>by rw[List.getElem?_append_right (by omega),Nat.add_sub_cancel];exact hu) hrs hk
 rw[catK_eq,appM_eq] at hk
 have hx:Ext w w'':=hres.below
 obtain⟨ms,d1,d2,d3⟩:=hS1.defers.marks
 have hlt:∀ x ∈ M++F.kp,x.1<w.heap.size:=fun x hx=>(Array.getElem?_eq_some_iff.1 (hS.sim.defers.kept x hx).1).1
 have hbase:=hS.sim.mem.below.size
 refine hn d' v _ V' μ (ω++ω0) (M'++M) w'' hk hr ⟨⟨hS1.tmps,⟨⟨ms,d1,d2,fun D hD=>?_⟩,fun x hx'=>?_⟩,fun t=>(hS1.env t).mono hres.le (.refl μ) (.append _ _),hMm.fr rfl⟩,?_,hS.old⟩
 . obtain⟨f1,f2,f3⟩:=d3 D hD
   refine⟨hx.heap f1,f2,fun x hx'=>?_⟩
   have hx2:x ∈ M'++M++F.kp:=hx'
   rw[List.append_assoc] at hx2
   rcases mAp0.1 hx2 with hx2|hx2
   . have h1:=(hM' x hx2).2.2
     have h2:=(Array.getElem?_eq_some_iff.1 f1).1
     omega
   . exact f3 x hx2
 . have hx2:x ∈ M'++M++F.kp:=hx'
   rw[List.append_assoc] at hx2
   rcases mAp0.1 hx2 with hx2|hx2
   . obtain⟨h1,h2,h3⟩:=hM' x hx2
     exact⟨h1,h2,Nat.le_trans hbase h3⟩
   . obtain⟨h1,h2,h3⟩:=hS.sim.defers.kept x hx2
     exact⟨hx.heap h1,h2,h3⟩
 . rw[List.append_assoc,List.map_append]
   refine List.nodup_append.2 ⟨hnd,hS.nodup,fun x hx y hy e=>?_⟩
   obtain⟨z,hz,rfl⟩:=List.mem_map.1 hx
   obtain⟨z2,hz2,rfl⟩:=List.mem_map.1 hy
   have h1:=(hM' z hz).2.2
   have h2:=hlt z2 hz2
   omega
theorem vopM_sound(hT:TOk P T)(hS:SimM (szOf T) w0 F V μ ω s a w H M){o:Oper}{K:D->St->Objs->Prop}(h:vopM P T H M s o K):VokM P T w0 F H a w o K:=by
 obtain⟨dst,op,type,pos,after,guard⟩:=o
 unfold vopM at h
 dsimp only at h
 split at h
 . -- makeMap
   rename_i t
   obtain⟨κ,α,_,kd,f,hty,hk⟩:=h
   have hno:noK M w.heap.size:=fun x hx=>by
    have:=(Array.getElem?_eq_some_iff.1 (hS.kept hx).1).1
    omega
   refine .value (v:=.map (some w.heap.size)) ?_ (hk _ hno) (.imm _ _ (.mv _)) (hS.new (mObj kd f [] 0) (noC_map _ _))
   simp[execOp,hty.make w]
 . -- lookup
   rename_i t x i ok
   unfold lookM at h
   split at h
   case h_2=>exact h.elim
   rename_i g hx
   obtain⟨κ,α,_,kd,f,l,c,k,hty,hg,hi,hk⟩:=h
   have hxv:=hS.sim.get x
   rw[hx] at hxv
   have hiv:=hS.sim.get i
   rw[hi] at hiv
   obtain⟨kt,et,_,hkey,_⟩:=hty.und
   have e2:=ground_val hiv (hkey.ground k)
   have hl:=hty.lookup (hS.read hg) k ok
   cases ok with
   | true=>
    refine .value (v:=.tuple #[toV (f (lk l k)),.bool (lk l k).isSome]) ?_ hk (.tup _ _ rfl fun j v d h1 h2=>?_) hS
    . simp[execOp,hxv.mv_,e2,hl]
    . match j with
      | 0=>simp at h1 h2;subst h1 h2;exact toV_rs (hty.vg _)
      | 1=>simp at h1 h2;subst h1 h2;exact .imm _ _ (.b _ _ Iff.rfl)
      | j+2=>simp at h1
   | false=>
    refine .value (v:=toV (f (lk l k))) ?_ hk (toV_rs (hty.vg _)) hS
    simp[execOp,hxv.mv_,e2,hl]
 . -- mapUpdate
   rename_i t m k x
   unfold updM at h
   split at h
   case h_2=>exact h.elim
   rename_i g hx
   obtain⟨κ,α,_,kd,f,l,c,n,key,val,hty,hg,hi,hvl,hk⟩:=h
   have hxv:=hS.sim.get m
   rw[hx] at hxv
   have hiv:=hS.sim.get k
   rw[hi] at hiv
   have hvv:=hS.sim.get x
   rw[hvl] at hvv
   obtain⟨kt,et,_,hkey,_⟩:=hty.und
   have e2:=ground_val hiv (hkey.ground key)
   have e3:=ground_val' hvv (hty.vg _)
   rw[setM_eq] at hk
   have hu:=hty.update (hS.kept (mOf0 hg)).1 key val
   refine .unit ?_ hk (hS.put _ (noC_map _ _) hg)
   simp[execOp,hxv.mv_,e2,e3,hu]
 . exact rangM_sound hS h
 . exact nextM_sound hS h
 . exact entrM_sound hS h
 . -- delete
   rename_i args argTypes
   split at h
   case h_2=>exact h.elim
   rename_i m k t t2 ha ht
   obtain⟨args⟩:=args
   obtain⟨argTypes⟩:=argTypes
   dsimp only at ha ht
   subst ha ht
   unfold delM at h
   split at h
   case h_2=>exact h.elim
   rename_i g hx
   obtain⟨κ,α,_,kd,f,l,c,n,key,hty,hg,hi,hk⟩:=h
   have hxv:=hS.sim.get m
   rw[hx] at hxv
   have hiv:=hS.sim.get k
   rw[hi] at hiv
   obtain⟨kt,et,_,hkey,_⟩:=hty.und
   have e2:=ground_val hiv (hkey.ground key)
   rw[setM_eq] at hk
   have hd:=hty.delete (hS.kept (mOf0 hg)).1 key t2 type
   refine .value (v:=.tuple #[]) (d:=.tup []) ?_ hk (RS.tup [] #[] rfl (fun j v d h=>by simp at h)) (hS.put _ (noC_map _ _) hg)
   simp[execOp,resolve,invoke,builtin,hxv.mv_,e2,hd]
 . -- a call
   rename_i f args argTypes
   rcases h with h|h|h
   . exact .of_vop hT hS h
   . exact callH_sound hS h
   rw[forceL_eq] at h
   obtain⟨hcall,hcalls⟩:=inlM_sound hT hS (hS.sim.gets args.toList) h
   intro next Q hn
   unfold Oper.wp
   have hrun:(execOp a.eval ⟨dst,.call ⟨.value (.func f),args,argTypes⟩,type,pos,after,guard⟩).run P w = .ok (.enter f (args.toList.map a.eval).toArray) w:=by
    simp only[execOp,resolve,Act.eval,Deferred.ofValue,invoke,Sem.run_bind,Sem.run_pure,Result.andThen_ok]
    rw[hcall]
    congr 2
    apply Array.ext'
    simp
   rw[hrun]
   show Calls P f _ w _
   refine hcalls.mono ?_
   rintro e w'' ⟨v,d,s',V',μ',ω',M',rfl,hk,hr,hS'⟩
   exact hn d v s' V' μ' ω' M' w'' hk hr hS'
 . -- a call of a function value
   rename_i t args argTypes
   rcases h with h|h
   . exact .of_vop hT hS h
   obtain⟨f,first,cap,vs,us,hv,hs1,hs2,hr1,hr2,h⟩:=fnK_sound (hS.sim.get (.tmp t)) h
   rw[forceL_eq] at h
   have hg:=hS.sim.gets args.toList
   have hvals:Vals (szOf T) V μ ω (vs.toList++args.toList.map a.eval++us.toList) (first++s.gets args.toList++cap):=
    ⟨by have:=hg.1;simp at this ⊢;omega,cat3 (fun j v d h1 h2=>hr1 j v d (by simpa using h1) h2) hg.2 (fun j v d h1 h2=>hr2 j v d (by simpa using h1) h2) (by simpa using hs1) hg.1⟩
   obtain⟨hcall,hcalls⟩:=inlM_sound hT hS hvals h
   intro next Q hn
   unfold Oper.wp
   have hrun:(execOp a.eval ⟨dst,.call ⟨.value (.tmp t),args,argTypes⟩,type,pos,after,guard⟩).run P w = .ok (.enter f (vs.toList++args.toList.map a.eval++us.toList).toArray) w:=by
    simp only[execOp,resolve,hv,Deferred.ofValue,invoke,Sem.run_bind,Sem.run_pure,Result.andThen_ok]
    rw[hcall]
    congr 2
    apply Array.ext'
    simp
   rw[hrun]
   show Calls P f _ w _
   refine hcalls.mono ?_
   rintro e w'' ⟨v,d,s',V',μ',ω',M',rfl,hk,hr,hS'⟩
   exact hn d v s' V' μ' ω' M' w'' hk hr hS'
 . exact .of_vop hT hS h
theorem vopsM_sound(hT:TOk P T){ops:List Oper}{Q:Exit->Act->World->Prop}:∀ (rest:List Oper) (s:St) (M:Objs) (V:Vw) (μ:List Nat) (ω:List Value) (a:Act) (w:World) (K:St->Objs->Prop),SimM (szOf T) w0 F V μ ω s a w H M ->
    vopsM P T H ops rest s M K->(∀ s M V μ ω a w,K s M->SimM (szOf T) w0 F V μ ω s a w H M->Q .normal a w)->wpList P ops.toArray Q rest a w
 | [],s,M,V,μ,ω,a,w,K,hS,h,hq=>hq s M V μ ω a w h hS
 | o :: rest,s,M,V,μ,ω,a,w,K,hS,h,hq=>by
  simp only[vopsM] at h
  unfold wpList
  rcases wantK_sound hS.sim h with⟨hw,s1,h,hS1⟩|⟨hw,s1,h,hS1⟩
  . rw[if_pos hw]
    refine .inl (vopM_sound hT (hS.of hS1) h _ _ fun d v s2 V2 μ2 ω2 M2 w2 hk hr hS2=>?_)
    obtain⟨s3,h,hS3⟩:=putK_sound hS2.sim hr hk
    exact vopsM_sound hT rest s3 M2 _ _ _ _ _ K (hS2.of hS3) h hq
  . rw[if_neg (by rw[hw];simp)]
    obtain⟨s3,h,hS3⟩:=putK_sound hS1 (v:=undef) (d:=.tup []) (RS.tup [] #[] rfl (fun j v d h=>by simp at h)) h
    exact vopsM_sound hT rest s3 M _ _ _ _ _ K (hS.of hS3) h hq
theorem OkM.region(hT:TOk P T){Q:Exit->St->Objs->Prop}{id:Nat}{l:List Oper}(h:vopsM P T H l l s M (Q .normal)):OkM P T H (.region id l.toArray false) Q s M:=by
 refine⟨fun w0 F V μ ω a w hS=>?_⟩
 refine wp_region_lit ?_
 exact vopsM_sound hT l s M V μ ω a w _ hS h fun s' M' V' μ' ω' a' w' hk hS'=>⟨s',V',μ',ω',M',hk,hS'⟩
end
end Go.Vx
namespace Go.Vx
open Go.RowKit
section
variable {κ α : Type} [DecidableEq κ]
theorem mfind_at{k:κ}:∀ {l:List (κ × α × Nat)} {j i:Nat} {x:α},mfind k l j=some (i,x)->j<=i/\∃ n,l[i - j]? = some (k,x,n):=by
 intro l
 induction l with
 | nil=>intro j i x h;cases h
 | cons e l ih=>
  intro j i x h
  simp only[mfind] at h
  split at h
  . rename_i he
    cases h
    exact⟨Nat.le_refl _,e.2.2,by simp[<- he]⟩
  . obtain⟨h1,n,h2⟩:=ih h
    refine⟨by omega,n,?_⟩
    rw[show i - j=(i - (j+1))+1 by omega,List.getElem?_cons_succ]
    exact h2
theorem mfind_none{k:κ}:∀ {l:List (κ × α × Nat)} {j:Nat},mfind k l j=none ↔ ∀ e ∈ l,e.1 ≠ k:=by
 intro l
 induction l with
 | nil=>intro j;simp[mfind]
 | cons e l ih=>
  intro j
  simp only[mfind]
  split
  . rename_i he
    simp[he]
  . rename_i he
    rw[ih]
    simp[he]
theorem mfind_shift{k:κ}:∀ (l:List (κ × α × Nat)) (j i:Nat),mfind k l (j+i)=(mfind k l j).map fun x=>(x.1+i,x.2):=by
 intro l
 induction l with
 | nil=>intro j i;rfl
 | cons e l ih=>
  intro j i
  simp only[mfind]
  split
  . rfl
  . rw[<- ih (j+1) i,show j+i+1=j+1+i by omega]
def mKeys(l:List (κ × α × Nat)):Prop:=(l.map (·.1)).Nodup
theorem lk_cons(e:κ × α × Nat)(l:List (κ × α × Nat))(k:κ):lk (e :: l) k=if e.1=k then some e.2.1 else lk l k:=by
 simp only[lk,mfind]
 split
 . rfl
 . rw[show (0+1)=0+1 from rfl,mfind_shift l 0 1]
   cases mfind k l 0<;>rfl
theorem lk_nil(k:κ):lk ([]:List (κ × α × Nat)) k=none:=rfl
theorem lk_none{l:List (κ × α × Nat)}{k:κ}:lk l k=none ↔ ∀ e ∈ l,e.1 ≠ k:=by
 simp only[lk,Option.map_eq_none_iff,mfind_none]
theorem lk_mem{l:List (κ × α × Nat)}{k:κ}{a:α}(h:lk l k=some a):∃ n,(k,a,n) ∈ l:=by
 simp only[lk,Option.map_eq_some_iff] at h
 obtain⟨⟨i,x⟩,h1,rfl⟩:=h
 obtain⟨_,n,h2⟩:=mfind_at h1
 exact⟨n,mOf0 h2⟩
theorem lk_of{l:List (κ × α × Nat)}(hk:mKeys l){e:κ × α × Nat}(he:e ∈ l):lk l e.1=some e.2.1:=by
 induction l with
 | nil=>cases he
 | cons x l ih=>
  rw[lk_cons]
  obtain⟨h1,h2⟩:=List.nodup_cons.1 hk
  rcases List.mem_cons.1 he with rfl|he
  . rw[if_pos rfl]
  . rw[if_neg fun hx=>h1 (List.mem_map.2 ⟨e,he,hx.symm⟩)]
    exact ih h2 he
theorem lk_app(l l':List (κ × α × Nat))(k:κ):lk (l++l') k=(lk l k).or (lk l' k):=by
 induction l with
 | nil=>simp[lk_nil]
 | cons e l ih=>
  rw[List.cons_append,lk_cons,lk_cons,ih]
  split<;>simp
theorem mput_lk(l:List (κ × α × Nat))(c:Nat)(k:κ)(a:α)(k':κ):lk (mput l c k a).1 k'=if k'=k then some a else lk l k':=by
 unfold mput
 cases h:mfind k l 0 with
 | none=>
  dsimp only
  rw[lk_app,lk_cons,lk_nil]
  by_cases hk:k'=k
  . subst hk
    have:lk l k'=none:=by simp[lk,h]
    simp[this]
  . rw[if_neg hk,if_neg fun e=>hk e.symm]
    simp
 | some x=>
  obtain⟨i,x⟩:=x
  dsimp only
  have key:∀ (l:List (κ × α × Nat)) (j:Nat),mfind k l j=some (i,x)->lk (l.modify (i - j) fun e=>(e.1,a,e.2.2)) k'=if k'=k then some a else lk l k':=by
   intro l
   induction l with
   | nil=>intro j h;cases h
   | cons e l ih=>
    intro j h
    simp only[mfind] at h
    split at h
    . rename_i he
      simp only[Option.some.injEq,Prod.mk.injEq] at h
      rw[<- h.1,Nat.sub_self]
      simp only[List.modify_zero_cons,lk_cons,he]
      by_cases hk:k'=k
      . rw[if_pos hk.symm,if_pos hk]
      . rw[if_neg fun e=>hk e.symm,if_neg hk,if_neg fun e=>hk e.symm]
    . rename_i he
      have h1:=(mfind_at h).1
      rw[show i - j=(i - (j+1))+1 by omega,List.modify_succ_cons,lk_cons,ih (j+1) h,lk_cons]
      by_cases hk:k'=k
      . subst hk
        rw[if_neg he,if_pos rfl,if_pos rfl]
      . simp only[if_neg hk]
  simpa using key l 0 h
theorem mput_born{l:List (κ × α × Nat)}{c:Nat}(h:mWf l c)(k:κ)(a:α):mWf (mput l c k a).1 (mput l c k a).2:=by
 obtain⟨h1,h2⟩:=h
 unfold mput
 cases hf:mfind k l 0 with
 | none=>
  refine⟨?_,fun e he=>?_⟩
  . rw[List.map_append]
    refine List.nodup_append.2 ⟨h1,by simp,fun x hx y hy e=>?_⟩
    obtain⟨z,hz,rfl⟩:=List.mem_map.1 hx
    simp at hy
    have:=h2 z hz
    omega
  . rcases mAp0.1 he with he|he
    . have:=h2 e he
      dsimp only
      omega
    . simp at he
      subst he
      dsimp only
      omega
 | some x=>
  obtain⟨i,x⟩:=x
  dsimp only
  have hm:(l.modify i fun e=>(e.1,a,e.2.2)).map (fun e=>e.2.2)=l.map fun e=>e.2.2:=by
   apply List.ext_getElem?
   intro j
   simp only[gMp0,List.getElem?_modify]
   cases l[j]? with
   | none=>rfl
   | some e=>by_cases hj:i=j<;>simp[hj]
  refine⟨by rw[hm];exact h1,fun e he=>?_⟩
  have:e.2.2 ∈ (l.modify i fun e=>(e.1,a,e.2.2)).map (fun e=>e.2.2):=List.mem_map.2 ⟨e,he,rfl⟩
  rw[hm] at this
  obtain⟨z,hz,hze⟩:=List.mem_map.1 this
  rw[<- hze]
  exact h2 z hz
theorem mput_keys{l:List (κ × α × Nat)}{c:Nat}(h:mKeys l)(k:κ)(a:α):mKeys (mput l c k a).1:=by
 unfold mput mKeys at *
 cases hf:mfind k l 0 with
 | none=>
  rw[List.map_append]
  refine List.nodup_append.2 ⟨h,by simp,fun x hx y hy e=>?_⟩
  obtain⟨z,hz,rfl⟩:=List.mem_map.1 hx
  simp at hy
  exact mfind_none.1 hf z hz (e.trans hy)
 | some x=>
  obtain⟨i,x⟩:=x
  dsimp only
  have hm:(l.modify i fun e=>(e.1,a,e.2.2)).map (fun e=>e.1)=l.map fun e=>e.1:=by
   apply List.ext_getElem?
   intro j
   simp only[gMp0,List.getElem?_modify]
   cases l[j]? with
   | none=>rfl
   | some e=>by_cases hj:i=j<;>simp[hj]
  rw[hm]
  exact h
theorem mdel_lk{l:List (κ × α × Nat)}(h:mKeys l)(k k':κ):lk (mdel l k) k'=if k'=k then none else lk l k':=by
 unfold mdel
 cases hf:mfind k l 0 with
 | none=>
  dsimp only
  by_cases hk:k'=k
  . subst hk
    rw[if_pos rfl]
    simp[lk,hf]
  . rw[if_neg hk]
 | some x=>
  obtain⟨i,x⟩:=x
  dsimp only
  have key:∀ (l:List (κ × α × Nat)) (j:Nat),mKeys l->mfind k l j=some (i,x)->lk (l.eraseIdx (i - j)) k'=if k'=k then none else lk l k':=by
   intro l
   induction l with
   | nil=>intro j _ h;cases h
   | cons e l ih=>
    intro j hnd h
    obtain⟨n1,n2⟩:=List.nodup_cons.1 hnd
    simp only[mfind] at h
    split at h
    . rename_i he
      simp only[Option.some.injEq,Prod.mk.injEq] at h
      rw[<- h.1,Nat.sub_self,List.eraseIdx_cons_zero,lk_cons,he]
      by_cases hk:k'=k
      . rw[if_pos hk,lk_none]
        intro z hz e'
        exact n1 (List.mem_map.2 ⟨z,hz,e'.trans (hk.trans he.symm)⟩)
      . rw[if_neg hk,if_neg fun e=>hk e.symm]
    . rename_i he
      have h1:=(mfind_at h).1
      rw[show i - j=(i - (j+1))+1 by omega,List.eraseIdx_cons_succ,lk_cons,ih (j+1) n2 h,lk_cons]
      by_cases hk:k'=k
      . subst hk
        rw[if_neg he,if_pos rfl,if_pos rfl]
      . simp only[if_neg hk]
  simpa using key l 0 h hf
theorem mdel_keys{l:List (κ × α × Nat)}(h:mKeys l)(k:κ):mKeys (mdel l k):=by
 unfold mdel
 split
 . exact List.Nodup.sublist ((List.eraseIdx_sublist l _).map _) h
 . exact h
end
end Go.Vx
namespace Go.Vx
open Go.RowKit
section
variable {P : Program} {T : Tab} {H M : Objs} {Q : Exit → St → Objs → Prop} {c : Code} {s : St}
theorem OkM.ghostB(i j:Nat)(e:TypeId){env:List (Nat × D)}{box:List (List D)}{cs:List D}{row:Rows}{n:Nat}(hi:box[i]? = some cs)(hj:cs[j]? = some .nilS)
    (h:snocK row (some (e,[])) fun row'=>natLit row.length fun r=>setK cs j (.own r 0) fun cs'=>setK box i cs' fun box'=>OkM P T H c Q ⟨env,box',row',n⟩ M):OkM P T H c Q ⟨env,box,row,n⟩ M:=by
 refine⟨fun w0 F V μ ω a w hSM=>?_⟩
 have hS:=hSM.sim
 simp only[snocK_eq,natLit_eq] at h
 obtain⟨hjl,h⟩:=setK_iff _ _ _ _ h
 obtain⟨hil,h⟩:=setK_iff _ _ _ _ h
 have hM:=hS.mem.newRow (w':=w) (Ext.refl w) (v:=.slice none 0 0) (e:=e) (xs:=[]) (vals:=[]) ⟨by simp,.inl ⟨rfl,rfl⟩⟩ ⟨by simp,by simp,by simp⟩ (by simp[Value.ownBlock])
 have hl:row.length=ω.length:=hS.mem.rl.symm
 have hown:RS (szOf T) V μ (ω++[.slice none 0 0]) (.slice none 0 0) (.own row.length 0):=by
  refine .own _ 0 none 0 0 ?_ (Nat.le_refl _)
  rw[hl,List.getElem?_append_right (Nat.le_refl _)]
  simp
 refine h.run w0 F V μ (ω++[.slice none 0 0]) a w (hSM.of ⟨hS.tmps,hS.defers,fun x=>(hS.env x).mono (.refl V) (.refl μ) (.append _ _),?_⟩)
 refine⟨hM.below,hM.vok,hM.vle,hM.vold,by simpa using hM.bl,?_,hM.rl,hM.hrow,hM.uniq,hM.new,hM.vmut⟩
 intro q g cs2 h1 h2
 by_cases hq:q=i
 . subst hq
   rw[List.getElem?_set_self hil] at h2
   cases h2
   obtain⟨us,t',a1,b,c',d,ty⟩:=hM.hbox q g cs h1 hi
   refine⟨us,t',a1,by simpa using b,c',fun k v d' e1 e2=>?_,bTy_set ty j rfl⟩
   by_cases hk:k=j
   . subst hk
     rw[List.getElem?_set_self hjl] at e2
     cases e2
     have:=d k v _ e1 hj
     rw[this.nilS_]
     exact hown
   . rw[List.getElem?_set_ne (Ne.symm hk)] at e2
     exact d k v d' e1 e2
 . rw[List.getElem?_set_ne (Ne.symm hq)] at h2
   exact hM.hbox q g cs2 h1 h2
theorem OkM.pubB{env:List (Nat × D)}{box:List (List D)}{row:Rows}{n:Nat}(hi:immLL box=true)(h:pbE box env fun env'=>OkM P T H c Q ⟨env',[],[],n⟩ M):OkM P T H c Q ⟨env,box,row,n⟩ M:=by
 refine⟨fun w0 F V μ ω a w hSM=>?_⟩
 have hS:=hSM.sim
 have hM:=hS.mem
 dsimp only at hM
 classical
 obtain⟨V',hV'⟩:∃ V':Vw,V'=(fun p=>if ∃ i:Nat,μ[i]? = some p.block then w.cell? p else V p:Vw):=⟨(fun p=>if ∃ i:Nat,μ[i]? = some p.block then w.cell? p else V p:Vw),rfl⟩
 have hle:VLe V V':=fun p v hp=>by
  rw[hV']
  dsimp only
  split
  . exact hM.vok.2 p v hp
  . exact hp
 have hok:VOk V' w:=⟨⟨fun p v hp=>hle p v (hM.vok.1.1 p v hp),hM.vok.1.2⟩,fun p v hp=>by
  rw[hV'] at hp
  dsimp only at hp
  split at hp
  . exact hp
  . exact hM.vok.2 p v hp⟩
 obtain⟨env',hk,he⟩:=pbE_sound (n:=n) hM hi hle (fun i g off v h1 h2=>by rw[hV'];dsimp only;rw[if_pos ⟨i,h1⟩];exact h2) h
 refine hk.run w0 F V' [] [] a w (hSM.of ⟨hS.tmps,hS.defers,fun t=>.imm _ _ (he t _ (hS.env t)),?_⟩)
 refine⟨hM.below,hok,fun p v hp=>hle p v (hM.vle p v hp),fun p hp=>?_,rfl,by simp,rfl,by simp,fun l l' g h1=>?_,fun l g h1=>?_,fun p u l _ h1=>?_⟩
 . rw[<- hM.vold p hp,hV']
   dsimp only
   rw[if_neg]
   rintro⟨i,hi⟩
   have:=(hM.new (.inl i) p.block hi).1
   omega
 all_goals
  cases l with
  | inl i=>simp[Own] at h1
  | inr r=>obtain⟨v,x,h1,_⟩:=h1;simp at h1
end
end Go.Vx
namespace Go.Vx
open Go.RowKit
def dopM(P:Program)(T:Tab)(H M:Objs)(s:St)(o:Oper)(K:D->St->Objs->Prop):Prop:=
 match o.op with
 | .lookup t x i ok=>lookM P H M t (s.get x) (s.get i) ok fun d=>K d s M
 | .mapUpdate t m k x=>updM P M t (s.get m) (s.get k) (s.get x) fun M=>K (.tup []) s M
 | .call { callee:=.value (.func f),args,argTypes }=>dop P T s o (fun d s=>K d s M)\/callH P T H M s f argTypes.toList (s.gets args.toList) K
 | _=>dop P T s o fun d s=>K d s M
def dopsTM(P:Program)(T:Tab)(H:Objs)(ops:List Oper)(A:Waits):Pl->Bool->List (Nat × Src)->St->Objs->(St->Objs->Prop)->Prop
 | .nil,f,_,s,M,K=>match f with|true=>True|false=>K s M
 | .q i r,_,ps,s,M,K=>match ops[i]? with
  | none=>False
  | some o=>wantK ops s o.guard
   (fun s=>qop P T s o fun d s'=>putK s' o.dst d fun s'=>dopsTM P T H ops A r false ((i,srcQ s o) :: ps) s' M K)
   (fun s=>putK s o.dst (.tup []) fun s=>dopsTM P T H ops A r false ((i,.none) :: ps) s M K)
 | .l i r,_,ps,s,M,K=>match ops[i]? with
  | none=>False
  | some o=>wantK ops s o.guard
   (fun s=>clearK (befW A) i s (effOf s o) ps <| dopM P T H M s o fun d s M=>putK s o.dst d fun s=>dopsTM P T H ops A r false (filterP (befW A) i ps) s M K)
   (fun s=>putK s o.dst (.tup []) fun s=>dopsTM P T H ops A r false (filterP (befW A) i ps) s M K)
 | .alt i a r,_,ps,s,M,K=>(match ops[i]? with
  | none=>False
  | some o=>wantK ops s o.guard
   (fun s=>clearK (befW A) i s (effOf s o) ps <| dopM P T H M s o fun d s M=>putK s o.dst d fun s=>dopsTM P T H ops A a false (filterP (befW A) i ps) s M K)
   (fun s=>putK s o.dst (.tup []) fun s=>dopsTM P T H ops A a false (filterP (befW A) i ps) s M K))/\dopsTM P T H ops A r true ps s M K
section
variable {w0 w w' : World} {F : Fr} {V : Vw} {μ : List Nat} {ω : List Value} {s : St} {a : Act} {P : Program} {T : Tab} {H M : Objs}
theorem putObj_cell{g:Nat}{o o':Obj}(hg:w.heap[g]? = some o)(hn:noC o){q:Addr}{v:Value}(hc:w.cell? q=some v):(w.putObj g o').cell? q=some v:=by
 refine (World.cell?_of_block (World.putObj_heap_other fun e=>?_)).trans hc
 obtain⟨o2,ho2,hc2⟩:=cells_of_cell hc
 rw[e,hg] at ho2
 cases ho2
 cases o<;>simp_all[Obj.isCells]
 exact hn _ _ _ rfl
def VokSM(P:Program)(T:Tab)(w0:World)(F:Fr)(H:Objs)(E:Src)(V:Vw)(μ:List Nat)(ω:List Value)(a:Act)(w:World)(o:Oper)(K:D->St->Objs->Prop):Prop:=
 ∀ (next:Act->World->Prop) (Q:Exit->Act->World->Prop),
  (∀ d v s V' μ' ω' M' w',K d s M'->RS (szOf T) V' μ' ω' v d->SimM (szOf T) w0 F V' μ' ω' s a w' H M'->Step E V μ ω w V' μ' ω' w'->next (a.put o.dst v) w')->o.wp P a w next Q
theorem callH_soundS(hS:SimM (szOf T) w0 F V μ ω s a w H M){dst:Option Nat}{type:TypeId}{pos:String}{after:Array Edge}{guard:Option (Nat × Bool)}{f:FuncId}{args:Array Operand}{argTypes:Array TypeId}{K:D->St->Objs->Prop}
    (h:callH P T H M s f argTypes.toList (s.gets args.toList) K):VokSM P T w0 F H .none V μ ω a w ⟨dst,.call ⟨.value (.func f),args,argTypes⟩,type,pos,after,guard⟩ K:=by
 obtain⟨V1,ds1,s1,h,hv1,hS1,hle1⟩:=pubsK_sound 8 hS.sim (hS.sim.gets _) h
 obtain⟨es,⟨R,hf,h⟩,hes,hri⟩:=exposN_sound argTypes.toList ds1 _ _ hv1 h
 obtain⟨env,box,row,n⟩:=s1
 intro next Q hn
 have hcalls:=hf.run V1 w (args.map a.eval) hS1.mem.vok (fun x hx=>hS.read hx) (by have:=hv1.1;simp at this ⊢;omega) (fun j v d h1 h2=>hri j v d (by simpa using h1) h2)
 unfold Oper.wp
 have hrun:(execOp a.eval ⟨dst,.call ⟨.value (.func f),args,argTypes⟩,type,pos,after,guard⟩).run P w = .ok (.enter f (args.map a.eval)) w:=by
  simp only[execOp,resolve,Act.eval,Deferred.ofValue,invoke,Sem.run_bind,Sem.run_pure,Result.andThen_ok]
  rw[show (#[]++args.map a.eval)++#[]=args.map a.eval by simp,hf.call]
 rw[hrun]
 show Calls P f (args.map a.eval) w _
 refine hcalls.mono ?_
 rintro e w'' ⟨V',ω0,row0,v,d,M',rfl,hR,hrs,hres,hM',hnd⟩
 have hMm:=hS1.mem.call hres
 have hk:=h d row0 M' hR
 have hl:row.length=ω.length:=hS1.mem.rl.symm
 dsimp only at hk
 rw[hl] at hk
 obtain⟨d',hk,hr⟩:=shiftD_sound (μ:=μ) (V':=V') (ω':=ω++ω0) (VLe.refl V') (fun r u hu=>by rw[List.getElem?_append_right (by omega),Nat.add_sub_cancel];exact hu) hrs hk
 rw[catK_eq,appM_eq] at hk
 have hx:Ext w w'':=hres.below
 obtain⟨ms,d1,d2,d3⟩:=hS1.defers.marks
 have hlt:∀ x ∈ M++F.kp,x.1<w.heap.size:=fun x hx=>(Array.getElem?_eq_some_iff.1 (hS.sim.defers.kept x hx).1).1
 have hbase:=hS.sim.mem.below.size
 refine hn d' v _ V' μ (ω++ω0) (M'++M) w'' hk hr ⟨⟨hS1.tmps,⟨⟨ms,d1,d2,fun D hD=>?_⟩,fun x hx'=>?_⟩,fun t=>(hS1.env t).mono hres.le (.refl μ) (.append _ _),hMm.fr rfl⟩,?_,hS.old⟩ (.ext (fun p u hp=>hres.le p u (hle1 p u hp)) (.refl _) (.append _ _) hx)
 . obtain⟨f1,f2,f3⟩:=d3 D hD
   refine⟨hx.heap f1,f2,fun x hx'=>?_⟩
   have hx2:x ∈ M'++M++F.kp:=hx'
   rw[List.append_assoc] at hx2
   rcases mAp0.1 hx2 with hx2|hx2
   . have h1:=(hM' x hx2).2.2
     have h2:=(Array.getElem?_eq_some_iff.1 f1).1
     omega
   . exact f3 x hx2
 . have hx2:x ∈ M'++M++F.kp:=hx'
   rw[List.append_assoc] at hx2
   rcases mAp0.1 hx2 with hx2|hx2
   . obtain⟨h1,h2,h3⟩:=hM' x hx2
     exact⟨h1,h2,Nat.le_trans hbase h3⟩
   . obtain⟨h1,h2,h3⟩:=hS.sim.defers.kept x hx2
     exact⟨hx.heap h1,h2,h3⟩
 . rw[List.append_assoc,List.map_append]
   refine List.nodup_append.2 ⟨hnd,hS.nodup,fun x hx y hy e=>?_⟩
   obtain⟨z,hz,rfl⟩:=List.mem_map.1 hx
   obtain⟨z2,hz2,rfl⟩:=List.mem_map.1 hy
   have h1:=(hM' z hz).2.2
   have h2:=hlt z2 hz2
   omega
theorem dopM_sound(hT:TOk P T)(hS:SimM (szOf T) w0 F V μ ω s a w H M){o:Oper}{K:D->St->Objs->Prop}(h:dopM P T H M s o K):VokSM P T w0 F H (effOf s o) V μ ω a w o K:=by
 obtain⟨dst,op,type,pos,after,guard⟩:=o
 have plain:dop P T s ⟨dst,op,type,pos,after,guard⟩ (fun d s=>K d s M)->VokSM P T w0 F H (effOf s ⟨dst,op,type,pos,after,guard⟩) V μ ω a w ⟨dst,op,type,pos,after,guard⟩ K:=fun h next Q hn=>
  dop_sound hT hS.sim h next Q fun d v s' V' μ' ω' w' hk hr hS' hst=>hn d v s' V' μ' ω' M w' hk hr (hS.of hS') hst
 cases op
 case lookup t x i ok=>
  intro next Q hn
  unfold dopM lookM at h
  dsimp only at h
  split at h
  case h_2=>exact h.elim
  rename_i g hx
  obtain⟨κ,α,_,kd,f,l,c,k,hty,hg,hi,hk⟩:=h
  have hxv:=hS.sim.get x
  rw[hx] at hxv
  have hiv:=hS.sim.get i
  rw[hi] at hiv
  obtain⟨kt,et,_,hkey,_⟩:=hty.und
  have e2:=ground_val hiv (hkey.ground k)
  have hl:=hty.lookup (hS.read hg) k ok
  have hst:Step .none V μ ω w V μ ω w:=.ext (fun _ _ h=>h) (.refl _) (.refl _) (Ext.refl w)
  unfold Oper.wp
  cases ok with
  | true=>
   have hrun:(execOp a.eval ⟨dst,.lookup t x i true,type,pos,after,guard⟩).run P w = .ok (.value (.tuple #[toV (f (lk l k)),.bool (lk l k).isSome])) w:=by
    simp[execOp,hxv.mv_,e2,hl]
   rw[hrun]
   refine hn _ _ s V μ ω M w hk (.tup _ _ rfl fun j v d h1 h2=>?_) hS hst
   match j with
   | 0=>simp at h1 h2;subst h1 h2;exact toV_rs (hty.vg _)
   | 1=>simp at h1 h2;subst h1 h2;exact .imm _ _ (.b _ _ Iff.rfl)
   | j+2=>simp at h1
  | false=>
   have hrun:(execOp a.eval ⟨dst,.lookup t x i false,type,pos,after,guard⟩).run P w = .ok (.value (toV (f (lk l k)))) w:=by
    simp[execOp,hxv.mv_,e2,hl]
   rw[hrun]
   exact hn _ _ s V μ ω M w hk (toV_rs (hty.vg _)) hS hst
 case mapUpdate t m k x=>
  intro next Q hn
  unfold dopM updM at h
  dsimp only at h
  split at h
  case h_2=>exact h.elim
  rename_i g hx
  obtain⟨κ,α,_,kd,f,l,c,n,key,val,hty,hg,hi,hvl,hk⟩:=h
  have hxv:=hS.sim.get m
  rw[hx] at hxv
  have hiv:=hS.sim.get k
  rw[hi] at hiv
  have hvv:=hS.sim.get x
  rw[hvl] at hvv
  obtain⟨kt,et,_,hkey,_⟩:=hty.und
  have e2:=ground_val hiv (hkey.ground key)
  have e3:=ground_val' hvv (hty.vg _)
  rw[setM_eq] at hk
  have hkg:=hS.kept (mOf0 hg)
  have hu:=hty.update hkg.1 key val
  unfold Oper.wp
  have hrun:(execOp a.eval ⟨dst,.mapUpdate t m k x,type,pos,after,guard⟩).run P w = .ok .skip (w.putObj g (mObj kd f (mput l c key val).1 (mput l c key val).2)):=by
   simp[execOp,hxv.mv_,e2,e3,hu]
  rw[hrun]
  exact hn (.tup []) undef s V μ ω _ _ hk (RS.tup [] #[] rfl (fun j v d h=>by simp at h)) (hS.put _ (noC_map _ _) hg)
   ⟨fun _ _ h=>h,.refl _,fun _ _ _ h=>h,fun q v hc _=>putObj_cell hkg.1 hkg.2.1 hc⟩
 case call c=>
  obtain⟨callee,args,argTypes⟩:=c
  cases callee with
  | invoke r m=>exact plain h
  | builtin b=>exact plain h
  | value f=>
   cases f<;>first|exact plain h|skip
   rcases h with h|h
   . exact plain h
   . exact callH_soundS hS h
 all_goals exact plain h
theorem dopsTM_sound(hT:TOk P T){ops:List Oper}{A:Waits}(hns:Region.noSelect ops.toArray=true)(hA:waitsB ops.toArray A=true){Q:Exit->Act->World->Prop}(hQ:∀ c a w,¬ Q (.panic c) a w) :
    ∀ (p:Pl) (f:Bool) (n:Nat) (listed:Array Bool) (ps:Pends) (sps:List (Nat × Src)) (s:St) (V:Vw) (μ:List Nat) (ω:List Value) (a:Act) (w:World) (M:Objs) (K:St->Objs->Prop),
     planT ops.toArray p f n listed=true->Closed ops.toArray listed->SimM (szOf T) w0 F V μ ω s a w H M->All2 (PendOK V μ ω w) ps sps->dopsTM P T H ops A p f sps s M K ->
     (∀ s M V μ ω a w,K s M->SimM (szOf T) w0 F V μ ω s a w H M->Q .normal a w) ->
     match f with
     | false=>wpAnyP P ops.toArray (befW A) Q p.depth ps listed a w
     | true=>∀ j ∈ p.heads,wpOp P ops.toArray Q j (fun a' w'=>(∀ x ∈ ps,befW A x.1 j=false->x.2 w')/\wpAnyP P ops.toArray (befW A) Q n (ps.filter fun x=>!befW A x.1 j) (listed.setIfInBounds j true) a' w') a w
 | .nil,f,n,listed,ps,sps,s,V,μ,ω,a,w,M,K,hB,hcl,hS,hps,h,hq=>by
  cases f with
  | true=>intro j hj;cases hj
  | false=>exact⟨by simpa[planT] using hB,hq _ _ _ _ _ _ _ h hS⟩
 | .q i r,f,n,listed,ps,sps,s,V,μ,ω,a,w,M,K,hB,hcl,hS,hps,h,hq=>by
  cases f with
  | true=>intro j hj;cases hj
  | false=>
  simp only[planT,Bool.not_false,Bool.true_and,Bool.and_eq_true] at hB
  obtain⟨⟨⟨hr,hf⟩,hq1⟩,hB⟩:=hB
  simp only[dopsTM] at h
  cases ho:ops[i]? with
  | none=>rw[ho] at h;exact h.elim
  | some o=>
   rw[ho] at h
   dsimp only at h
   have ho':ops.toArray[i]? = some o:=by simpa using ho
   rw[ho'] at hq1
   have hri:i ∈ Region.ready .any ops.toArray listed:=by simpa using hr
   have hall:∀ x ∈ ps,x.2 w:=fun x hx=>let ⟨y,hy⟩:=hps.left x hx;hy.mono_
   rcases wantK_sound (o:=o) hS.sim h with⟨hw,s1,h,hS1⟩|⟨hw,s1,h,hS1⟩
   . obtain⟨d,v,s2,h,hr2,hS2,p,n,hsrc,hq2⟩:=qop_sound hT hS1 h
     obtain⟨s3,h,hS3⟩:=putK_sound hS2 hr2 h
     replace hS3:=hS.of hS3
     refine wpAnyP_first (C:=KeepN p n w) (v:=v) (fun i j=>befW_spec hA i j) ho' (Region.noSelect_spec hns) (fun c a w hc=>absurd hc (hQ _ _ _)) r.depth ps listed a w hcl (Region.free_spec ho' hf) hri
      (.inl ⟨hw,fun w' hk=>quiet_value (by simpa using hq1) (hq2 w' ?_)⟩) (fun _ _ _ h=>h) hall ?_
     . unfold QR
       split
       . exact hk
       . rename_i heq;simp[isQ,heq] at hq1
       . rename_i heq;simp[isQ,heq] at hq1
       . trivial
     . exact dopsTM_sound hT hns hA hQ r false 0 _ _ _ s3 V μ ω _ w M K hB (hcl.set hri) hS3 (.cons ⟨rfl,p,n,w,rfl,hsrc,fun _ _ _ h=>h⟩ hps) h hq
   . obtain⟨s3,h,hS3⟩:=putK_sound hS1 (v:=undef) (d:=.tup []) (RS.tup [] #[] rfl (fun j v d h=>by simp at h)) h
     replace hS3:=hS.of hS3
     refine wpAnyP_first (C:=KeepN ⟨0,0,none⟩ 0 w) (v:=undef) (fun i j=>befW_spec hA i j) ho' (Region.noSelect_spec hns) (fun c a w hc=>absurd hc (hQ _ _ _)) r.depth ps listed a w hcl (Region.free_spec ho' hf) hri
      (.inr ⟨hw,rfl⟩) (fun _ _ _ h=>h) hall ?_
     exact dopsTM_sound hT hns hA hQ r false 0 _ _ _ s3 V μ ω _ w M K hB (hcl.set hri) hS3 (.cons ⟨rfl,⟨0,0,none⟩,0,w,rfl,SrcP.zero _,fun _ _ _ h=>h⟩ hps) h hq
 | .l i r,f,n,listed,ps,sps,s,V,μ,ω,a,w,M,K,hB,hcl,hS,hps,h,hq=>by
  cases f with
  | true=>intro j hj;cases hj
  | false=>
  simp only[planT,Bool.not_false,Bool.true_and,Bool.and_eq_true,beq_iff_eq] at hB
  obtain⟨hr,hB⟩:=hB
  simp only[dopsTM] at h
  cases ho:ops[i]? with
  | none=>rw[ho] at h;exact h.elim
  | some o=>
   rw[ho] at h
   dsimp only at h
   have ho':ops.toArray[i]? = some o:=by simpa using ho
   have hri:i ∈ Region.ready .any ops.toArray listed:=by rw[hr];simp
   refine⟨fun h0=>(by rw[hr] at h0;cases h0),fun j hj=>?_⟩
   rw[hr] at hj
   have hji:j=i:=by simpa using hj
   subst hji
   unfold wpOp
   rw[ho']
   dsimp only
   rcases wantK_sound (o:=o) hS.sim h with⟨hw,s1,h,hS1⟩|⟨hw,s1,h,hS1⟩
   . rw[if_pos hw]
     obtain⟨h,hst⟩:=clearK_step hS1.mem hps h
     refine .inl (dopM_sound hT (hS.of hS1) h _ _ fun d v s2 V2 μ2 ω2 M2 w2 hk hr2 hS2 hstep=>?_)
     obtain⟨h1,h2⟩:=hst _ _ _ _ hstep
     obtain⟨s3,h,hS3⟩:=putK_sound hS2.sim hr2 hk
     replace hS3:=hS2.of hS3
     exact⟨h1,dopsTM_sound hT hns hA hQ r false 0 _ _ _ s3 _ _ _ _ w2 M2 K hB (hcl.set hri) hS3 h2 h hq⟩
   . rw[if_neg (by rw[hw];simp)]
     obtain⟨s3,h,hS3⟩:=putK_sound hS1 (v:=undef) (d:=.tup []) (RS.tup [] #[] rfl (fun j v d h=>by simp at h)) h
     replace hS3:=hS.of hS3
     exact⟨fun x hx _=>let ⟨y,hy⟩:=hps.left x hx;hy.mono_,dopsTM_sound hT hns hA hQ r false 0 _ _ _ s3 _ _ _ _ w M K hB (hcl.set hri) hS3 (hps.filter fun _ _ h=>h.1) h hq⟩
 | .alt i b r,f,n,listed,ps,sps,s,V,μ,ω,a,w,M,K,hB,hcl,hS,hps,h,hq=>by
  simp only[planT,Bool.and_eq_true] at hB
  obtain⟨⟨⟨hf,hri⟩,hBa⟩,hBr⟩:=hB
  have hri:i ∈ Region.ready .any ops.toArray listed:=by simpa using hri
  simp only[dopsTM] at h
  obtain⟨h,hrest⟩:=h
  have hone:wpOp P ops.toArray Q i (fun a' w'=>(∀ x ∈ ps,befW A x.1 i=false->x.2 w')/\wpAnyP P ops.toArray (befW A) Q b.depth (ps.filter fun x=>!befW A x.1 i) (listed.setIfInBounds i true) a' w') a w:=by
   cases ho:ops[i]? with
   | none=>rw[ho] at h;exact h.elim
   | some o=>
    rw[ho] at h
    dsimp only at h
    have ho':ops.toArray[i]? = some o:=by simpa using ho
    unfold wpOp
    rw[ho']
    dsimp only
    rcases wantK_sound (o:=o) hS.sim h with⟨hw,s1,h,hS1⟩|⟨hw,s1,h,hS1⟩
    . rw[if_pos hw]
      obtain⟨h,hst⟩:=clearK_step hS1.mem hps h
      refine .inl (dopM_sound hT (hS.of hS1) h _ _ fun d v s2 V2 μ2 ω2 M2 w2 hk hr2 hS2 hstep=>?_)
      obtain⟨h1,h2⟩:=hst _ _ _ _ hstep
      obtain⟨s3,h,hS3⟩:=putK_sound hS2.sim hr2 hk
      replace hS3:=hS2.of hS3
      exact⟨h1,dopsTM_sound hT hns hA hQ b false 0 _ _ _ s3 _ _ _ _ w2 M2 K hBa (hcl.set hri) hS3 h2 h hq⟩
    . rw[if_neg (by rw[hw];simp)]
      obtain⟨s3,h,hS3⟩:=putK_sound hS1 (v:=undef) (d:=.tup []) (RS.tup [] #[] rfl (fun j v d h=>by simp at h)) h
      replace hS3:=hS.of hS3
      exact⟨fun x hx _=>let ⟨y,hy⟩:=hps.left x hx;hy.mono_,dopsTM_sound hT hns hA hQ b false 0 _ _ _ s3 _ _ _ _ w M K hBa (hcl.set hri) hS3 (hps.filter fun _ _ h=>h.1) h hq⟩
  have hmore:=dopsTM_sound hT hns hA hQ r true b.depth listed ps sps s V μ ω a w M K hBr hcl hS hps hrest hq
  dsimp only at hmore
  cases f with
  | true=>
   intro j hj
   have hn:b.depth=n:=Nat.eq_of_beq_eq_true hf
   subst hn
   rcases List.mem_cons.1 hj with rfl|hj
   . exact hone
   . exact hmore j hj
  | false=>
   have hr:Region.ready .any ops.toArray listed=i :: r.heads:=by simpa using hf
   refine⟨fun h0=>(by rw[hr] at h0;cases h0),fun j hj=>?_⟩
   rw[hr] at hj
   rcases List.mem_cons.1 hj with rfl|hj
   . exact hone
   . exact hmore j hj
theorem OkM.region_tree(hT:TOk P T)(hm:P.follows .mixedOrders=true){s:St}{M:Objs}{Q:Exit->St->Objs->Prop}{id:Nat}{l:List Oper}(A:Waits)(p:Pl)(hB:planTok l.toArray A p=true)(h:dopsTM P T H l A p false [] s M (Q .normal)) :
    OkM P T H (.region id l.toArray true) Q s M:=by
 refine⟨fun w0 F V μ ω a w hS=>?_⟩
 simp only[planTok,Bool.and_eq_true,beq_iff_eq] at hB
 obtain⟨⟨⟨hns,hA⟩,hlen⟩,hB⟩:=hB
 have hd:Ext w { w with drawn:=w.drawn+1 }:=(Below.refl w.heap.size w).drew
 refine wp_mono (Q:=fun e a' w'=>e = .normal/\∃ s' V' μ' ω' M',Q .normal s' M'/\SimM (szOf T) w0 F V' μ' ω' s' a' w' H M') (wp_region_any hm ?_) ?_
 . refine wpAny_of_P (bef:=befW A) _ [] _ _ _ ?_
   have hz:∀ m j:Nat,(Array.replicate m false).getD j false=false:=fun m j=>by
    rcases Nat.lt_or_ge j m with h|h<;>simp[h]
   have hw:=dopsTM_sound hT hns hA (Q:=fun e a' w'=>e = .normal/\∃ s' V' μ' ω' M',Q .normal s' M'/\SimM (szOf T) w0 F V' μ' ω' s' a' w' H M') (fun c a w h=>by cases h.1) p false 0 _ [] [] s V μ ω a _ M _ hB
    (fun j o _ hl=>by rw[hz] at hl;cases hl) (hS.ext hd) .nil h fun s' M' V' μ' ω' a' w' hk hS'=>⟨rfl,s',V',μ',ω',M',hk,hS'⟩
   rw[hlen] at hw
   exact hw
 . rintro e a' w' ⟨rfl,s',V',μ',ω',M',hk,hS'⟩
   exact⟨s',V',μ',ω',M',hk,hS'⟩
end
end Go.Vx
namespace Go.Vx
open Go.RowKit Go.ChangeShapes Go.WideShapes
open Go.Proofs.YtcglkonooeddfaaGreatDoor (Rows.uptoBulk Rows.uptoBulkAll)
inductive Shp where
 | bool|int (k:IntKind)|str|slice (e:TypeId) (cells:List Shp)
def shpFs(F:TypeId->Option (List Shp)):Nat->List (Nat × TypeId)->Option (List Shp)
 | _,[]=>some []
 | k,(o,t) :: r=>match Nat.beq o k,F t with
  | true,some l=>(match shpFs F (k+l.length) r with|some m=>some (l++m)|none=>none)
  | _,_=>none
def lenIs(s:Nat)(o:Option (List Shp)):Option (List Shp):=match o with|some l=>(match Nat.beq s l.length with|true=>some l|false=>none)|none=>none
def shpC(T:Tab):Nat->TypeId->Option (List Shp)
 | 0,_=>none
 | f+1,t=>match T t with
  | some ⟨s,_,.bool,_⟩=>lenIs s (some [.bool])
  | some ⟨s,_,.int k,_⟩=>lenIs s (some [.int k])
  | some ⟨s,_,.str,_⟩=>lenIs s (some [.str])
  | some ⟨s,_,.slice e,_⟩=>lenIs s (match shpC T f e with|some l=>some [.slice e l]|none=>none)
  | some ⟨s,_,.struct fs,_⟩=>lenIs s (shpFs (shpC T f) 0 fs)
  | _=>none
mutual
/-- A cell of such a type; lists and texts of at most B. -/
def TyS (B : Nat) : Shp → D → Prop
  | .bool, d => ∃ p, d = .b p
  | .int k, d => ∃ n, d = .i k n ∧ (Lit.int k n).wf = true
  | .str, d => ∃ l, d = .s l ∧ l.length ≤ B
  | .slice e l, d => ∃ rows room, d = .lst e rows room ∧ rows.length + room.length ≤ B ∧ ∀ r, r ∈ rows ++ room → TySs B l r
/-- .. a row of cells. -/
def TySs (B : Nat) : List Shp → List D → Prop
  | [], [] => True
  | s :: ss, d :: ds => TyS B s d ∧ TySs B ss ds
  | [], _ :: _ => False
  | _ :: _, [] => False
end
def TyA(T:Tab)(B:Nat)(t:TypeId)(l:List Shp)(x:D):Prop:=
 match T t with
 | some ⟨_,_,.struct _,_⟩=>∃ row,x = .agg row/\TySs B l row
 | _=>TySs B l [x]
theorem TySs.append{B:Nat}:∀ {ts us:List Shp} {ds es:List D},TySs B ts ds->TySs B us es->TySs B (ts++us) (ds++es)
 | [],_,[],_,_,h=>h
 | _ :: _,_,_ :: _,_,h,h'=>by
  simp only[TySs,List.cons_append] at h ⊢
  exact⟨h.1,TySs.append h.2 h'⟩
 | [],_,_ :: _,_,h,_=>by simp[TySs] at h
 | _ :: _,_,[],_,h,_=>by simp[TySs] at h
theorem lenIs_some{s:Nat}{o:Option (List Shp)}{l:List Shp}(h:lenIs s o=some l):o=some l/\s=l.length:=by
 unfold lenIs at h
 split at h
 . split at h
   . rename_i hb
     cases h
     exact⟨rfl,Nat.eq_of_beq_eq_true hb⟩
   . cases h
 . cases h
theorem shpC_len{T:Tab}{f:Nat}{t:TypeId}{l:List Shp}(h:shpC T f t=some l):szOf T t=l.length/\∃ ti,T t=some ti:=by
 cases f with
 | zero=>simp[shpC] at h
 | succ f=>
  simp only[shpC] at h
  split at h
  all_goals first
   | (cases h)
   | (rename_i ht;have:=lenIs_some h;rw[szOf_eq ht];exact⟨this.2,_,ht⟩)
section
variable {H : Type} {enc : TypeId × Value → H} {P : Program} {T : Tab} {w : World} {held : Bool}
theorem bulk_mem{d:DataW H}:∀ {l:List (DataW H)},d ∈ l->Rows.uptoBulk d<=Rows.uptoBulkAll l
 | [],h=>by cases h
 | x :: r,h=>by
  simp only[Rows.uptoBulkAll]
  rcases List.mem_cons.1 h with rfl|h
  . omega
  . have:=bulk_mem h;omega
theorem bulk_one(d:DataW H):1<=Rows.uptoBulk d:=by
 cases d with
 | lit l=>cases l<;>simp[Rows.uptoBulk]
 | _=>simp[Rows.uptoBulk]
theorem bulk_length:∀ (l:List (DataW H)),l.length<=Rows.uptoBulkAll l
 | []=>by simp[Rows.uptoBulkAll]
 | x :: r=>by have:=bulk_one x;have:=bulk_length r;simp only[Rows.uptoBulkAll,List.length_cons];omega
def CellsR(T:Tab)(w:World)(cs:List Value)(row:List D):Prop:=
 cs.length=row.length/\∀ (j:Nat) v d,cs[j]? = some v->row[j]? = some d->RI (szOf T) (heapV w) v d/\v.oneCell'=true
theorem CellsR.append{cs cs':List Value}{row row':List D}(h:CellsR T w cs row)(h':CellsR T w cs' row'):CellsR T w (cs++cs') (row++row'):=by
 refine⟨by simp[h.1,h'.1],fun j v d h1 h2=>?_⟩
 by_cases hj:j<cs.length
 . rw[List.getElem?_append_left hj] at h1
   rw[List.getElem?_append_left (by rw[<- h.1];exact hj)] at h2
   exact h.2 j v d h1 h2
 . rw[List.getElem?_append_right (by omega)] at h1
   rw[List.getElem?_append_right (by rw[<- h.1];omega),<- h.1] at h2
   exact h'.2 _ v d h1 h2
theorem CellsR.one{v:Value}{d:D}(h:RI (szOf T) (heapV w) v d)(h1:v.oneCell'=true):CellsR T w [v] [d]:=by
 refine⟨rfl,fun j v' d' h2 h3=>?_⟩
 cases j with
 | zero=>simp at h2 h3;subst h2 h3;exact⟨h,h1⟩
 | succ j=>simp at h2
theorem cells_of(hT:TOk P T){t:TypeId}(h:∃ ti,T t=some ti):szOf T t=P.cellsOf t:=by
 obtain⟨ti,ht⟩:=h
 obtain⟨i,z,h1,h2,_⟩:=(hT t ti ht).info
 rw[szOf_eq ht]
 simp[Program.cellsOf,h1,h2]
theorem fields_ri{f B:Nat}{k:Nat}(ih:∀ t cs x l,shpC T f t=some l->(B=maxLen\/Rows.uptoBulk x.1<=B)->DataW.trod enc P w 0 (fun _=>true) held k t cs=some x->∃ row,TySs B l row/\CellsR T w cs row)
    (hT:TOk P T)(cs:List Value) :
    ∀ (fs:List (Nat × TypeId)) (o:Nat) (xs:List (DataW H × List MemPlace)) (l:List Shp),shpFs (shpC T f) o fs=some l ->
     (B=maxLen\/Rows.uptoBulkAll (xs.map (·.1))<=B)->xs.length=fs.length ->
     (∀ (i:Nat) p,fs[i]? = some p->DataW.trod enc P w 0 (fun _=>true) held k p.2 ((cs.drop p.1).take (P.cellsOf p.2))=xs[i]?) ->
     cs.length=o+l.length->∃ row,TySs B l row/\CellsR T w (cs.drop o) row
 | [],o,xs,l,h1,_,_,_,hl=>⟨[],by simp[shpFs] at h1;subst h1;simp[TySs],by
     simp[shpFs] at h1
     subst h1
     have:cs.drop o=[]:=List.drop_of_length_le (by rw[hl];simp)
     rw[this]
     exact⟨rfl,fun j v d h=>by simp at h⟩⟩
 | (o',t) :: r,o,xs,l,h1,hB,hxl,hx,hl=>by
  simp only[shpFs] at h1
  split at h1
  case h_2=>cases h1
  rename_i l0 hb ht
  split at h1
  case h_2=>cases h1
  rename_i m hm
  cases h1
  have ho:o'=o:=Nat.eq_of_beq_eq_true hb
  obtain⟨hs,hti⟩:=shpC_len ht
  subst ho
  cases xs with
  | nil=>simp at hxl
  | cons x0 xs=>
   have h0:=hx 0 _ rfl
   simp only[List.getElem?_cons_zero] at h0
   have hb0:B=maxLen\/Rows.uptoBulk x0.1<=B:=by
    rcases hB with hB|hB
    . exact .inl hB
    . right;simp only[List.map_cons,Rows.uptoBulkAll] at hB;omega
   have hb1:B=maxLen\/Rows.uptoBulkAll (xs.map (·.1))<=B:=by
    rcases hB with hB|hB
    . exact .inl hB
    . right;simp only[List.map_cons,Rows.uptoBulkAll] at hB;omega
   simp only[List.length_append] at hl
   obtain⟨row0,a0,r0⟩:=ih _ _ _ _ ht hb0 h0
   obtain⟨row1,a1,r1⟩:=fields_ri ih hT cs r (o' + l0.length) xs m hm hb1 (by simpa using hxl) (fun i p hp=>by
    have:=hx (i+1) p (by simpa using hp)
    simpa using this) (by omega)
   refine⟨row0++row1,a0.append a1,?_⟩
   have hc:cs.drop o'=(cs.drop o').take (P.cellsOf t)++cs.drop (o' + l0.length):=by
    rw[<- cells_of hT hti,hs,<- List.drop_drop,List.take_append_drop]
   rw[hc]
   exact r0.append r1
theorem trod_ri(hT:TOk P T)(B:Nat)(hBm:B<=maxLen):∀ (f k:Nat) (t:TypeId) (cs:List Value) (x:DataW H × List MemPlace) (l:List Shp),shpC T f t=some l->(B=maxLen\/Rows.uptoBulk x.1<=B) ->
    DataW.trod enc P w 0 (fun _=>true) held k t cs=some x->∃ row,TySs B l row/\CellsR T w cs row
 | 0,_,_,_,_,_,h,_,_=>by simp[shpC] at h
 | f+1,k,t,cs,x,l,hok,hB,h=>by
  cases ht:T t with
  | none=>simp[shpC,ht] at hok
  | some ti=>
   obtain⟨s,b,kd,z⟩:=ti
   have hG:=(hT t _ ht).kind
   cases kd with
   | bool=>
    obtain⟨v,rfl,rfl⟩:=DataW.trod_bool hG h
    simp only[shpC,ht] at hok
    obtain⟨hok,_⟩:=lenIs_some hok
    cases hok
    refine⟨[.b (v=true)],?_,.one (.b _ _ Iff.rfl) rfl⟩
    simp only[TySs,TyS,and_true]
    exact⟨_,rfl⟩
   | int kk=>
    obtain⟨n,rfl,rfl,hw⟩:=DataW.trod_int hG h
    simp only[shpC,ht] at hok
    obtain⟨hok,_⟩:=lenIs_some hok
    cases hok
    refine⟨[.i kk n],?_,.one (.i _ _) rfl⟩
    simp[TySs,TyS,hw]
   | str=>
    obtain⟨v,rfl,rfl,hl⟩:=DataW.trod_string hG h
    simp only[shpC,ht] at hok
    obtain⟨hok,_⟩:=lenIs_some hok
    cases hok
    refine⟨[.s v.data.toList],?_,.one (by have:=RI.s (sz:=szOf T) (V:=heapV w) v.data.toList;rwa [bstr_data] at this) rfl⟩
    simp only[TySs,TyS,and_true]
    refine⟨_,rfl,?_⟩
    have hl':v.data.toList.length<=maxLen:=by rw[Array.length_toList];exact hl
    rcases hB with rfl|hB
    . exact hl'
    . simp only[Rows.uptoBulk] at hB;omega
   | slice e=>
    simp only[shpC,ht] at hok
    obtain⟨hok,_⟩:=lenIs_some hok
    split at hok
    case h_2=>cases hok
    rename_i le hle
    cases hok
    obtain⟨hse,hti⟩:=shpC_len hle
    have hce:=cells_of hT hti
    rcases Go.Deep.open_slice hG h with⟨rfl,rfl⟩|⟨a,len,cap,m,n,Df,Pl,rfl,_,hlc,hcm,hm,rfl,hx⟩
    . refine⟨[.lst e [] []],?_,.one (RI.lst e [] [] none ⟨0,0,none⟩ 0 (fun _ _=>undef) (by simp) (by unfold maxLen;omega) (by simp) (by simp) (by simp) (by simp) (by simp)) rfl⟩
      simp only[TySs,TyS,and_true]
      exact⟨[],[],rfl,Nat.zero_le _,fun r hr=>by cases hr⟩
    . simp only[if_true] at hm
      subst hm
      have hbi:∀ i,i<m->(B=maxLen\/Rows.uptoBulk (Df i)<=B):=by
       intro i hi
       rcases hB with hB|hB
       . exact .inl hB
       . right
         simp only[Rows.uptoBulk] at hB
         by_cases hil:i<len
         . have:=bulk_mem (d:=Df i) (l:=(List.range len).map Df) (List.mem_map.2 ⟨i,by simpa using hil,rfl⟩)
           omega
         . have:=bulk_mem (d:=Df i) (l:=(List.range (m - len)).map fun j=>Df (len+j)) (List.mem_map.2 ⟨i - len,by simp;omega,by rw[show len+(i - len)=i by omega]⟩)
           omega
      have hmB:m<=B:=by
       rcases hB with rfl|hB
       . exact hcm
       . simp only[Rows.uptoBulk] at hB
         have h1:=bulk_length ((List.range len).map Df)
         have h2:=bulk_length ((List.range (m - len)).map fun j=>Df (len+j))
         simp at h1 h2
         omega
      have key:∀ i,i<m->∃ p:List Value × List D,w.cells? 0 (a.add (i*szOf T e)) (szOf T e)=some p.1/\TySs B le p.2/\CellsR T w p.1 p.2:=by
       intro i hi
       obtain⟨cs',h1,h2⟩:=hx i hi
       obtain⟨row,h3,h4⟩:=trod_ri hT B hBm f n e cs' _ le hle (hbi i hi) h2
       exact⟨(cs',row),by rw[hce];exact h1,h3,h4⟩
      obtain⟨g,hg⟩:=Go.Deep.choose_lt key
      have hat:∀ (i:Nat) row,(((List.range len).map fun i=>(g i).2)++((List.range (m - len)).map fun j=>(g (len+j)).2))[i]? = some row->i<m/\row=(g i).2:=by
       intro i row hr
       by_cases hil:i<len
       . rw[List.getElem?_append_left (by simpa using hil)] at hr
         simp[hil] at hr
         exact⟨by omega,hr.symm⟩
       . rw[List.getElem?_append_right (by simp;omega)] at hr
         simp only[lMp0,List.length_range,gMp0,Option.map_eq_some_iff] at hr
         obtain⟨j,hj,rfl⟩:=hr
         have hj2:=gSm0.1 hj
         obtain⟨hj3,hj4⟩:=hj2
         simp at hj3 hj4
         refine⟨by omega,by rw[<- hj4,show len+(i - len)=i by omega]⟩
      have hcell:∀ i,i<m->(g i).1.length=szOf T e/\∀ j,j<szOf T e->w.cell? ((a.add (i*szOf T e)).add j)=(g i).1[j]?:=by
       intro i hi
       obtain⟨_,h2,h3⟩:=World.cells?_some (hg i hi).1
       exact⟨h2,h3⟩
      refine⟨[.lst e ((List.range len).map fun i=>(g i).2) ((List.range (m - len)).map fun j=>(g (len+j)).2)],?_,.one ?_ rfl⟩
      . simp only[TySs,TyS,and_true]
        refine⟨_,_,rfl,by simp;omega,fun r hr=>?_⟩
        obtain⟨i,hi⟩:=List.getElem?_of_mem hr
        obtain⟨h1,rfl⟩:=hat i r hi
        exact (hg i h1).2.1
      . have hres:=RI.lst (sz:=szOf T) (V:=heapV w) e ((List.range len).map fun i=>(g i).2) ((List.range (m - len)).map fun j=>(g (len+j)).2) (some a) a m (fun i j=>(g i).1.getD j undef)
          (by simp;omega) hcm (fun _=>rfl) (fun hno=>by cases hno)
          (fun i row hr=>by
           obtain⟨h1,rfl⟩:=hat i row hr
           rw[<- (hg i h1).2.2.1,(hcell i h1).1])
          (fun i row j d hr hd=>by
           obtain⟨h1,rfl⟩:=hat i row hr
           have hj:j<(g i).1.length:=by rw[(hg i h1).2.2.1];exact (gSm0.1 hd).1
           have h2:=(hcell i h1).2 j (by rw[<- (hcell i h1).1];exact hj)
           have hv:(g i).1[j]? = some ((g i).1.getD j undef):=by simp[List.getD,gEt0 hj]
           refine⟨?_,((hg i h1).2.2.2 j _ d hv hd).2⟩
           show w.cell? _=_
           rw[<- add_add,h2,hv])
          (fun i row j d hr hd=>by
           obtain⟨h1,rfl⟩:=hat i row hr
           have hj:j<(g i).1.length:=by rw[(hg i h1).2.2.1];exact (gSm0.1 hd).1
           have hv:(g i).1[j]? = some ((g i).1.getD j undef):=by simp[List.getD,gEt0 hj]
           exact ((hg i h1).2.2.2 j _ d hv hd).1)
        simpa using hres
   | struct fs=>
    simp only[shpC,ht] at hok
    obtain⟨hok,hs⟩:=lenIs_some hok
    obtain⟨fa,hu,hfa⟩:=hG
    obtain⟨xs,n,_,rfl,hl,hxl,hx⟩:=DataW.trod_struct hu h
    have hc:P.cellsOf t=s:=by
     obtain⟨i,z',h1,h2,_⟩:=(hT t _ ht).info
     simp[Program.cellsOf,h1,h2]
    have hfl:fs.length=fa.size:=by rw[<- hfa];simp
    obtain⟨row,h1,h2⟩:=fields_ri (fun t cs x l a b c=>trod_ri hT B hBm f n t cs x l a b c) hT cs fs 0 xs l hok (by
        rcases hB with hB|hB
        . exact .inl hB
        . right;simp only[Rows.uptoBulk] at hB;omega) (by rw[hxl,hfl]) (fun i p hp=>by
        rw[<- hfa] at hp
        simp only[gMp0,Option.map_eq_some_iff] at hp
        obtain⟨fd,h3,rfl⟩:=hp
        exact hx i fd (by simpa using h3)) (by rw[hl,hc,hs,Nat.zero_add])
    exact⟨row,h1,by simpa using h2⟩
   | array n e=>simp[shpC,ht] at hok
   | ptr e=>simp[shpC,ht] at hok
   | other=>simp[shpC,ht] at hok
end
end Go.Vx
namespace Go.Vx
open Go.RowKit Go.ChangeShapes Go.WideShapes
open Go.Proofs.YtcglkonooeddfaaGreatDoor (Rows.uptoBulk Rows.uptoBulkAll)
def shapes(T:Tab)(f:Nat):List TypeId->Option (List (List Shp))
 | []=>some []
 | t :: ts=>match shpC T f t,shapes T f ts with|some l,some r=>some (l :: r)|_,_=>none
def TyAs(T:Tab)(B:Nat):List TypeId->List (List Shp)->List D->Prop
 | [],[],[]=>True
 | t :: ts,l :: ls,x :: xs=>TyA T B t l x/\TyAs T B ts ls xs
 | _,_,_=>False
section
variable {H : Type} {enc : TypeId × Value → H} {P : Program} {T : Tab} {w : World}
theorem arg_ri(hT:TOk P T){B:Nat}(hBm:B<=maxLen){f base:Nat}{r:Reach}{t:TypeId}{v:Value}{d:DataW H}{ps:List MemPlace}{l:List Shp}(hs:shpC T f t=some l)(hB:B=maxLen\/Rows.uptoBulk d<=B)
    (hv:Value.okWide P w r base t v)(h:DataW.Trod enc P w 0 (fun _=>true) true t v d ps):∃ x,TyA T B t l x/\RI (szOf T) (heapV w) v x:=by
 obtain⟨k,hk⟩:=h
 obtain⟨row,h1,h2⟩:=trod_ri hT B hBm f k t _ _ l hs hB hk
 obtain⟨hz,ti,ht⟩:=shpC_len hs
 obtain⟨s,b,kd,z⟩:=ti
 have hG:=(hT t _ ht).kind
 have one:∀ u,v=u->u.cells=#[u]->TyA T B t l=(fun x=>TySs B l [x])->∃ x,TyA T B t l x/\RI (szOf T) (heapV w) v x:=by
  rintro u rfl hu he
  rw[hu] at h2
  obtain⟨h3,h4⟩:=h2
  match row,h3 with
  | [x],_=>exact⟨x,by rw[he];exact h1,(h4 0 v x rfl rfl).1⟩
 cases kd with
 | bool=>obtain⟨u,rfl⟩:=okWide_bool hG hv;exact one _ rfl rfl (by funext x;simp[TyA,ht])
 | int kk=>obtain⟨u,rfl⟩:=okWide_int hG hv;exact one _ rfl rfl (by funext x;simp[TyA,ht])
 | str=>obtain⟨u,rfl⟩:=okWide_string hG hv;exact one _ rfl rfl (by funext x;simp[TyA,ht])
 | slice e=>obtain⟨a,m,n,rfl⟩:=okWide_slice hG hv;exact one _ rfl rfl (by funext x;simp[TyA,ht])
 | struct fs=>
  obtain⟨fa,hu,_⟩:=hG
  obtain⟨cs,rfl,_⟩:=okWide_struct hu hv
  refine⟨.agg row,by simp only[TyA,ht];exact⟨row,rfl,h1⟩,?_⟩
  simp only[Value.cells] at h2
  refine RI.agg row cs (by simpa using h2.1) (fun u hu=>?_) (fun j u d a b=>(h2.2 j u d (by simpa using a) b).1)
  obtain⟨j,hj⟩:=List.getElem?_of_mem hu
  have hl:j<row.length:=by rw[<- h2.1];exact (gSm0.1 hj).1
  exact (h2.2 j u _ hj (gEt0 hl)).2
 | array n e=>cases f with|zero=>simp[shpC] at hs|succ f=>simp[shpC,ht] at hs
 | ptr e=>cases f with|zero=>simp[shpC] at hs|succ f=>simp[shpC,ht] at hs
 | other=>cases f with|zero=>simp[shpC] at hs|succ f=>simp[shpC,ht] at hs
theorem args_ri(hT:TOk P T){B:Nat}(hBm:B<=maxLen){f base:Nat}{r:Reach}:∀ (ts:List TypeId) (ls:List (List Shp)) (vs:List Value) (ds:List (DataW H)) (ps:List MemPlace),shapes T f ts=some ls ->
    (B=maxLen\/Rows.uptoBulkAll ds<=B)->(∀ (j:Nat) t v,ts[j]? = some t->vs[j]? = some v->Value.okWide P w r base t v)->DataW.TrodAll enc P w 0 (fun _=>true) true ts vs ds ps ->
    ∃ xs,TyAs T B ts ls xs/\vs.length=xs.length/\∀ (j:Nat) v x,vs[j]? = some v->xs[j]? = some x->RI (szOf T) (heapV w) v x
 | [],ls,vs,ds,ps,hs,_,_,h=>by
  obtain⟨rfl,rfl,rfl⟩:=trodAll_nil h
  cases hs
  exact⟨[],trivial,rfl,fun j v x h=>by simp at h⟩
 | t :: ts,ls,vs,ds,ps,hs,hB,hv,h=>by
  obtain⟨v,vs',d,ds',p,q,rfl,rfl,rfl,h1,h2⟩:=trodAll_cons h
  simp only[shapes] at hs
  split at hs
  case h_2=>cases hs
  rename_i l r h3 h4
  cases hs
  obtain⟨x,hx1,hx2⟩:=arg_ri hT hBm h3 (by
   rcases hB with hB|hB
   . exact .inl hB
   . right;simp only[Rows.uptoBulkAll] at hB;omega) (hv 0 t v rfl rfl) h1
  obtain⟨xs,hy1,hy2,hy3⟩:=args_ri hT hBm ts r vs' ds' q h4 (by
   rcases hB with hB|hB
   . exact .inl hB
   . right;simp only[Rows.uptoBulkAll] at hB;omega) (fun j t' v' a b=>hv (j+1) t' v' (by simpa using a) (by simpa using b)) h2
  refine⟨x :: xs,⟨hx1,hy1⟩,by simp[hy2],fun j v' x' a b=>?_⟩
  cases j with
  | zero=>simp at a b;subst a b;exact hx2
  | succ j=>exact hy3 j v' x' (by simpa using a) (by simpa using b)
theorem stays(hl:laidOutB P=true){W W':World}(hb:Below W.heap.size W W'){sp:Nat->Bool}:∀ (ts:List TypeId) (vs:List Value) (ds:List (DataW H)) (ps:List MemPlace),(∀ t ∈ ts,P.readableRec t=true/\t<P.types.size) ->
    (∀ p ∈ ps,p.block<W.heap.size)->(∀ p ∈ ps,sp p.block=true)->DataW.TrodAll enc P W 0 (fun _=>true) true ts vs ds ps->DataW.TrodAll enc P W' 0 sp true ts vs ds ps
 | [],vs,ds,ps,_,_,_,h=>by
  obtain⟨rfl,rfl,rfl⟩:=trodAll_nil h
  exact trodAll_mk0
 | t :: ts,vs,ds,ps,ht,h1,h2,h=>by
  obtain⟨v,vs',d,ds',p,q,rfl,rfl,rfl,h3,h4⟩:=trodAll_cons h
  refine⟨p,q,WideElems.Trod_stays hl (ht t (by simp)).1 (ht t (by simp)).2 h3 (fun x hx=>hb.same (h1 x (by simp[hx]))) (fun x hx=>h2 x (by simp[hx])),
   stays hl hb ts vs' ds' q (fun t' hm=>ht t' (by simp[hm])) (fun x hx=>h1 x (by simp[hx])) (fun x hx=>h2 x (by simp[hx])) h4,rfl⟩
theorem trod_len:∀ {ts:List TypeId} {vs:List Value} {ds:List (DataW H)} {ps:List MemPlace},DataW.TrodAll enc P w 0 (fun _=>true) true ts vs ds ps->ds.length=ts.length
 | [],_,_,_,h=>by obtain⟨rfl,rfl,rfl⟩:=trodAll_nil h;rfl
 | _ :: _,_,_,_,h=>by
  obtain⟨v,vs',d,ds',p,q,rfl,rfl,rfl,_,h4⟩:=trodAll_cons h
  simp[trod_len h4]
theorem law_calls(hT:TOk P T){B:Nat}(hBm:B<=maxLen){f:FuncId}{fn:Func}{s:ChangeSpec}{ls:List (List Shp)}{n:Nat}{tb:TypeId}{ts:List TypeId}(hp:fn.params.toList=ts)(hr:fn.resultTypes=#[tb])(htb:P.underlying tb=some .bool)
    (hsv:s.vars=[])(hs:∀ (ds:List (DataW H)),ds.length=ts.length->s.fn H ds={ results:=[.lit (.bool true)],args:=ds })
    (hl:laidOutB P=true)(hts:∀ t ∈ ts,P.readableRec t=true/\t<P.types.size)(hsh:shapes T n ts=some ls)
    (hlaw:∀ xs,TyAs T B ts ls xs->FSpec P T f xs (fun d _=>d = .b True))
    (W:World)(base:Nat)(args:Array Value)(ds gs:List (DataW H))(before:List MemPlace)
    (hval:∀ (j:Nat) t v,fn.params[j]? = some t->args[j]? = some v->Value.okWide P W .any base t v)
    (hW:DataW.Whole enc P fn.params.toList s.vars false W args.toList ds gs before)(hB:B=maxLen\/Rows.uptoBulkAll (ds++gs)<=B)
    (hgl:GlOk W:=by exact⟨by intro p v hp;unfold glV glD at hp;split at hp<;>cases hp,by intro g cs hg;unfold glD at hg;split at hg<;>cases hg⟩) :
    Calls P f args W fun e W'=>∃ v,e = .returned v/\s.post enc P fn false true false false W args v W':=by
 have hlt:=hW.lt
 obtain⟨p,q,hA,hV,rfl,hfz,hnd⟩:=id hW
 rw[hsv] at hV
 obtain⟨rfl,rfl⟩:=trodVars_none hV
 simp only[List.append_nil] at hlt hB hfz
 rw[hp] at hA
 obtain⟨xs,h1,h2,h3⟩:=args_ri hT hBm ts ls args.toList ds p hsh hB (fun j t v a b=>hval j t v (by rw[<- hp] at a;simpa using a) (by simpa using b)) hA
 have hdl:ds.length=ts.length:=trod_len hA
 refine ((hlaw xs h1).run (heapV W) W args ⟨hgl,fun _ _ h=>h⟩ (by simpa using h2) (fun j v d a b=>h3 j v d (by simpa using a) b)).mono fun e W' hx=>?_
 obtain⟨V',ω,row,v,d,rfl,hd,hRS,hres⟩:=hx
 subst hd
 obtain⟨b,rfl,hbt⟩:=hRS.bool
 have hbt:b=true:=hbt.2 trivial
 subst hbt
 refine⟨_,rfl,?_⟩
 have hb:=hres.below
 have hargs:∀ sp:Nat->Bool,(∀ x ∈ p,sp x.block=true)->DataW.TrodAll enc P W' 0 sp true fn.params.toList args.toList ds p:=fun sp hsp=>by
  rw[hp];exact stays hl hb ts args.toList ds p hts hlt hsp hA
 have hrs:∀ (b:Nat) (sp:Nat->Bool) (hd:Bool),DataW.TrodAll enc P W' b sp hd fn.resultTypes.toList ((Value.bool true).resultList fn.resultTypes.size) [.lit (.bool true)] []:=fun b sp hd=>by
  rw[hr]
  exact trodAll_mk1 (shut_bool htb _)
 have hsf:=hs ds hdl
 refine⟨ds,[],p,[],p,[],by simpa using hW,?_,?_,?_,?_,?_⟩
 . rw[List.append_nil,hsf];exact hrs _ _ _
 . rw[List.append_nil,hsf];exact hargs _ fun x hx=>by simpa using hlt x hx
 . rw[hsv,List.append_nil,hsf];exact rfl
 . exact World.keptBut_mono (fun x hx=>⟨hx,by simpa using hx⟩) (hb.frame (· ∈ p))
 . intro _
   refine⟨?_,?_⟩
   . exact ok_one hr rfl (okWide_bool_mk htb _)
   . refine⟨_,[],([]++p)++[],⟨[]++p,[],trodAll_append (hargs _ (fun _ _=>rfl)) (hrs 0 _ _),?_,rfl,?_,fun h=>by cases h⟩,fun x hx _=>by simpa using hx⟩
     . rw[hsv];rfl
     . intro b off hx
       have hin:MemPlace.cell b off ∈ p:=by simpa using hx
       rw[hb.frozen (hlt _ hin)]
       exact hfz b off hin
end
end Go.Vx
namespace Go.Vx
open Go.RowKit
theorem ss_cons{B:Nat}{s:Shp}{ss:List Shp}{r:List D}(h:TySs B (s :: ss) r):∃ d ds,r=d :: ds/\TySs B [s] [d]/\TySs B ss ds:=by
 cases r with
 | nil=>simp[TySs] at h
 | cons d ds=>simp only[TySs] at h;exact⟨d,ds,rfl,by simpa only[TySs,and_true] using h.1,h.2⟩
theorem ss_nil{B:Nat}{r:List D}(h:TySs B [] r):r=[]:=by
 cases r with
 | nil=>rfl
 | cons d ds=>simp[TySs] at h
theorem as_cons{T:Tab}{B:Nat}{t:TypeId}{ts:List TypeId}{l:List Shp}{ls:List (List Shp)}{xs:List D}(h:TyAs T B (t :: ts) (l :: ls) xs):∃ x r,xs=x :: r/\TyA T B t l x/\TyAs T B ts ls r:=by
 cases xs with
 | nil=>exact h.elim
 | cons x r=>exact⟨x,r,rfl,h.1,h.2⟩
theorem as_nil{T:Tab}{B:Nat}{xs:List D}(h:TyAs T B [] [] xs):xs=[]:=by
 cases xs with
 | nil=>rfl
 | cons x r=>exact h.elim
def isSt:Option TI->Bool|some ⟨_,_,.struct _,_⟩=>true|_=>false
theorem leaf{T:Tab}{B:Nat}{t:TypeId}{l:List Shp}{x:D}(h:TyA T B t l x)(ht:isSt (T t)=false):TySs B l [x]:=by
 unfold TyA at h
 split at h
 . rename_i h1;rw[h1] at ht;cases ht
 . exact h
theorem agg_of{T:Tab}{B:Nat}{t:TypeId}{l:List Shp}{x:D}(h:TyA T B t l x)(ht:isSt (T t)=true):∃ row,x = .agg row/\TySs B l row:=by
 unfold TyA at h
 split at h
 . exact h
 . rename_i h1
   exfalso
   unfold isSt at ht
   split at ht
   . rename_i h2;exact h1 _ _ _ _ h2
   . cases ht
theorem bool_of{B:Nat}{x:D}(h:TySs B [.bool] [x]):∃ p,x = .b p:=by
 simpa only[TySs,TyS,and_true] using h
theorem list_of{α:Type}{f:α->List D}{p:α->Prop}:∀ {rows:List (List D)},(∀ r ∈ rows,∃ a,r=f a/\p a)->∃ l:List α,rows=l.map f/\∀ a ∈ l,p a
 | [],_=>⟨[],rfl,by simp⟩
 | r :: rows,h=>by
  obtain⟨a,rfl,ha⟩:=h r (by simp)
  obtain⟨l,rfl,hl⟩:=list_of (rows:=rows) fun r hr=>h r (by simp[hr])
  exact⟨a :: l,rfl,by simpa using ⟨ha,hl⟩⟩
theorem lst_of{B:Nat}{α:Type}{f:α->List D}{p:α->Prop}{e:TypeId}{l:List Shp}{x:D}(h:TySs B [.slice e l] [x])(hf:∀ r,TySs B l r->∃ a,r=f a/\p a) :
    ∃ (us:List α) (room:List α),x = .lst e (us.map f) (room.map f)/\us.length+room.length<=B/\(∀ a ∈ us,p a)/\∀ a ∈ room,p a:=by
 simp only[TySs,TyS,and_true] at h
 obtain⟨rows,room,rfl,hl,hr⟩:=h
 obtain⟨us,rfl,h1⟩:=list_of (f:=f) (p:=p) (rows:=rows) fun r h=>hf r (hr r (by simp[h]))
 obtain⟨bs,rfl,h2⟩:=list_of (f:=f) (p:=p) (rows:=room) fun r h=>hf r (hr r (by simp[h]))
 exact⟨us,bs,rfl,by simpa using hl,h1,h2⟩
theorem int_of{B:Nat}{k:IntKind}{x:D}(h:TySs B [.int k] [x]):∃ n,x = .i k n/\(Lit.int k n).wf=true:=by
 simpa only[TySs,TyS,and_true] using h
theorem str_of{B:Nat}{x:D}(h:TySs B [.str] [x]):∃ l,x = .s l/\l.length<=B:=by
 simpa only[TySs,TyS,and_true] using h
theorem wf64{n:Int}(h:(Lit.int .i64 n).wf=true):-9223372036854775808<=n/\n<=9223372036854775807:=by
 simpa[Lit.wf,IntKind.min,IntKind.max,IntKind.signed,IntKind.bits] using h
end Go.Vx
namespace Go.Proofs.YtcglkonooeddfaaGreatDoor
open Go
abbrev Str:=List UInt8
def meet1(a b:UInt8):Option UInt8:=if a=120 then some b else if b=120\/b=a then some a else none
def meetL:Str->Str->Option Str
 | [],[]=>some []
 | a :: c,b :: d=>match meet1 a b,meetL c d with
  | some x,some r=>some (x :: r)
  | _,_=>none
 | _,_=>none
def meetT(c d:Str):Option Str:=if c=[] then none else meetL c d
def inL:Str->Str->Prop
 | [],[]=>True
 | a :: c,b :: d=>(b=120\/b=a)/\inL c d
 | _,_=>False
def inT(c d:Str):Prop:=c ≠ []/\inL c d
theorem inL_refl:∀ c:Str,inL c c
 | []=>trivial
 | _ :: c=>⟨.inr rfl,inL_refl c⟩
theorem inL_trans:∀ {c d e:Str},inL c d->inL d e->inL c e
 | [],[],[],_,_=>trivial
 | [],[],_ :: _,_,h=>h.elim
 | [],_ :: _,_,h,_=>h.elim
 | _ :: _,[],_,h,_=>h.elim
 | _ :: _,_ :: _,[],_,h=>h.elim
 | a :: c,b :: d,x :: e,h,k=>⟨by
     rcases k.1 with k1|k1
     . exact .inl k1
     . rcases h.1 with h1|h1
       . exact .inl (by rw[k1,h1])
       . exact .inr (by rw[k1,h1]),inL_trans h.2 k.2⟩
theorem inL_antisymm:∀ {c d:Str},inL c d->inL d c->c=d
 | [],[],_,_=>rfl
 | [],_ :: _,h,_=>h.elim
 | _ :: _,[],h,_=>h.elim
 | a :: c,b :: d,h,k=>by
  rw[inL_antisymm h.2 k.2]
  rcases h.1 with h1|h1
  . rcases k.1 with k1|k1
    . rw[h1,k1]
    . rw[k1]
  . rw[h1]
theorem inL_len:∀ {c d:Str},inL c d->c.length=d.length
 | [],[],_=>rfl
 | [],_ :: _,h=>h.elim
 | _ :: _,[],h=>h.elim
 | _ :: _,_ :: _,h=>by simp[inL_len h.2]
theorem meetL_len:∀ {c d m:Str},meetL c d=some m->c.length=m.length/\d.length=m.length
 | [],[],m,h=>by cases h;exact⟨rfl,rfl⟩
 | [],_ :: _,_,h=>by cases h
 | _ :: _,[],_,h=>by cases h
 | a :: c,b :: d,m,h=>by
  unfold meetL at h
  cases h1:meet1 a b with
  | none=>rw[h1] at h;cases h
  | some x=>cases h2:meetL c d with
   | none=>rw[h1,h2] at h;cases h
   | some r=>
    rw[h1,h2] at h
    cases h
    have:=meetL_len h2
    simp[this.1,this.2]
theorem meetL_in:∀ {c d m:Str},meetL c d=some m->inL m c/\inL m d
 | [],[],m,h=>by cases h;exact⟨trivial,trivial⟩
 | [],_ :: _,_,h=>by cases h
 | _ :: _,[],_,h=>by cases h
 | a :: c,b :: d,m,h=>by
  unfold meetL at h
  cases h1:meet1 a b with
  | none=>rw[h1] at h;cases h
  | some x=>cases h2:meetL c d with
   | none=>rw[h1,h2] at h;cases h
   | some r=>
    rw[h1,h2] at h
    cases h
    have ih:=meetL_in h2
    unfold meet1 at h1
    split at h1
    . rename_i ha;cases h1;exact⟨⟨.inl ha,ih.1⟩,⟨.inr rfl,ih.2⟩⟩
    . split at h1
      . rename_i hb
        cases h1
        exact⟨⟨.inr rfl,ih.1⟩,⟨hb,ih.2⟩⟩
      . cases h1
theorem meetL_glb:∀ {e c d:Str},inL e c->inL e d->∃ m,meetL c d=some m/\inL e m
 | [],[],[],_,_=>⟨[],rfl,trivial⟩
 | [],_ :: _,_,h,_=>h.elim
 | [],[],_ :: _,_,h=>h.elim
 | _ :: _,[],_,h,_=>h.elim
 | _ :: _,_ :: _,[],_,h=>h.elim
 | x :: e,a :: c,b :: d,h,k=>by
  obtain⟨m,hm,hi⟩:=meetL_glb h.2 k.2
  unfold meetL
  rw[hm]
  by_cases ha:a=120
  . exact⟨b :: m,by simp[meet1,ha],k.1,hi⟩
  . have hax:a=x:=h.1.resolve_left ha
    have hb:b=120\/b=a:=by rw[hax];exact k.1
    exact⟨a :: m,by simp[meet1,ha,hb],.inr hax,hi⟩
theorem meetL_self{c d:Str}:meetL c d=some c ↔ inL c d:=by
 constructor
 . intro h;exact (meetL_in h).2
 . intro h
   obtain⟨m,hm,hi⟩:=meetL_glb (inL_refl c) h
   rw[hm,inL_antisymm hi (meetL_in hm).1]
theorem inT_trans{c d e:Str}(h:inT c d)(k:inT d e):inT c e:=⟨h.1,inL_trans h.2 k.2⟩
open Classical in
noncomputable def addG{α:Type}(R:α->α->Prop)(k:List α)(x:α):List α:=if ∃ y ∈ k,R x y then k else k.filter (fun y=>decide (¬ R y x))++[x]
noncomputable def grG{α:Type}(R:α->α->Prop)(l:List α):List α:=l.foldl (addG R) []
structure Anti{α:Type}(R:α->α->Prop)(l k:List α):Prop where
 sub:∀ x ∈ k,x ∈ l
 anti:k.Pairwise fun x y=>¬ R x y/\¬ R y x
 cov:∀ x ∈ l,∃ y ∈ k,R x y
open Classical in
theorem grG_anti{α:Type}{R:α->α->Prop}(ht:∀ x y z,R x y->R y z->R x z)(l:List α)(hr:∀ x ∈ l,R x x):Anti R l (grG R l):=by
 have go:∀ (l k l0:List α),(∀ x ∈ l,R x x)->Anti R l0 k->Anti R (l0++l) (l.foldl (addG R) k):=by
  intro l
  induction l with
  | nil=>intro k l0 _ h;simpa using h
  | cons x l ih=>
   intro k l0 hr h
   have hx:Anti R (l0++[x]) (addG R k x):=by
    unfold addG
    split
    . rename_i hh
      exact⟨fun y hy=>by simp[h.sub y hy],h.anti,fun y hy=>by
       rcases mAp0.1 hy with hy|hy
       . exact h.cov y hy
       . simp at hy;subst hy;exact hh⟩
    . rename_i hh
      refine⟨fun y hy=>?_,?_,fun y hy=>?_⟩
      . rcases mAp0.1 hy with hy|hy
        . simp[h.sub y (List.mem_filter.1 hy).1]
        . simp at hy;simp[hy]
      . rw[List.pairwise_append]
        refine⟨h.anti.filter _,by simp,fun a ha b hb=>?_⟩
        simp at hb
        subst hb
        obtain⟨h1,h2⟩:=List.mem_filter.1 ha
        exact⟨by simpa using h2,fun h3=>hh ⟨a,h1,h3⟩⟩
      . rcases mAp0.1 hy with hy|hy
        . obtain⟨z,hz,hyz⟩:=h.cov y hy
          by_cases hzx:R z x
          . exact⟨x,by simp,ht _ _ _ hyz hzx⟩
          . exact⟨z,by simp[hz,hzx],hyz⟩
        . simp at hy;subst hy;exact⟨y,by simp,hr y (by simp)⟩
   have:=ih (addG R k x) (l0++[x]) (fun y hy=>hr y (by simp[hy])) hx
   simpa[List.append_assoc] using this
 show Anti R l (l.foldl (addG R) [])
 simpa using go l [] [] hr ⟨by simp,by simp,by simp⟩
theorem Anti.mem_iff{α:Type}{R:α->α->Prop}(ht:∀ x y z,R x y->R y z->R x z)(ha:∀ x y,R x y->R y x->x=y){l k k':List α}(h:Anti R l k)(h':Anti R l k')(x:α):x ∈ k->x ∈ k':=by
 intro hx
 obtain⟨y,hy,hxy⟩:=h'.cov x (h.sub x hx)
 obtain⟨z,hz,hyz⟩:=h.cov y (h'.sub y hy)
 have hxz:x=z:=by
  apply Classical.byContradiction
  intro hne
  have hR:=ht _ _ _ hxy hyz
  obtain⟨i,hi,rfl⟩:=List.getElem_of_mem hx
  obtain⟨j,hj,rfl⟩:=List.getElem_of_mem hz
  have hij:i ≠ j:=fun e=>hne (by subst e;rfl)
  rcases Nat.lt_or_gt_of_ne hij with hlt|hgt
  . exact (List.pairwise_iff_getElem.1 h.anti i j hi hj hlt).1 hR
  . exact (List.pairwise_iff_getElem.1 h.anti j i hj hi hgt).2 hR
 subst hxz
 rw[ha _ _ hxy hyz]
 exact hy
theorem Anti.nodup{α:Type}{R:α->α->Prop}(hr:∀ x,R x x){l k:List α}(h:Anti R l k):k.Nodup:=
 h.anti.imp fun {a b} hab e=>hab.1 (by rw[e];exact hr b)
theorem Anti.perm{α:Type}{R:α->α->Prop}(hr:∀ x,R x x)(ht:∀ x y z,R x y->R y z->R x z)(ha:∀ x y,R x y->R y x->x=y){l k k':List α}(h:Anti R l k)(h':Anti R l k'):k.Perm k':=
 (List.perm_ext_iff_of_nodup (h.nodup hr) (h'.nodup hr)).2 fun x=>⟨h.mem_iff ht ha h' x,h'.mem_iff ht ha h x⟩
theorem sorted_uniq{α:Type}{L:α->α->Prop}(hirr:∀ x,¬ L x x)(htr:∀ x y z,L x y->L y z->L x z){k k':List α}(hp:k.Perm k')(h:k.Pairwise L)(h':k'.Pairwise L):k=k':=
 hp.eq_of_pairwise (le:=L) (fun _ _ _ _ hab hba=>absurd (htr _ _ _ hab hba) (hirr _)) h h'
open Classical in
noncomputable def insG{α:Type}(L:α->α->Prop)(c:α):List α->List α
 | []=>[c]
 | x :: r=>if L c x then c :: x :: r else x :: insG L c r
open Classical in
noncomputable def putG{α:Type}(R L:α->α->Prop)(k:List α)(c:α):List α:=if ∃ y ∈ k,R c y then k else insG L c (k.filter fun x=>decide (¬ R x c))
theorem insG_perm{α:Type}(L:α->α->Prop)(c:α):∀ l:List α,(insG L c l).Perm (c :: l)
 | []=>.refl _
 | x :: r=>by
  unfold insG
  split
  . exact .refl _
  . exact ((insG_perm L c r).cons x).trans (.swap c x r)
theorem insG_sorted{α:Type}{L:α->α->Prop}(ht:∀ x y z,L x y->L y z->L x z)(c:α):∀ l:List α,(∀ x ∈ l,L c x\/L x c)->l.Pairwise L->(insG L c l).Pairwise L
 | [],_,_=>by simp[insG]
 | x :: r,hc,h=>by
  unfold insG
  have h2:=List.pairwise_cons.1 h
  split
  . rename_i hcx
    exact List.pairwise_cons.2 ⟨fun y hy=>by
     rcases List.mem_cons.1 hy with rfl|hy
     . exact hcx
     . exact ht _ _ _ hcx (h2.1 y hy),h⟩
  . rename_i hcx
    have hxc:L x c:=(hc x (by simp)).resolve_left hcx
    refine List.pairwise_cons.2 ⟨fun y hy=>?_,insG_sorted ht c r (fun y hy=>hc y (by simp[hy])) h2.2⟩
    rcases List.mem_cons.1 ((insG_perm L c r).mem_iff.1 hy) with rfl|hy
    . exact hxc
    . exact h2.1 y hy
open Classical in
theorem putG_fold{α:Type}{R L:α->α->Prop}(hr:∀ x,R x x)(ht:∀ x y z,R x y->R y z->R x z)(lt:∀ x y z,L x y->L y z->L x z)(tot:∀ x y,x ≠ y->L x y\/L y x)(l:List α) :
    Anti R l (l.foldl (putG R L) [])/\(l.foldl (putG R L) []).Pairwise L:=by
 have go:∀ (l k l0:List α),Anti R l0 k->k.Pairwise L->Anti R (l0++l) (l.foldl (putG R L) k)/\(l.foldl (putG R L) k).Pairwise L:=by
  intro l
  induction l with
  | nil=>intro k l0 h h2;exact⟨by simpa using h,h2⟩
  | cons x l ih=>
   intro k l0 h h2
   have hx:Anti R (l0++[x]) (putG R L k x)/\(putG R L k x).Pairwise L:=by
    unfold putG
    split
    . rename_i hh
      exact⟨⟨fun y hy=>by simp[h.sub y hy],h.anti,fun y hy=>by
       rcases mAp0.1 hy with hy|hy
       . exact h.cov y hy
       . simp at hy;subst hy;exact hh⟩,h2⟩
    . rename_i hh
      have hp:=insG_perm L x (k.filter fun y=>decide (¬ R y x))
      have hsub:∀ y ∈ k.filter (fun y=>decide (¬ R y x)),y ∈ k/\¬ R y x:=fun y hy=>by
       obtain⟨h1,h2⟩:=List.mem_filter.1 hy
       exact⟨h1,by simpa using h2⟩
      refine⟨⟨fun y hy=>?_,?_,fun y hy=>?_⟩,?_⟩
      . rcases List.mem_cons.1 (hp.mem_iff.1 hy) with rfl|hy
        . simp
        . simp[h.sub y (hsub y hy).1]
      . refine (hp.pairwise_iff (fun {a b} hab=>⟨hab.2,hab.1⟩)).2 (List.pairwise_cons.2 ⟨fun y hy=>⟨fun h3=>hh ⟨y,(hsub y hy).1,h3⟩,(hsub y hy).2⟩,h.anti.filter _⟩)
      . rcases mAp0.1 hy with hy|hy
        . obtain⟨z,hz,hyz⟩:=h.cov y hy
          by_cases hzx:R z x
          . exact⟨x,hp.mem_iff.2 (by simp),ht _ _ _ hyz hzx⟩
          . exact⟨z,hp.mem_iff.2 (by simp[hz,hzx]),hyz⟩
        . simp at hy;subst hy;exact⟨y,hp.mem_iff.2 (by simp),hr y⟩
      . refine insG_sorted lt x _ (fun y hy=>tot x y fun e=>?_) (h2.filter _)
        subst e
        exact (hsub x hy).2 (hr x)
   have:=ih (putG R L k x) (l0++[x]) hx.1 hx.2
   simpa[List.append_assoc] using this
 simpa using go l [] [] ⟨by simp,by simp,by simp⟩ (by simp)
theorem sorted_eq_put{α:Type}{R L:α->α->Prop}(hr:∀ x,R x x)(ht:∀ x y z,R x y->R y z->R x z)(ha:∀ x y,R x y->R y x->x=y)(hirr:∀ x,¬ L x x)(lt:∀ x y z,L x y->L y z->L x z)(tot:∀ x y,x ≠ y->L x y\/L y x)
    {l k:List α}(hp:k.Perm (grG R l))(hs:k.Pairwise L):k=l.foldl (putG R L) []:=by
 have h:=putG_fold hr ht lt tot l
 exact sorted_uniq hirr lt (hp.trans ((grG_anti ht l fun x _=>hr x).perm hr ht ha h.1)) hs h.2
theorem bl_eq:∀ (x y:Str),Op.bytesLess x y=true ↔ x<y
 | [],[]=>by simp[Op.bytesLess]
 | _ :: _,[]=>by simp[Op.bytesLess]
 | [],_ :: _=>by simp[Op.bytesLess]
 | a :: x,b :: y=>by
  simp only[Op.bytesLess,Bool.or_eq_true,Bool.and_eq_true,decide_eq_true_eq,beq_iff_eq,bl_eq x y,List.cons_lt_cons_iff]
theorem bl_irrefl(x:Str):¬ Op.bytesLess x x=true:=by
 rw[bl_eq];exact List.lt_irrefl x
theorem bl_trans{x y z:Str}(h:Op.bytesLess x y=true)(k:Op.bytesLess y z=true):Op.bytesLess x z=true:=by
 rw[bl_eq] at *
 exact List.lt_trans h k
theorem bl_total{x y:Str}(h:x ≠ y):Op.bytesLess x y=true\/Op.bytesLess y x=true:=by
 rw[bl_eq,bl_eq]
 by_cases h1:x<y
 . exact .inl h1
 . right
   rcases List.le_iff_lt_or_eq.1 (List.not_lt.1 h1) with h2|h2
   . exact h2
   . exact absurd h2.symm h
theorem bl_append:∀ {x y A B:Str},x.length=y.length->(Op.bytesLess (x++A) (y++B)=true ↔ Op.bytesLess x y=true\/(x=y/\Op.bytesLess A B=true))
 | [],[],A,B,_=>by simp[Op.bytesLess]
 | [],_ :: _,_,_,h=>by simp at h
 | _ :: _,[],_,_,h=>by simp at h
 | a :: x,b :: y,A,B,h=>by
  have ih:=bl_append (x:=x) (y:=y) (A:=A) (B:=B) (by simpa using h)
  simp only[List.cons_append,Op.bytesLess,Bool.or_eq_true,Bool.and_eq_true,decide_eq_true_eq,beq_iff_eq,ih,List.cons.injEq]
  constructor
  . rintro (h1|⟨rfl,h1|⟨rfl,h1⟩⟩)
    . exact .inl (.inl h1)
    . exact .inl (.inr ⟨rfl,h1⟩)
    . exact .inr ⟨⟨rfl,rfl⟩,h1⟩
  . rintro ((h1|⟨rfl,h1⟩)|⟨⟨rfl,rfl⟩,h1⟩)
    . exact .inl h1
    . exact .inr ⟨rfl,.inl h1⟩
    . exact .inr ⟨rfl,.inr ⟨rfl,h1⟩⟩
def lexL:List Str->List Str->Prop
 | _,[]=>False
 | [],_ :: _=>True
 | x :: a,y :: b=>Op.bytesLess x y=true\/(x=y/\lexL a b)
theorem bl_flatten{n:Nat}(hn:0<n):∀ {a b:List Str},(∀ x ∈ a,x.length=n)->(∀ x ∈ b,x.length=n)->(Op.bytesLess a.flatten b.flatten=true ↔ lexL a b)
 | a,[],_,_=>by cases a<;>simp[lexL,Op.bytesLess]
 | [],y :: b,_,hb=>by
  have hy:=hb y (by simp)
  cases y with
  | nil=>simp at hy;omega
  | cons c y=>simp[lexL,Op.bytesLess]
 | x :: a,y :: b,ha,hb=>by
  rw[List.flatten_cons,List.flatten_cons,bl_append (by rw[ha x (by simp),hb y (by simp)]),bl_flatten hn (fun z hz=>ha z (by simp[hz])) (fun z hz=>hb z (by simp[hz]))]
  rfl
structure Term where
 p:Str
 less:List Str
def Term.key(t:Term):Str:=t.p++t.less.flatten
def Term.wide(n:Nat)(t:Term):Prop:=t.p.length=n/\∀ m ∈ t.less,m.length=n
def aheadT(t u:Term):Prop:=lexL (t.p :: t.less) (u.p :: u.less)
theorem key_less{n:Nat}(hn:0<n){t u:Term}(ht:t.wide n)(hu:u.wide n):Op.bytesLess t.key u.key=true ↔ aheadT t u:=by
 have:=bl_flatten hn (a:=t.p :: t.less) (b:=u.p :: u.less) (by simpa using ⟨ht.1,ht.2⟩) (by simpa using ⟨hu.1,hu.2⟩)
 simpa[Term.key,aheadT] using this
noncomputable def srt{α:Type}(L:α->α->Prop)(l:List α):List α:=l.foldl (fun acc x=>insG L x acc) []
theorem srt_perm{α:Type}(L:α->α->Prop)(l:List α):(srt L l).Perm l:=by
 have go:∀ l acc:List α,(l.foldl (fun acc x=>insG L x acc) acc).Perm (acc++l):=by
  intro l
  induction l with
  | nil=>intro acc;simp
  | cons x l ih=>
   intro acc
   refine (ih (insG L x acc)).trans ?_
   refine ((insG_perm L x acc).append_right l).trans ?_
   simpa using (List.perm_middle (a:=x) (l₁:=acc) (l₂:=l)).symm
 show (l.foldl (fun acc x=>insG L x acc) []).Perm l
 simpa using go l []
theorem srt_sorted{α:Type}{L:α->α->Prop}(ht:∀ x y z,L x y->L y z->L x z)(l:List α)(tot:l.Pairwise fun x y=>L x y\/L y x):(srt L l).Pairwise L:=by
 have go:∀ l acc:List α,(acc++l).Pairwise (fun x y=>L x y\/L y x)->acc.Pairwise L->(l.foldl (fun acc x=>insG L x acc) acc).Pairwise L:=by
  intro l
  induction l with
  | nil=>intro acc _ h;exact h
  | cons x l ih=>
   intro acc htot h
   have hp:(insG L x acc++l).Perm (acc++x :: l):=((insG_perm L x acc).append_right l).trans (List.perm_middle (a:=x) (l₁:=acc) (l₂:=l)).symm
   refine ih (insG L x acc) ((hp.pairwise_iff fun {a b} hab=>hab.symm).2 htot) (insG_sorted ht x acc (fun y hy=>?_) h)
   have:=(List.pairwise_append.1 htot).2.2 y hy x (by simp)
   exact this.symm
 exact go l [] (by simpa using tot) (by simp)
theorem srt_uniq{α:Type}{L:α->α->Prop}(hirr:∀ x,¬ L x x)(ht:∀ x y z,L x y->L y z->L x z){l k:List α}(tot:l.Pairwise fun x y=>L x y\/L y x)(hp:k.Perm l)(hs:k.Pairwise L):k=srt L l:=
 sorted_uniq hirr ht (hp.trans (srt_perm L l).symm) hs (srt_sorted ht l tot)
theorem lexL_irrefl:∀ a:List Str,¬ lexL a a
 | []=>by simp[lexL]
 | x :: a=>by
  have:=lexL_irrefl a
  simp[lexL,bl_irrefl,this]
theorem lexL_trans:∀ {a b c:List Str},lexL a b->lexL b c->lexL a c
 | a,[],c,h,_=>by cases a<;>simp[lexL] at h
 | a,_ :: _,[],_,h=>by simp[lexL] at h
 | [],_ :: _,_ :: _,_,_=>trivial
 | x :: a,y :: b,z :: c,h,k=>by
  rcases h with h|⟨rfl,h⟩
  . rcases k with k|⟨rfl,k⟩
    . exact .inl (bl_trans h k)
    . exact .inl h
  . rcases k with k|⟨rfl,k⟩
    . exact .inl k
    . exact .inr ⟨rfl,lexL_trans h k⟩
theorem lexL_total:∀ {a b:List Str},a ≠ b->lexL a b\/lexL b a
 | [],[],h=>absurd rfl h
 | [],_ :: _,_=>.inl trivial
 | _ :: _,[],_=>.inr trivial
 | x :: a,y :: b,h=>by
  by_cases hxy:x=y
  . subst hxy
    rcases lexL_total (a:=a) (b:=b) (fun e=>h (by rw[e])) with k|k
    . exact .inl (.inr ⟨rfl,k⟩)
    . exact .inr (.inr ⟨rfl,k⟩)
  . rcases bl_total hxy with k|k
    . exact .inl (.inl k)
    . exact .inr (.inl k)
theorem ahead_irrefl(t:Term):¬ aheadT t t:=lexL_irrefl _
theorem ahead_trans(t u v:Term)(h:aheadT t u)(k:aheadT u v):aheadT t v:=lexL_trans h k
theorem ahead_total{t u:Term}(h:t ≠ u):aheadT t u\/aheadT u t:=lexL_total fun e=>h (by
 obtain⟨p,l⟩:=t
 obtain⟨q,m⟩:=u
 simp at e
 rw[e.1,e.2])
def blt(x y:Str):Prop:=Op.bytesLess x y=true
def metL(p:Str)(less:List Str):List Str:=less.filterMap fun m=>meetT m p
open Classical in
/-- A cube less others,in its form. -/
noncomputable def termT(p:Str)(less:List Str):Option Term:=
 let k:=(metL p less).foldl (putG inL blt) []
 if k=[p] then none else some ⟨p,k⟩
def covT(t u:Term):Prop:=inT t.p u.p/\∀ m ∈ u.less,∀ c,meetT m t.p=some c->∃ n ∈ t.less,inT c n
structure Term.Ok(n:Nat)(t:Term):Prop where
 pos:0<n
 p:t.p.length=n
 less:∀ m ∈ t.less,inL m t.p
theorem Term.Ok.wide{n:Nat}{t:Term}(h:t.Ok n):t.wide n:=⟨h.p,fun m hm=>by rw[inL_len (h.less m hm),h.p]⟩
theorem covT_refl{n:Nat}{t:Term}(h:t.Ok n):covT t t:=by
 have hp:t.p ≠ []:=fun e=>by have:=h.p;have:=h.pos;rw[e] at *;simp at *;omega
 refine⟨⟨hp,inL_refl _⟩,fun m hm c hc=>?_⟩
 unfold meetT at hc
 split at hc
 . cases hc
 . rename_i hmn
   have:=meetL_self.2 (h.less m hm)
   rw[this] at hc
   cases hc
   exact⟨m,hm,hmn,inL_refl _⟩
theorem covT_trans(t u v:Term)(h:covT t u)(k:covT u v):covT t v:=by
 refine⟨inT_trans h.1 k.1,fun m hm c hc=>?_⟩
 unfold meetT at hc
 split at hc
 . cases hc
 . rename_i hmn
   obtain⟨hcm,hct⟩:=meetL_in hc
   obtain⟨c1,hc1,hi1⟩:=meetL_glb hcm (inL_trans hct h.1.2)
   obtain⟨n1,hn1,hin1⟩:=k.2 m hm c1 (by unfold meetT;rw[if_neg hmn];exact hc1)
   have hcn1:=inL_trans hi1 hin1.2
   obtain⟨c2,hc2,hi2⟩:=meetL_glb hcn1 hct
   have hne:n1 ≠ []:=fun e=>hin1.1 (by
    have:=inL_len hin1.2
    rw[e] at this
    exact List.eq_nil_of_length_eq_zero this)
   obtain⟨n2,hn2,hin2⟩:=h.2 n1 hn1 c2 (by unfold meetT;rw[if_neg hne];exact hc2)
   refine⟨n2,hn2,fun e=>hin2.1 ?_,inL_trans hi2 hin2.2⟩
   have:=inL_len hi2
   rw[e] at this
   exact List.eq_nil_of_length_eq_zero this.symm
noncomputable def formT(l:List Term):List Term:=srt aheadT (grG covT l)
theorem formT_eq{n:Nat}{l k:List Term}(hl:∀ t ∈ l,t.Ok n)(hp:k.Perm (grG covT l))(hs:k.Pairwise fun t u=>Op.bytesLess u.key t.key ≠ true):k=formT l:=by
 have ha:=grG_anti covT_trans l fun t ht=>covT_refl (hl t ht)
 have hok:∀ t ∈ grG covT l,t.Ok n:=fun t ht=>hl t (ha.sub t ht)
 have tot:(grG covT l).Pairwise fun x y=>x ≠ y:=ha.anti.imp_of_mem fun {a b} hma _ hab e=>hab.1 (by rw[<- e];exact covT_refl (hok a hma))
 have hne:k.Pairwise fun x y=>x ≠ y:=(hp.pairwise_iff fun {a b} hab=>hab.symm).2 tot
 refine srt_uniq ahead_irrefl ahead_trans (tot.imp ahead_total) hp ?_
 refine (hs.and hne).imp_of_mem fun {a b} hma hmb hab=>?_
 have hoa:=hok a (hp.mem_iff.1 hma)
 have hob:=hok b (hp.mem_iff.1 hmb)
 rcases ahead_total hab.2 with h|h
 . exact h
 . exact absurd ((key_less hob.pos hob.wide hoa.wide).2 h) hab.1
theorem blt_irrefl(x:Str):¬ blt x x:=bl_irrefl x
theorem blt_trans(x y z:Str)(h:blt x y)(k:blt y z):blt x z:=bl_trans h k
theorem blt_total(x y:Str)(h:x ≠ y):blt x y\/blt y x:=bl_total h
theorem strict_of{l k:List Str}(hp:k.Perm (grG inL l))(hs:k.Pairwise fun t u=>Op.bytesLess u t ≠ true):k.Pairwise blt:=by
 have ha:=grG_anti (R:=inL) (fun _ _ _=>inL_trans) l fun x _=>inL_refl x
 have hn:=(hp.nodup_iff).2 (ha.nodup inL_refl)
 refine (hs.and hn).imp fun {a b} hab=>?_
 rcases blt_total a b hab.2 with h|h
 . exact h
 . exact absurd h hab.1
theorem put_eq{l k:List Str}(hp:k.Perm (grG inL l))(hs:k.Pairwise fun t u=>Op.bytesLess u t ≠ true):k=l.foldl (putG inL blt) []:=
 sorted_eq_put inL_refl (fun _ _ _=>inL_trans) (fun _ _=>inL_antisymm) blt_irrefl blt_trans blt_total hp (strict_of hp hs)
theorem metL_in{p:Str}{less:List Str}{m:Str}(h:m ∈ metL p less):inL m p:=by
 obtain⟨a,_,h2⟩:=List.mem_filterMap.1 h
 unfold meetT at h2
 split at h2
 . cases h2
 . exact (meetL_in h2).2
theorem void_iff(p:Str)(less:List Str):p ∈ grG inL (metL p less) ↔ (metL p less).foldl (putG inL blt) []=[p]:=by
 have ha:=grG_anti (R:=inL) (fun _ _ _=>inL_trans) (metL p less) fun x _=>inL_refl x
 have hb:=putG_fold (R:=inL) (L:=blt) inL_refl (fun _ _ _=>inL_trans) blt_trans blt_total (metL p less)
 have hp:=ha.perm inL_refl (fun _ _ _=>inL_trans) (fun _ _=>inL_antisymm) hb.1
 constructor
 . intro h
   have hm:=hp.mem_iff.1 h
   generalize hk:(metL p less).foldl (putG inL blt) []=k at hb hm
   have hall:∀ x ∈ k,inL x p:=fun x hx=>metL_in (hb.1.sub x hx)
   cases k with
   | nil=>simp at hm
   | cons a k=>
    have hpw:=List.pairwise_cons.1 hb.1.anti
    rcases List.mem_cons.1 hm with rfl|hm
    . cases k with
      | nil=>rfl
      | cons b k=>exact absurd (hall b (by simp)) (hpw.1 b (by simp)).2
    . exact absurd (hall a (by simp)) (hpw.1 p hm).1
 . intro h
   exact hp.mem_iff.2 (by rw[h];simp)
theorem termT_void{p:Str}{less:List Str}(h:p ∈ grG inL (metL p less)):termT p less=none:=by
 have:=(void_iff p less).1 h
 unfold termT
 simp only
 rw[if_pos this]
theorem termT_some{p:Str}{less k:List Str}(h:p ∉ grG inL (metL p less))(hp:k.Perm (grG inL (metL p less)))(hs:k.Pairwise fun t u=>Op.bytesLess u t ≠ true):termT p less=some ⟨p,k⟩:=by
 have h1:=fun e=>h ((void_iff p less).2 e)
 unfold termT
 simp only
 rw[if_neg h1]
 congr
 exact (put_eq hp hs).symm
theorem termT_ok{p:Str}{less:List Str}{t:Term}(hp:p ≠ [])(h:termT p less=some t):t.Ok p.length/\t.p=p:=by
 unfold termT at h
 simp only at h
 split at h
 . cases h
 . cases h
   have hb:=putG_fold (R:=inL) (L:=blt) inL_refl (fun _ _ _=>inL_trans) blt_trans blt_total (metL p less)
   exact⟨⟨List.length_pos_iff.2 hp,rfl,fun m hm=>metL_in (hb.1.sub m hm)⟩,rfl⟩
theorem grG_sub{α:Type}(R:α->α->Prop)(l:List α):∀ x ∈ grG R l,x ∈ l:=by
 have go:∀ (l k:List α),∀ x ∈ l.foldl (addG R) k,x ∈ k\/x ∈ l:=by
  intro l
  induction l with
  | nil=>intro k x hx;exact .inl hx
  | cons y l ih=>
   intro k x hx
   rcases ih _ x hx with h|h
   . unfold addG at h
     split at h
     . exact .inl h
     . rcases mAp0.1 h with h|h
       . exact .inl (List.mem_filter.1 h).1
       . simp at h;subst h;exact .inr (by simp)
   . exact .inr (by simp[h])
 intro x hx
 rcases go l [] x hx with h|h
 . simp at h
 . exact h
theorem formT_mem{l:List Term}{t:Term}(h:t ∈ formT l):t ∈ l:=grG_sub covT l t ((srt_perm aheadT _).mem_iff.1 h)
end Go.Proofs.YtcglkonooeddfaaGreatDoor
namespace Go.Proofs.YtcglkonooeddfaaGreatDoor
open Go Go.Vx
def wof(f:Nat->Bool)(k:Nat):BitVec 64:=(BitVec.ofBoolListLE ((List.range 64).map fun i=>f (64*k+i))).setWidth 64
theorem wof_get(f:Nat->Bool)(k i:Nat)(h:i<64):(wof f k).getLsbD i=f (64*k+i):=by
 unfold wof
 rw[BitVec.getLsbD_setWidth,BitVec.getLsbD_ofBoolListLE]
 simp[h,List.getD]
theorem wof_ext{f g:Nat->Bool}{k:Nat}(h:∀ i,i<64->f (64*k+i)=g (64*k+i)):wof f k=wof g k:=
 BitVec.eq_of_getLsbD_eq fun i hi=>by rw[wof_get _ _ _ hi,wof_get _ _ _ hi];exact h i hi
theorem wof_eq{f g:Nat->Bool}{k:Nat}:wof f k=wof g k ↔ ∀ i,i<64->f (64*k+i)=g (64*k+i):=by
 refine⟨fun h i hi=>?_,wof_ext⟩
 rw[<- wof_get f k i hi,h,wof_get g k i hi]
theorem bv_id(x:BitVec 64):BitVec.ofInt IntKind.u64.bits (x.toNat:Int)=x:=by
 show BitVec.ofInt 64 (x.toNat:Int)=x
 simp
theorem wrap_id(x:BitVec 64):IntKind.u64.wrap (x.toNat:Int)=(x.toNat:Int):=by
 have:=x.isLt
 simp[IntKind.wrap,IntKind.bits,IntKind.signed]
 omega
section
variable {p : Int → Prop} {x y : BitVec 64}
theorem nAnd(h:p ((x &&& y).toNat:Int)):∃ n,n=IntKind.u64.wrap ((BitVec.ofInt IntKind.u64.bits (x.toNat:Int) &&& BitVec.ofInt IntKind.u64.bits (y.toNat:Int)).toNat:Int)/\p n:=⟨_,rfl,by
 have key:∀ (a b:BitVec 64),a=x->b=y->IntKind.u64.wrap ((a &&& b).toNat:Int)=(((x &&& y):BitVec 64).toNat:Int):=by
  rintro _ _ rfl rfl
  exact wrap_id _
 exact (congrArg p (key _ _ (bv_id x) (bv_id y))).mpr h⟩
theorem nOr(h:p ((x ||| y).toNat:Int)):∃ n,n=IntKind.u64.wrap ((BitVec.ofInt IntKind.u64.bits (x.toNat:Int) ||| BitVec.ofInt IntKind.u64.bits (y.toNat:Int)).toNat:Int)/\p n:=⟨_,rfl,by
 have key:∀ (a b:BitVec 64),a=x->b=y->IntKind.u64.wrap ((a ||| b).toNat:Int)=(((x ||| y):BitVec 64).toNat:Int):=by
  rintro _ _ rfl rfl
  exact wrap_id _
 exact (congrArg p (key _ _ (bv_id x) (bv_id y))).mpr h⟩
theorem nXor(h:p ((x ^^^ y).toNat:Int)):∃ n,n=IntKind.u64.wrap ((BitVec.ofInt IntKind.u64.bits (x.toNat:Int) ^^^ BitVec.ofInt IntKind.u64.bits (y.toNat:Int)).toNat:Int)/\p n:=⟨_,rfl,by
 have key:∀ (a b:BitVec 64),a=x->b=y->IntKind.u64.wrap ((a ^^^ b).toNat:Int)=(((x ^^^ y):BitVec 64).toNat:Int):=by
  rintro _ _ rfl rfl
  exact wrap_id _
 exact (congrArg p (key _ _ (bv_id x) (bv_id y))).mpr h⟩
theorem nAnd1(h:p ((x &&& 1#64).toNat:Int)):∃ n,n=IntKind.u64.wrap ((BitVec.ofInt IntKind.u64.bits (x.toNat:Int) &&& BitVec.ofInt IntKind.u64.bits 1).toNat:Int)/\p n:=by
 have:((1#64:BitVec 64).toNat:Int)=1:=rfl
 have h2:=nAnd (p:=p) (x:=x) (y:=1#64) h
 rwa [this] at h2
theorem nShr{r:Int}{k:Nat}(hr:r=(k:Int)/\k<64)(h:p ((x >>> k).toNat:Int)):∃ n,n=(x.toNat:Int).fdiv (2 ^ (min r.toNat IntKind.u64.bits))/\p n:=by
 refine⟨_,rfl,?_⟩
 obtain⟨rfl,hk⟩:=hr
 have e1:min ((k:Int).toNat) IntKind.u64.bits=k:=by
  show min k 64=k
  omega
 rw[e1]
 have e2:((x.toNat:Int).fdiv (2 ^ k))=((x >>> k).toNat:Int):=by
  rw[BitVec.toNat_ushiftRight,Nat.shiftRight_eq_div_pow,Int.fdiv_eq_ediv_of_nonneg _ (Int.pow_nonneg (by omega))]
  push_cast
  rfl
 rw[e2]
 exact h
theorem nShl1{r:Int}{k:Nat}(hr:r=(k:Int)/\k<64)(h:p ((1#64 <<< k).toNat:Int)):∃ n,n=IntKind.u64.wrap (1*2 ^ (min r.toNat IntKind.u64.bits))/\p n:=by
 refine⟨_,rfl,?_⟩
 obtain⟨rfl,hk⟩:=hr
 have e1:min ((k:Int).toNat) IntKind.u64.bits=k:=by
  show min k 64=k
  omega
 rw[e1]
 have hlt:2 ^ k<2 ^ 64:=Nat.pow_lt_pow_right (by omega) hk
 have e2:(1*2 ^ k:Int)=((1#64 <<< k).toNat:Int):=by
  rw[BitVec.toNat_shiftLeft,Nat.shiftLeft_eq]
  simp only[BitVec.toNat_ofNat]
  rw[show (1 % 2 ^ 64*2 ^ k) % 2 ^ 64=2 ^ k by rw[Nat.mod_eq_of_lt (a:=1) (by decide),Nat.one_mul,Nat.mod_eq_of_lt hlt]]
  push_cast
  omega
 rw[e2,wrap_id]
 exact h
end
theorem nAnd1'{p:Int->Prop}{x:BitVec 64}{c:Int}(hc:c=1)(h:p ((x &&& 1#64).toNat:Int)):∃ n,n=IntKind.u64.wrap ((BitVec.ofInt IntKind.u64.bits (x.toNat:Int) &&& BitVec.ofInt IntKind.u64.bits c).toNat:Int)/\p n:=by
 subst hc;exact nAnd1 h
theorem nShl1'{p:Int->Prop}{r c:Int}{k:Nat}(hc:c=1)(hr:r=(k:Int)/\k<64)(h:p ((1#64 <<< k).toNat:Int)):∃ n,n=IntKind.u64.wrap (c*2 ^ (min r.toNat IntKind.u64.bits))/\p n:=by
 subst hc;exact nShl1 hr h
theorem bit_at(x:BitVec 64)(k:Nat):(((x >>> k) &&& 1#64).toNat:Int)=1 ↔ x.getLsbD k=true:=by
 have h1:((x >>> k) &&& 1#64).toNat=(x.getLsbD k).toNat:=by
  rw[BitVec.toNat_and,BitVec.toNat_ushiftRight]
  simp only[BitVec.toNat_ofNat]
  rw[show 1 % 2 ^ 64=1 from rfl,Nat.and_one_is_mod,BitVec.getLsbD,Nat.testBit]
  simp
  have:=Nat.mod_two_eq_zero_or_one (x.toNat >>> k)
  rcases this with h|h<;>simp[h]
 rw[h1]
 cases x.getLsbD k<;>simp
theorem quo64{i q r:Nat}(h:i=64*q+r)(hr:r<64)(hi:i<1000):(q:Int)=IntKind.i64.wrap ((i:Int).tdiv 64):=by
 subst h
 have e:((64*q+r:Nat):Int).tdiv 64=(q:Int):=by
  rw[Int.tdiv_eq_ediv_of_nonneg (by omega)]
  omega
 rw[e,IntKind.wrap_i64]
 omega
theorem rem64{i q r:Nat}(h:i=64*q+r)(hr:r<64):(r:Int)=((i:Int).tmod 64):=by
 subst h
 rw[Int.tmod_eq_emod_of_nonneg (by omega)]
 omega
theorem word_nz{x:BitVec 64}:((x.toNat:Int) ≠ 0) ↔ ∃ i,i<64/\x.getLsbD i=true:=by
 constructor
 . intro h
   apply Classical.byContradiction
   intro hn
   apply h
   have:x=0#64:=BitVec.eq_of_getLsbD_eq fun i hi=>by
    cases hx:x.getLsbD i
    . simp
    . exact absurd ⟨i,hi,hx⟩ hn
   rw[this]
   rfl
 . rintro⟨i,hi,h⟩ h0
   have:x=0#64:=BitVec.eq_of_toNat_eq (by simpa using h0)
   rw[this] at h
   simp at h
def dig(b:UInt8):Bool:=b == 48 || b == 49
def car(t:Str)(i:Nat):Bool:=match t[i]? with|some b=>dig b|none=>false
def one(t:Str)(i:Nat):Bool:=match t[i]? with|some b=>b == 49|none=>false
@[reducible] def cells9(n:Nat)(c o:Nat->Bool):List D:=[.i .i64 (n:Int),.i .u64 ((wof c 0).toNat:Int),.i .u64 ((wof c 1).toNat:Int),.i .u64 ((wof c 2).toNat:Int),.i .u64 ((wof c 3).toNat:Int),.i .u64 ((wof o 0).toNat:Int),.i .u64 ((wof o 1).toNat:Int),.i .u64 ((wof o 2).toNat:Int),.i .u64 ((wof o 3).toNat:Int)]
@[reducible] def crow(t:Str):List D:=cells9 t.length (car t) (one t)
structure CT(t:Str):Prop where
 len:t.length<=256
 cub:∀ b ∈ t,b=48\/b=49\/b=120
theorem crow_nil:crow []=[.i .i64 0,.i .u64 0,.i .u64 0,.i .u64 0,.i .u64 0,.i .u64 0,.i .u64 0,.i .u64 0,.i .u64 0]:=by
 have h:∀ k,wof (car []) k=0#64:=fun k=>BitVec.eq_of_getLsbD_eq fun i hi=>by rw[wof_get _ _ _ hi];simp[car]
 have h2:∀ k,wof (one []) k=0#64:=fun k=>BitVec.eq_of_getLsbD_eq fun i hi=>by rw[wof_get _ _ _ hi];simp[one]
 simp[h,h2]
theorem car_lt{t:Str}{i:Nat}(h:car t i=true):i<t.length:=by
 unfold car at h
 split at h
 . rename_i b hb;exact (gSm0.1 hb).1
 . cases h
theorem words_eq{f g:Nat->Bool}(h0:wof f 0=wof g 0)(h1:wof f 1=wof g 1)(h2:wof f 2=wof g 2)(h3:wof f 3=wof g 3):∀ i,i<256->f i=g i:=by
 intro i hi
 have e0:=wof_eq.1 h0
 have e1:=wof_eq.1 h1
 have e2:=wof_eq.1 h2
 have e3:=wof_eq.1 h3
 by_cases c0:i<64
 . have:=e0 i c0;rwa [show 64*0+i=i by omega] at this
 by_cases c1:i<128
 . have:=e1 (i - 64) (by omega);rwa [show 64*1+(i - 64)=i by omega] at this
 by_cases c2:i<192
 . have:=e2 (i - 128) (by omega);rwa [show 64*2+(i - 128)=i by omega] at this
 . have:=e3 (i - 192) (by omega);rwa [show 64*3+(i - 192)=i by omega] at this
theorem ct_ext{t u:Str}(ht:CT t)(hu:CT u)(hl:t.length=u.length)(hc:∀ i,i<256->car t i=car u i)(ho:∀ i,i<256->one t i=one u i):t=u:=by
 refine List.ext_getElem? fun i=>?_
 by_cases hi:i<t.length
 . have h1:t[i]? = some t[i]:=gEt0 hi
   have h2:u[i]? = some u[i]:=gEt0 (by omega)
   have hi2:i<256:=by have:=ht.len;omega
   have c:=hc i hi2
   have o:=ho i hi2
   unfold car at c
   unfold one at o
   rw[h1,h2] at c o ⊢
   simp only[] at c o
   have k1:=ht.cub t[i] (List.getElem_mem hi)
   have k2:=hu.cub u[i] (List.getElem_mem (by omega))
   rcases k1 with k1|k1|k1<;>rcases k2 with k2|k2|k2<;>rw[k1,k2] at c o ⊢<;>simp[dig] at c o
 . rw[List.getElem?_eq_none (by omega),List.getElem?_eq_none (by omega)]
theorem crow_inj{t u:Str}(ht:CT t)(hu:CT u)(h:eqDs (crow t) (crow u)):t=u:=by
 have key:∀ {x y:BitVec 64},(x.toNat:Int)=(y.toNat:Int)->x=y:=fun h=>BitVec.eq_of_toNat_eq (by omega)
 simp only[eqDs,eqD] at h
 obtain⟨hl,c0,c1,c2,c3,o0,o1,o2,o3⟩:=h
 exact ct_ext ht hu (by omega) (words_eq (key c0) (key c1) (key c2) (key c3)) (words_eq (key o0) (key o1) (key o2) (key o3))
theorem eqDs_self(t:Str):eqDs (crow t) (crow t):=by simp[eqDs,eqD]
theorem put_word{f g:Nat->Bool}{i q r:Nat}(hi:i=64*q+r)(hr:r<64)(hg:∀ j,g j=(f j || decide (j=i)))(k:Nat):wof g k=if k=q then wof f k ||| 1#64 <<< r else wof f k:=by
 refine BitVec.eq_of_getLsbD_eq fun j hj=>?_
 rw[wof_get _ _ _ hj,hg]
 split
 . rename_i hk
   subst hk
   rw[BitVec.getLsbD_or,wof_get _ _ _ hj,BitVec.getLsbD_shiftLeft,BitVec.getLsbD_one]
   congr 1
   by_cases hjr:j=r
   . subst hjr;simp[hi,hj]
   . have h1:¬ 64*k+j=i:=by omega
     have h2:¬ (j - r=0/\¬ j<r):=by omega
     simp[h1,hj]
     omega
 . rename_i hk
   rw[wof_get _ _ _ hj]
   have h1:¬ 64*k+j=i:=by omega
   simp[h1]
theorem take_get{t:Str}{i:Nat}{b:UInt8}(h:t[i]? = some b)(j:Nat):(t.take (i+1))[j]? = if j=i then some b else (t.take i)[j]?:=by
 rw[List.getElem?_take,List.getElem?_take]
 by_cases hj:j=i
 . subst hj;simp[h]
 . by_cases h2:j<i
   . simp[hj,h2,show j<i+1 by omega]
   . simp[hj,h2,show ¬ j<i+1 by omega]
theorem car_at_end(t:Str)(i:Nat):car (t.take i) i=false:=by
 unfold car
 rw[List.getElem?_take]
 simp
theorem one_at_end(t:Str)(i:Nat):one (t.take i) i=false:=by
 unfold one
 rw[List.getElem?_take]
 simp
theorem car_put{t:Str}{i:Nat}{b:UInt8}(h:t[i]? = some b)(hd:dig b=true)(j:Nat):car (t.take (i+1)) j=(car (t.take i) j || decide (j=i)):=by
 by_cases hj:j=i
 . subst hj
   rw[car_at_end]
   unfold car
   rw[take_get h]
   simp[hd]
 . unfold car
   rw[take_get h]
   simp[hj]
theorem one_put{t:Str}{i:Nat}(h:t[i]? = some 49)(j:Nat):one (t.take (i+1)) j=(one (t.take i) j || decide (j=i)):=by
 by_cases hj:j=i
 . subst hj
   rw[one_at_end]
   unfold one
   rw[take_get h]
   simp
 . unfold one
   rw[take_get h]
   simp[hj]
theorem car_same{t:Str}{i:Nat}{b:UInt8}(h:t[i]? = some b)(hd:dig b=false)(k:Nat):wof (car (t.take (i+1))) k=wof (car (t.take i)) k:=by
 refine wof_ext fun j _=>?_
 generalize 64*k+j=m
 by_cases hj:m=i
 . subst hj
   rw[car_at_end]
   unfold car
   rw[take_get h]
   simp[hd]
 . unfold car
   rw[take_get h]
   simp[hj]
theorem one_same{t:Str}{i:Nat}{b:UInt8}(h:t[i]? = some b)(hd:b ≠ 49)(k:Nat):wof (one (t.take (i+1))) k=wof (one (t.take i)) k:=by
 refine wof_ext fun j _=>?_
 generalize 64*k+j=m
 by_cases hj:m=i
 . subst hj
   rw[one_at_end]
   unfold one
   rw[take_get h]
   simp[hd]
 . unfold one
   rw[take_get h]
   simp[hj]
theorem at_word{f:Nat->Bool}{i q r:Nat}(hi:i=64*q+r)(hr:r<64):((((wof f q) >>> r) &&& 1#64).toNat:Int)=1 ↔ f i=true:=by
 rw[bit_at,wof_get _ _ _ hr,hi]
theorem split64(i:Nat)(h:i<256):∃ q r,i=64*q+r/\r<64/\(q=0\/q=1\/q=2\/q=3):=⟨i / 64,i % 64,by omega,by omega,by omega⟩
end Go.Proofs.YtcglkonooeddfaaGreatDoor
namespace Go.Proofs.YtcglkonooeddfaaGreatDoor
open Go Go.Vx
theorem meetL_get:∀ {c d m:Str},meetL c d=some m->∀ (i:Nat) a b,c[i]? = some a->d[i]? = some b->∃ x,m[i]? = some x/\meet1 a b=some x
 | [],[],_,_,i,a,b,ha,_=>by simp at ha
 | [],_ :: _,_,h,_,_,_,_,_=>by cases h
 | _ :: _,[],_,h,_,_,_,_,_=>by cases h
 | a0 :: c,b0 :: d,m,h,i,a,b,ha,hb=>by
  unfold meetL at h
  cases h1:meet1 a0 b0 with
  | none=>rw[h1] at h;cases h
  | some x=>cases h2:meetL c d with
   | none=>rw[h1,h2] at h;cases h
   | some r=>
    rw[h1,h2] at h
    cases h
    cases i with
    | zero=>simp at ha hb;subst ha hb;exact⟨x,rfl,h1⟩
    | succ i=>exact meetL_get h2 i a b (by simpa using ha) (by simpa using hb)
theorem meetL_ex:∀ {c d:Str},c.length=d.length->(∀ (i:Nat) a b,c[i]? = some a->d[i]? = some b->meet1 a b ≠ none)->∃ m,meetL c d=some m
 | [],[],_,_=>⟨[],rfl⟩
 | [],_ :: _,h,_=>by simp at h
 | _ :: _,[],h,_=>by simp at h
 | a :: c,b :: d,h,hh=>by
  obtain⟨m,hm⟩:=meetL_ex (c:=c) (d:=d) (by simpa using h) fun i a b ha hb=>hh (i+1) a b (by simpa using ha) (by simpa using hb)
  have:=hh 0 a b rfl rfl
  cases h1:meet1 a b with
  | none=>exact absurd h1 this
  | some x=>exact⟨x :: m,by unfold meetL;rw[h1,hm]⟩
theorem meetL_ct:∀ {c d m:Str},meetL c d=some m->(∀ b ∈ c,b=48\/b=49\/b=120)->(∀ b ∈ d,b=48\/b=49\/b=120)->∀ b ∈ m,b=48\/b=49\/b=120
 | [],[],m,h,_,_=>by cases h;simp
 | [],_ :: _,_,h,_,_=>by cases h
 | _ :: _,[],_,h,_,_=>by cases h
 | a0 :: c,b0 :: d,m,h,hc,hd=>by
  unfold meetL at h
  cases h1:meet1 a0 b0 with
  | none=>rw[h1] at h;cases h
  | some x=>cases h2:meetL c d with
   | none=>rw[h1,h2] at h;cases h
   | some r=>
    rw[h1,h2] at h
    cases h
    intro b hb
    rcases List.mem_cons.1 hb with rfl|hb
    . unfold meet1 at h1
      split at h1
      . cases h1;exact hd _ (by simp)
      . split at h1
        . cases h1;exact hc _ (by simp)
        . cases h1
    . exact meetL_ct h2 (fun b hb=>hc b (by simp[hb])) (fun b hb=>hd b (by simp[hb])) b hb
theorem meetT_ct{c d m:Str}(h:meetT c d=some m)(hc:CT c)(hd:CT d):CT m/\m.length=c.length/\c ≠ []:=by
 unfold meetT at h
 split at h
 . cases h
 . rename_i hne
   have hl:=meetL_len h
   exact⟨⟨by rw[<- hl.1];exact hc.len,meetL_ct h hc.cub hd.cub⟩,hl.1.symm,hne⟩
theorem meetT_eq{c d:Str}(h:c ≠ []):meetT c d=meetL c d:=by unfold meetT;rw[if_neg h]
def cfl(c d:Str)(i:Nat):Bool:=(xor (one c i) (one d i) && car c i) && car d i
theorem word_cfl(c d:Str)(k:Nat):(((wof (one c) k ^^^ wof (one d) k) &&& wof (car c) k) &&& wof (car d) k)=wof (cfl c d) k:=by
 refine BitVec.eq_of_getLsbD_eq fun i hi=>?_
 rw[BitVec.getLsbD_and,BitVec.getLsbD_and,BitVec.getLsbD_xor,wof_get _ _ _ hi,wof_get _ _ _ hi,wof_get _ _ _ hi,wof_get _ _ _ hi,wof_get _ _ _ hi]
 rfl
theorem at_b{t:Str}{i:Nat}{b:UInt8}(h:t[i]? = some b):car t i=dig b/\one t i=(b == 49):=by
 unfold car one
 rw[h]
 exact⟨rfl,rfl⟩
theorem at_out{t:Str}{i:Nat}(h:t.length<=i):car t i=false/\one t i=false:=by
 unfold car one
 rw[List.getElem?_eq_none h]
 exact⟨rfl,rfl⟩
theorem meet1_cfl{a b:UInt8}(ha:a=48\/a=49\/a=120)(hb:b=48\/b=49\/b=120):meet1 a b=none ↔ ((xor (a == 49) (b == 49) && dig a) && dig b)=true:=by
 rcases ha with rfl|rfl|rfl<;>rcases hb with rfl|rfl|rfl<;>simp[meet1,dig]
theorem meet1_bits{a b x:UInt8}(ha:a=48\/a=49\/a=120)(hb:b=48\/b=49\/b=120)(h:meet1 a b=some x):dig x=(dig a || dig b)/\(x == 49)=((a == 49) || (b == 49)):=by
 rcases ha with rfl|rfl|rfl<;>rcases hb with rfl|rfl|rfl<;>simp[meet1] at h<;>subst h<;>simp[dig]
theorem cfl_none{c d:Str}(hc:CT c)(hd:CT d){i:Nat}(h:cfl c d i=true):meetT c d=none:=by
 unfold meetT
 split
 . rfl
 . cases hm:meetL c d with
   | none=>rfl
   | some m=>
    exfalso
    unfold cfl at h
    simp only[Bool.and_eq_true] at h
    have h1:=car_lt h.1.2
    have h2:=car_lt h.2
    have e1:=gEt0 h1
    have e2:=gEt0 h2
    obtain⟨x,_,hx⟩:=meetL_get hm i _ _ e1 e2
    have:=(meet1_cfl (hc.cub _ (List.getElem_mem h1)) (hd.cub _ (List.getElem_mem h2))).2 (by
     rw[(at_b e1).2,(at_b e2).2,(at_b e1).1,(at_b e2).1] at h
     simp[h.1.1,h.1.2,h.2])
    rw[this] at hx
    cases hx
theorem cfl_some{c d:Str}(hc:CT c)(hd:CT d)(hl:c.length=d.length)(hne:c ≠ [])(h:∀ i,cfl c d i=false):∃ m,meetT c d=some m/\(∀ i,car m i=(car c i || car d i))/\∀ i,one m i=(one c i || one d i):=by
 obtain⟨m,hm⟩:=meetL_ex hl fun i a b ha hb hn=>by
  have h1:=(meet1_cfl (hc.cub _ (mOf0 ha)) (hd.cub _ (mOf0 hb))).1 hn
  have h2:=h i
  unfold cfl at h2
  rw[(at_b ha).2,(at_b hb).2,(at_b ha).1,(at_b hb).1,h1] at h2
  cases h2
 have key:∀ i,car m i=(car c i || car d i)/\one m i=(one c i || one d i):=fun i=>by
  have hlm:=meetL_len hm
  by_cases hi:i<c.length
  . have e1:=gEt0 hi
    have e2:=gEt0 (show i<d.length by omega)
    obtain⟨x,hx,hxx⟩:=meetL_get hm i _ _ e1 e2
    have:=meet1_bits (hc.cub _ (List.getElem_mem hi)) (hd.cub _ (List.getElem_mem (show i<d.length by omega))) hxx
    rw[(at_b e1).1,(at_b e2).1,(at_b e1).2,(at_b e2).2,(at_b hx).1,(at_b hx).2]
    exact this
  . have h1:=at_out (t:=c) (i:=i) (by omega)
    have h2:=at_out (t:=d) (i:=i) (by omega)
    have h3:=at_out (t:=m) (i:=i) (by omega)
    rw[h1.1,h1.2,h2.1,h2.2,h3.1,h3.2]
    exact⟨rfl,rfl⟩
 exact⟨m,by rw[meetT_eq hne,hm],fun i=>(key i).1,fun i=>(key i).2⟩
theorem wof_or{f g h:Nat->Bool}(e:∀ i,h i=(f i || g i))(k:Nat):wof h k=wof f k ||| wof g k:=by
 refine BitVec.eq_of_getLsbD_eq fun i hi=>?_
 rw[BitVec.getLsbD_or,wof_get _ _ _ hi,wof_get _ _ _ hi,wof_get _ _ _ hi,e]
theorem wof_zero{f:Nat->Bool}{k:Nat}(h:((wof f k).toNat:Int)=0)(i:Nat)(hi:i<64):f (64*k+i)=false:=by
 rw[<- wof_get f k i hi]
 cases hb:(wof f k).getLsbD i
 . rfl
 . exact absurd h (word_nz.2 ⟨i,hi,hb⟩)
theorem wof_nz{f:Nat->Bool}{k:Nat}(h:¬ ((wof f k).toNat:Int)=0):∃ i,f i=true:=by
 obtain⟨i,hi,hb⟩:=word_nz.1 h
 exact⟨_,by rw[wof_get _ _ _ hi] at hb;exact hb⟩
theorem no_cfl{c d:Str}(hc:CT c)(h:∀ k,k<4->((wof (cfl c d) k).toNat:Int)=0)(i:Nat):cfl c d i=false:=by
 by_cases hi:i<256
 . obtain⟨q,r,rfl,hr,hq⟩:=split64 i hi
   exact wof_zero (h q (by omega)) r hr
 . unfold cfl
   have:=(at_out (t:=c) (i:=i) (by have:=hc.len;omega)).1
   rw[this]
   simp
theorem inT_meet{c d:Str}:inT c d ↔ meetT c d=some c:=by
 unfold inT
 constructor
 . rintro⟨h1,h2⟩
   rw[meetT_eq h1]
   exact meetL_self.2 h2
 . intro h
   have hne:c ≠ []:=fun e=>by rw[e] at h;simp[meetT] at h
   rw[meetT_eq hne] at h
   exact⟨hne,meetL_self.1 h⟩
def mw(w:Nat)(f g:Nat->Bool)(k:Nat):BitVec 64:=if k<w then wof f k ||| wof g k else wof f k
@[reducible] def mcells(n w:Nat)(c d:Str):List D:=[.i .i64 (n:Int),.i .u64 ((mw w (car c) (car d) 0).toNat:Int),.i .u64 ((mw w (car c) (car d) 1).toNat:Int),.i .u64 ((mw w (car c) (car d) 2).toNat:Int),.i .u64 ((mw w (car c) (car d) 3).toNat:Int),.i .u64 ((mw w (one c) (one d) 0).toNat:Int),.i .u64 ((mw w (one c) (one d) 1).toNat:Int),.i .u64 ((mw w (one c) (one d) 2).toNat:Int),.i .u64 ((mw w (one c) (one d) 3).toNat:Int)]
theorem mcells_end{c d m:Str}(hl:m.length=c.length)(h1:∀ i,car m i=(car c i || car d i))(h2:∀ i,one m i=(one c i || one d i)):mcells c.length 4 c d=crow m:=by
 simp only[mcells,crow,cells9,mw,wof_or h1,wof_or h2,hl]
 rfl
end Go.Proofs.YtcglkonooeddfaaGreatDoor
namespace Go.Proofs.YtcglkonooeddfaaGreatDoor
open Go Go.Vx
section
variable {α : Type} {R : α → α → Prop}
theorem grG_take{l:List α}{i:Nat}{x:α}(h:l[i]? = some x):grG R (l.take (i+1))=addG R (grG R (l.take i)) x:=by
 unfold grG
 rw[List.take_add_one,h]
 simp
theorem addG_in{k:List α}{x:α}(h:∃ y ∈ k,R x y):addG R k x=k:=by
 unfold addG
 rw[if_pos h]
open Classical in
theorem addG_out{k:List α}{x:α}(h:∀ y ∈ k,¬ R x y):addG R k x=k.filter (fun y=>decide (¬ R y x))++[x]:=by
 unfold addG
 rw[if_neg fun⟨y,hy,hxy⟩=>h y hy hxy]
theorem filter_take{p:α->Bool}{k:List α}{j:Nat}{y:α}(h:k[j]? = some y):(k.take (j+1)).filter p=(k.take j).filter p++(if p y then [y] else []):=by
 rw[List.take_add_one,h,List.filter_append]
 congr 1
 cases hp:p y<;>simp[hp]
structure Kept(R:α->α->Prop)(l:List α)(i:Nat)(W:List α):Prop where
 le:i<=l.length
 tk:W.take (grG R (l.take i)).length=grG R (l.take i)
 n:(grG R (l.take i)).length<=W.length
 w:W.length<=i
theorem Kept.zero{l:List α}:Kept R l 0 []:=⟨Nat.zero_le _,by simp[grG],by simp[grG],by simp⟩
theorem Kept.get{l:List α}{i:Nat}{W:List α}(h:Kept R l i W){j:Nat}(hj:j<(grG R (l.take i)).length):W[j]? = (grG R (l.take i))[j]?:=by
 have:=congrArg (fun z:List α=>z[j]?) h.tk
 simp only[List.getElem?_take,if_pos hj] at this
 exact this
theorem Kept.skip{l:List α}{i:Nat}{W:List α}(h:Kept R l i W){x:α}(hx:l[i]? = some x)(hy:∃ y ∈ grG R (l.take i),R x y):Kept R l (i+1) W/\grG R (l.take (i+1))=grG R (l.take i):=by
 have e:grG R (l.take (i+1))=grG R (l.take i):=by rw[grG_take hx,addG_in hy]
 have:=(gSm0.1 hx).1
 exact⟨⟨by omega,by rw[e];exact h.tk,by rw[e];exact h.n,by have:=h.w;omega⟩,e⟩
open Classical in
/-- Those of the first j that are not below x. -/
noncomputable def leftOf(R:α->α->Prop)(k:List α)(x:α)(j:Nat):List α:=(k.take j).filter (fun y=>decide (¬ R y x))
theorem leftOf_step_keep{k:List α}{x y:α}{j:Nat}(h:k[j]? = some y)(hy:¬ R y x):leftOf R k x (j+1)=leftOf R k x j++[y]:=by
 unfold leftOf
 rw[filter_take h]
 simp[hy]
theorem leftOf_step_drop{k:List α}{x y:α}{j:Nat}(h:k[j]? = some y)(hy:R y x):leftOf R k x (j+1)=leftOf R k x j:=by
 unfold leftOf
 rw[filter_take h]
 simp[hy]
theorem leftOf_le(k:List α)(x:α)(j:Nat):(leftOf R k x j).length<=j:=by
 unfold leftOf
 refine Nat.le_trans (List.length_filter_le _ _) ?_
 simp
 omega
structure Mid(R:α->α->Prop)(k:List α)(x:α)(W0:List α)(j:Nat)(W:List α):Prop where
 le:j<=k.length
 len:W.length=W0.length
 tk:W.take (leftOf R k x j).length=leftOf R k x j
 beh:∀ i,j<=i->W[i]? = W0[i]?
theorem Mid.zero{k W0:List α}{x:α}:Mid R k x W0 0 W0:=⟨Nat.zero_le _,rfl,by simp[leftOf],fun _ _=>rfl⟩
theorem Mid.drop{k W0 W:List α}{x y:α}{j:Nat}(h:Mid R k x W0 j W)(hy:k[j]? = some y)(hR:R y x):Mid R k x W0 (j+1) W/\leftOf R k x (j+1)=leftOf R k x j:=by
 have e:=leftOf_step_drop hy hR
 have:=(gSm0.1 hy).1
 exact⟨⟨by omega,h.len,by rw[e];exact h.tk,fun i hi=>h.beh i (by omega)⟩,e⟩
theorem take_set_end{W:List α}{m:Nat}{F:List α}{y:α}(hm:F.length=m)(h:W.take m=F)(hl:m<W.length):(W.set m y).take (m+1)=F++[y]:=by
 rw[List.take_add_one,List.getElem?_set_self hl,List.take_set]
 rw[h,List.set_eq_of_length_le (by omega)]
 rfl
theorem Mid.keep{k W0 W:List α}{x y:α}{j:Nat}(h:Mid R k x W0 j W)(hkw:k.length<=W0.length)(hy:k[j]? = some y)(hR:¬ R y x) :
    Mid R k x W0 (j+1) (W.set (leftOf R k x j).length y)/\leftOf R k x (j+1)=leftOf R k x j++[y]/\(leftOf R k x j).length<W.length:=by
 have e:=leftOf_step_keep hy hR
 have hj:=(gSm0.1 hy).1
 have hle:=leftOf_le (R:=R) k x j
 have hlt:(leftOf R k x j).length<W.length:=by rw[h.len];omega
 refine⟨⟨by omega,by simp[h.len],?_,fun i hi=>?_⟩,e,hlt⟩
 . rw[e,List.length_append]
   exact take_set_end rfl h.tk hlt
 . rw[List.getElem?_set_ne (by omega)]
   exact h.beh i (by omega)
theorem Mid.get{k W0 W:List α}{x:α}{j:Nat}(h:Mid R k x W0 j W)(h0:W0.take k.length=k)(hj:j<k.length):W[j]? = k[j]?:=by
 rw[h.beh j (Nat.le_refl _)]
 have:=congrArg (fun z:List α=>z[j]?) h0
 simp only[List.getElem?_take,if_pos hj] at this
 exact this
theorem leftOf_all(k:List α)(x:α)(h:∀ y ∈ k,¬ R x y):leftOf R k x k.length++[x]=addG R k x:=by
 rw[addG_out h]
 unfold leftOf
 rw[List.take_length]
theorem Kept.step{l:List α}{i:Nat}{W W':List α}{x:α}(h:Kept R l i W)(hx:l[i]? = some x)(hno:∀ y ∈ grG R (l.take i),¬ R x y)(hW:Mid R (grG R (l.take i)) x W (grG R (l.take i)).length W') :
    grG R (l.take (i+1))=leftOf R (grG R (l.take i)) x (grG R (l.take i)).length++[x] /\
    ((leftOf R (grG R (l.take i)) x (grG R (l.take i)).length).length<W'.length->Kept R l (i+1) (W'.set (leftOf R (grG R (l.take i)) x (grG R (l.take i)).length).length x)) /\
    ((leftOf R (grG R (l.take i)) x (grG R (l.take i)).length).length=W'.length->Kept R l (i+1) (W'++[x])):=by
 have e:grG R (l.take (i+1))=leftOf R (grG R (l.take i)) x (grG R (l.take i)).length++[x]:=by rw[grG_take hx,leftOf_all _ _ hno]
 have hi:=(gSm0.1 hx).1
 have hw:=h.w
 have hlw:=hW.len
 refine⟨e,fun hlt=>⟨by omega,?_,?_,by simp;omega⟩,fun heq=>⟨by omega,?_,?_,by simp;omega⟩⟩
 . rw[e,List.length_append]
   exact take_set_end rfl hW.tk hlt
 . rw[e,List.length_append]
   simp
   omega
 . rw[e,List.length_append]
   have:=hW.tk
   rw[heq,List.take_length] at this
   rw[heq,<- this]
   exact tkL0 (by simp)
 . rw[e,List.length_append]
   simp
   omega
end
end Go.Proofs.YtcglkonooeddfaaGreatDoor
namespace Go.Proofs.YtcglkonooeddfaaGreatDoor
open Go Go.Vx
theorem metL_app(p:Str)(a b:List Str):metL p (a++b)=metL p a++metL p b:=by simp[metL]
theorem metL_none{p m:Str}(h:meetT m p=none):metL p [m]=[]:=by simp[metL,h]
theorem metL_some{p m c:Str}(h:meetT m p=some c):metL p [m]=[c]:=by simp[metL,h]
theorem metL_le(p:Str)(a:List Str):(metL p a).length<=a.length:=by
 unfold metL
 exact List.length_filterMap_le _ _
theorem perm_map_ex{α β:Type}{f:α->β}:∀ {ys m:List β},ys.Perm m->∀ l:List α,m=l.map f->∃ zs:List α,zs.Perm l/\ys=zs.map f:=by
 intro ys m h
 induction h with
 | nil=>intro l hl;exact⟨l,.refl l,hl⟩
 | cons x h ih=>
  intro l hl
  cases l with
  | nil=>cases hl
  | cons a l=>
   simp only[List.map_cons,List.cons.injEq] at hl
   obtain⟨zs,h1,h2⟩:=ih l hl.2
   exact⟨a :: zs,h1.cons a,by rw[List.map_cons,<- hl.1,h2]⟩
 | swap x y r=>
  intro l hl
  match l,hl with
  | a :: b :: l,hl=>
   simp only[List.map_cons,List.cons.injEq] at hl
   refine⟨b :: a :: l,.swap a b l,?_⟩
   rw[List.map_cons,List.map_cons,hl.1,hl.2.1,hl.2.2]
 | trans h1 h2 ih1 ih2=>
  intro l hl
  obtain⟨z1,a1,a2⟩:=ih2 l hl
  obtain⟨z2,b1,b2⟩:=ih1 z1 a2
  exact⟨z2,b1.trans a1,b2⟩
theorem flat_len{l:List Str}{n:Nat}(h:∀ x ∈ l,x.length<=n):l.flatten.length<=l.length*n:=by
 induction l with
 | nil=>simp
 | cons x l ih=>
  have:=ih fun y hy=>h y (by simp[hy])
  have:=h x (by simp)
  rw[List.flatten_cons,List.length_append,List.length_cons,Nat.add_mul]
  omega
theorem take_snoc{α:Type}{l:List α}{i:Nat}{x:α}(h:l[i]? = some x):l.take (i+1)=l.take i++[x]:=by
 rw[List.take_add_one,h];rfl
theorem over_set{α:Type}{ks W:List α}{i:Nat}{x:α}(h:ks[i]? = some x)(hl:ks.length<=W.length):(ks.take i++W.drop i).set i x=ks.take (i+1)++W.drop (i+1):=by
 have hi:=(gSm0.1 h).1
 rw[List.set_append,if_neg (by simp;omega),take_snoc h,List.append_assoc]
 congr 1
 rw[show i - (ks.take i).length=0 by simp;omega]
 rw[List.drop_eq_getElem_cons (show i<W.length by omega)]
 rfl
theorem over_at{α:Type}{ks W:List α}{i:Nat}(hi:i<ks.length)(hl:ks.length<=W.length):∃ y,(ks.take i++W.drop i)[i]? = some y:=by
 refine⟨W[i]'(by omega),?_⟩
 rw[List.getElem?_append_right (by simp;omega)]
 simp
 rw[show i - min i ks.length=0 by omega,Nat.add_zero]
 exact gEt0 _
theorem room_at2{α:Type}{ks:List α}{i n:Nat}(z:α)(hn:ks.length=n)(hi:i<n):(ks.take i++List.replicate (n - i) z)[i]? = some z:=by
 rw[List.getElem?_append_right (by simp;omega)]
 simp[List.getElem?_replicate]
 omega
theorem room_set2{α:Type}{ks:List α}{i n:Nat}{z x:α}(hn:ks.length=n)(h:ks[i]? = some x):(ks.take i++List.replicate (n - i) z).set i x=ks.take (i+1)++List.replicate (n - (i+1)) z:=by
 have hi:=(gSm0.1 h).1
 rw[List.set_append,if_neg (by simp;omega),take_snoc h,List.append_assoc]
 congr 1
 rw[show i - (ks.take i).length=0 by simp;omega,show n - i=(n - (i+1))+1 by omega,List.replicate_succ]
 rfl
theorem set_set_same{α:Type}(l:List α)(i:Nat)(x y:α):(l.set i x).set i y=l.set i y:=by simp
end Go.Proofs.YtcglkonooeddfaaGreatDoor
namespace Go.Proofs.YtcglkonooeddfaaGreatDoor
open Go Go.Vx
theorem inL_iff:∀ {c d:Str},inL c d ↔ c.length=d.length/\∀ (i:Nat) a b,c[i]? = some a->d[i]? = some b->b=120\/b=a
 | [],[]=>by simp[inL]
 | [],_ :: _=>by simp[inL]
 | _ :: _,[]=>by simp[inL]
 | a :: c,b :: d=>by
  simp only[inL,inL_iff (c:=c) (d:=d),List.length_cons,Nat.add_right_cancel_iff]
  constructor
  . rintro⟨h1,h2,h3⟩
    refine⟨h2,fun i x y hx hy=>?_⟩
    cases i with
    | zero=>simp at hx hy;subst hx hy;exact h1
    | succ i=>exact h3 i x y (by simpa using hx) (by simpa using hy)
  . rintro⟨h2,h3⟩
    exact⟨h3 0 a b rfl rfl,h2,fun i x y hx hy=>h3 (i+1) x y (by simpa using hx) (by simpa using hy)⟩
end Go.Proofs.YtcglkonooeddfaaGreatDoor
namespace Go.Proofs.YtcglkonooeddfaaGreatDoor
open Go Go.Vx
theorem grG_differ{l:List Term}{n:Nat}(hl:∀ t ∈ l,t.Ok n):(grG covT l).Pairwise fun x y=>x ≠ y:=by
 have ha:=grG_anti covT_trans l fun t ht=>covT_refl (hl t ht)
 exact ha.anti.imp_of_mem fun {a b} hma _ hab e=>hab.1 (by rw[<- e];exact covT_refl (hl a (ha.sub a hma)))
end Go.Proofs.YtcglkonooeddfaaGreatDoor
namespace Go.Proofs.YtcglkonooeddfaaGreatDoor
open Go Go.Vx
def tTail(l:List Str):Str:=(l.map fun m=>(45:UInt8) :: m).flatten
def ttxt(t:Term):Str:=t.p++tTail t.less
def sepT(l:List Term):Str:=((l.map fun t=>(43:UInt8) :: ttxt t).flatten).drop 1
open Classical in
noncomputable def textS(l:List Term):Str:=if l=[] then [110,111,110,101] else sepT l
def preT(l:List Term)(i:Nat):Str:=if i=0 then [] else sepT (l.take i)++[43]
theorem tTail_snoc{l:List Str}{j:Nat}{m:Str}(h:l[j]? = some m):tTail (l.take (j+1))=tTail (l.take j)++[45]++m:=by
 unfold tTail
 rw[take_snoc h]
 simp
theorem sepT_step{l:List Term}{i:Nat}{t:Term}(h:l[i]? = some t):sepT (l.take (i+1))=preT l i++ttxt t:=by
 have hi:=(gSm0.1 h).1
 unfold preT
 split
 . rename_i h0
   subst h0
   rw[take_snoc h]
   simp[sepT]
 . rename_i h0
   rw[take_snoc h]
   unfold sepT
   rw[List.map_append,List.flatten_append,List.drop_append_of_le_length]
   . simp
   . cases l with
     | nil=>simp at h
     | cons a r=>
      cases i with
      | zero=>exact absurd rfl h0
      | succ i=>simp
theorem sepT_nil:sepT []=[]:=rfl
def szS(l:List Term):Nat:=(l.map fun t=>1+t.less.length).sum
theorem tTail_len{l:List Str}(h:∀ m ∈ l,m.length<=256):(tTail l).length<=257*l.length:=by
 induction l with
 | nil=>simp[tTail]
 | cons m l ih=>
  have h1:=ih fun x hx=>h x (by simp[hx])
  have h2:=h m (by simp)
  unfold tTail at h1 ⊢
  rw[List.map_cons,List.flatten_cons,List.length_append,List.length_cons,List.length_cons]
  omega
theorem ttxt_len{t:Term}(hp:t.p.length<=256)(h:∀ m ∈ t.less,m.length<=256):(ttxt t).length<=257*(1+t.less.length) - 1:=by
 have:=tTail_len h
 unfold ttxt
 rw[List.length_append]
 omega
theorem sepT_len{l:List Term}(h:∀ t ∈ l,t.p.length<=256/\∀ m ∈ t.less,m.length<=256):(sepT l).length<=257*szS l:=by
 have key:((l.map fun t=>(43:UInt8) :: ttxt t).flatten).length<=257*szS l:=by
  induction l with
  | nil=>simp
  | cons t l ih=>
   have h1:=ih fun x hx=>h x (by simp[hx])
   have h2:=ttxt_len (h t (by simp)).1 (h t (by simp)).2
   simp only[szS,List.map_cons,List.flatten_cons,List.length_append,List.length_cons,List.sum_cons] at h1 ⊢
   rw[Nat.mul_add]
   omega
 unfold sepT
 rw[List.length_drop]
 omega
theorem szS_take(l:List Term)(i:Nat):szS (l.take i)<=szS l:=by
 unfold szS
 conv=>rhs;rw[<- List.take_append_drop i l]
 rw[List.map_append,List.sum_append]
 omega
theorem szS_mem{l:List Term}{t:Term}(h:t ∈ l):1+t.less.length<=szS l:=by
 unfold szS
 induction l with
 | nil=>simp at h
 | cons a l ih=>
  simp only[List.map_cons,List.sum_cons]
  rcases List.mem_cons.1 h with rfl|h
  . omega
  . have:=ih h;omega
theorem szS_len(l:List Term):l.length<=szS l:=by
 unfold szS
 induction l with
 | nil=>simp
 | cons a l ih=>simp only[List.map_cons,List.sum_cons,List.length_cons];omega
theorem key_at{n:Nat}{p:Str}:∀ {less:List Str} {j:Nat} {m:Str},p.length=n->(∀ x ∈ less,x.length=n)->less[j]? = some m->((p++less.flatten).take (n*(j+1)+n)).drop (n*(j+1))=m
 | [],j,m,_,_,h=>by simp at h
 | x :: less,0,m,hp,hl,h=>by
  simp at h
  subst h
  have hx:=hl x (by simp)
  rw[List.flatten_cons,<- List.append_assoc,show n*(0+1)+n=(p++x).length by simp[hp,hx]]
  rw[List.take_left',show n*(0+1)=p.length by simp[hp]]
  . exact List.drop_left' rfl
  . rfl
 | x :: less,j+1,m,hp,hl,h=>by
  have hx:=hl x (by simp)
  have ih:=key_at (p:=x) (less:=less) (j:=j) (m:=m) hx (fun y hy=>hl y (by simp[hy])) (by simpa using h)
  rw[List.flatten_cons]
  have e1:n*(j+1+1)=p.length+n*(j+1):=by rw[hp,Nat.mul_add n (j+1) 1];omega
  rw[e1,Nat.add_assoc,List.take_append]
  rw[tkL0 (by omega),show p.length+(n*(j+1)+n) - p.length=n*(j+1)+n by omega,List.drop_append,List.drop_of_length_le (by omega),List.nil_append,
   show p.length+n*(j+1) - p.length=n*(j+1) by omega]
  exact ih
theorem key_head{n:Nat}{p:Str}{less:List Str}(hp:p.length=n):(p++less.flatten).take n=p:=List.take_left' hp
theorem key_len{n:Nat}{p:Str}{less:List Str}(hp:p.length=n)(h:∀ x ∈ less,x.length=n):(p++less.flatten).length=n*(less.length+1):=by
 rw[List.length_append,hp,Nat.mul_add,Nat.mul_one,Nat.add_comm]
 congr 1
 induction less with
 | nil=>simp
 | cons x l ih=>
  have:=ih fun y hy=>h y (by simp[hy])
  rw[List.flatten_cons,List.length_append,h x (by simp),this,List.length_cons,Nat.mul_add]
  omega
end Go.Proofs.YtcglkonooeddfaaGreatDoor
namespace Go.Proofs.YtcglkonooeddfaaGreatDoor
open Go Go.Vx
def T:Tab:=fun t=>match t with
 | 3=>some ⟨1,8,.int .i64,[.i .i64 0]⟩
 | 4=>some ⟨1,1,.bool,[.ff]⟩
 | 5=>some ⟨1,1,.int .u8,[.i .u8 0]⟩
 | 9=>some ⟨1,16,.str,[.s []]⟩
 | 20=>some ⟨1,16,.other,[.nilI]⟩
 | 22=>some ⟨1,24,.slice 127,[.nilS]⟩
 | 23=>some ⟨1,24,.slice 87,[.nilS]⟩
 | 24=>some ⟨1,24,.slice 91,[.nilS]⟩
 | 25=>some ⟨1,24,.slice 54,[.nilS]⟩
 | 27=>some ⟨7,136,.struct [(0,9),(1,22),(2,9),(3,4),(4,23),(5,24),(6,25)],[.s [],.nilS,.s [],.ff,.nilS,.nilS,.nilS]⟩
 | 30=>some ⟨1,24,.slice 41,[.nilS]⟩
 | 31=>some ⟨1,24,.slice 36,[.nilS]⟩
 | 32=>some ⟨1,24,.slice 89,[.nilS]⟩
 | 33=>some ⟨1,24,.slice 97,[.nilS]⟩
 | 34=>some ⟨1,24,.slice 3,[.nilS]⟩
 | 36=>some ⟨3,72,.struct [(0,32),(1,33),(2,34)],[.nilS,.nilS,.nilS]⟩
 | 41=>some ⟨7,152,.struct [(0,36),(3,36),(6,3)],[.nilS,.nilS,.nilS,.nilS,.nilS,.nilS,.i .i64 0]⟩
 | 51=>some ⟨1,24,.slice 9,[.nilS]⟩
 | 52=>some ⟨1,24,.slice 219,[.nilS]⟩
 | 54=>some ⟨3,64,.struct [(0,9),(1,51),(2,52)],[.s [],.nilS,.nilS]⟩
 | 56=>some ⟨2,40,.struct [(0,34),(1,9)],[.nilS,.s []]⟩
 | 57=>some ⟨1,8,.int .i64,[.i .i64 0]⟩
 | 64=>some ⟨1,24,.slice 142,[.nilS]⟩
 | 66=>some ⟨2,32,.struct [(0,3),(1,64)],[.i .i64 0,.nilS]⟩
 | 76=>some ⟨1,8,.other,[.nilF]⟩
 | 83=>some ⟨1,24,.slice 112,[.nilS]⟩
 | 84=>some ⟨1,24,.slice 115,[.nilS]⟩
 | 85=>some ⟨1,24,.slice 246,[.nilS]⟩
 | 87=>some ⟨7,160,.struct [(0,9),(1,51),(2,51),(3,83),(4,84),(5,85),(6,85)],[.s [],.nilS,.nilS,.nilS,.nilS,.nilS,.nilS]⟩
 | 89=>some ⟨4,40,.struct [(0,9),(1,3),(2,4),(3,3)],[.s [],.i .i64 0,.ff,.i .i64 0]⟩
 | 91=>some ⟨3,40,.struct [(0,9),(1,9),(2,3)],[.s [],.s [],.i .i64 0]⟩
 | 97=>some ⟨4,32,.struct [(0,3),(1,3),(2,3),(3,3)],[.i .i64 0,.i .i64 0,.i .i64 0,.i .i64 0]⟩
 | 100=>some ⟨1,8,.ptr 27,[.nilP]⟩
 | 112=>some ⟨3,48,.struct [(0,9),(1,4),(2,52)],[.s [],.ff,.nilS]⟩
 | 113=>some ⟨1,24,.slice 243,[.nilS]⟩
 | 115=>some ⟨5,104,.struct [(0,3),(1,51),(2,52),(3,113),(4,51)],[.i .i64 0,.nilS,.nilS,.nilS,.nilS]⟩
 | 119=>some ⟨1,24,.slice 160,[.nilS]⟩
 | 120=>some ⟨1,8,.other,[.u]⟩
 | 127=>some ⟨2,24,.struct [(0,9),(1,3)],[.s [],.i .i64 0]⟩
 | 128=>some ⟨1,24,.slice 5,[.nilS]⟩
 | 131=>some ⟨1,24,.slice 133,[.nilS]⟩
 | 133=>some ⟨1,24,.slice 138,[.nilS]⟩
 | 134=>some ⟨1,8,.int .u64,[.i .u64 0]⟩
 | 136=>some ⟨4,32,.array 4 134,[.i .u64 0,.i .u64 0,.i .u64 0,.i .u64 0]⟩
 | 138=>some ⟨9,72,.struct [(0,3),(1,136),(5,136)],[.i .i64 0,.i .u64 0,.i .u64 0,.i .u64 0,.i .u64 0,.i .u64 0,.i .u64 0,.i .u64 0,.i .u64 0]⟩
 | 142=>some ⟨11,112,.struct [(0,138),(9,133),(10,9)],[.i .i64 0,.i .u64 0,.i .u64 0,.i .u64 0,.i .u64 0,.i .u64 0,.i .u64 0,.i .u64 0,.i .u64 0,.nilS,.s []]⟩
 | 147=>some ⟨1,16,.other,[.nilI]⟩
 | 154=>some ⟨2,48,.struct [(0,22),(1,34)],[.nilS,.nilS]⟩
 | 156=>some ⟨1,24,.slice 76,[.nilS]⟩
 | 160=>some ⟨2,16,.struct [(0,3),(1,4)],[.i .i64 0,.ff]⟩
 | 161=>some ⟨1,8,.other,[.u]⟩
 | 166=>some ⟨1,8,.ptr 87,[.nilP]⟩
 | 170=>some ⟨1,24,.slice 252,[.nilS]⟩
 | 172=>some ⟨2,32,.struct [(0,3),(1,170)],[.i .i64 0,.nilS]⟩
 | 187=>some ⟨1,8,.ptr 189,[.nilP]⟩
 | 189=>some ⟨2,32,.struct [(0,187),(1,128)],[.nilP,.nilS]⟩
 | 196=>some ⟨0,0,.struct [],[]⟩
 | 203=>some ⟨1,8,.other,[.nilF]⟩
 | 204=>some ⟨1,24,.slice 206,[.nilS]⟩
 | 206=>some ⟨10,88,.struct [(0,138),(9,9)],[.i .i64 0,.i .u64 0,.i .u64 0,.i .u64 0,.i .u64 0,.i .u64 0,.i .u64 0,.i .u64 0,.i .u64 0,.s []]⟩
 | 208=>some ⟨1,8,.other,[.nilF]⟩
 | 210=>some ⟨1,8,.other,[.nilF]⟩
 | 217=>some ⟨7,72,.struct [(0,9),(1,3),(2,3),(3,3),(4,3),(5,3),(6,9)],[.s [],.i .i64 0,.i .i64 0,.i .i64 0,.i .i64 0,.i .i64 0,.s []]⟩
 | 219=>some ⟨8,80,.struct [(0,3),(1,217)],[.i .i64 0,.s [],.i .i64 0,.i .i64 0,.i .i64 0,.i .i64 0,.i .i64 0,.s []]⟩
 | 234=>some ⟨3,32,.struct [(0,3),(1,3),(2,9)],[.i .i64 0,.i .i64 0,.s []]⟩
 | 235=>some ⟨1,24,.slice 234,[.nilS]⟩
 | 238=>some ⟨9,176,.struct [(0,100),(1,87),(8,120)],[.nilP,.s [],.nilS,.nilS,.nilS,.nilS,.nilS,.nilS,.u]⟩
 | 243=>some ⟨2,24,.struct [(0,9),(1,3)],[.s [],.i .i64 0]⟩
 | 246=>some ⟨3,32,.struct [(0,3),(1,3),(2,9)],[.i .i64 0,.i .i64 0,.s []]⟩
 | 247=>some ⟨1,24,.slice 172,[.nilS]⟩
 | 252=>some ⟨2,40,.struct [(0,9),(1,51)],[.s [],.nilS]⟩
 | 265=>some ⟨1,8,.ptr 136,[.nilP]⟩
 | 280=>some ⟨1,24,.slice 147,[.nilS]⟩
 | 282=>some ⟨1,1,.struct [(0,4)],[.ff]⟩
 | 284=>some ⟨7,72,.struct [(0,217)],[.s [],.i .i64 0,.i .i64 0,.i .i64 0,.i .i64 0,.i .i64 0,.s []]⟩
 | 286=>some ⟨1,16,.struct [(0,147)],[.nilI]⟩
 | 288=>some ⟨2,32,.struct [(0,147),(1,147)],[.nilI,.nilI]⟩
 | 290=>some ⟨2,32,.struct [(0,288)],[.nilI,.nilI]⟩
 | 291=>some ⟨2,32,.struct [(0,288)],[.nilI,.nilI]⟩
 | 301=>some ⟨26,416,.array 26 9,[.s [],.s [],.s [],.s [],.s [],.s [],.s [],.s [],.s [],.s [],.s [],.s [],.s [],.s [],.s [],.s [],.s [],.s [],.s [],.s [],.s [],.s [],.s [],.s [],.s [],.s []]⟩
 | 303=>some ⟨3,32,.struct [(0,9),(1,3),(2,3)],[.s [],.i .i64 0,.i .i64 0]⟩
 | 347=>some ⟨4,4,.struct [(0,4),(1,4),(2,4),(3,4)],[.ff,.ff,.ff,.ff]⟩
 | 348=>some ⟨20,20,.array 5 347,[.ff,.ff,.ff,.ff,.ff,.ff,.ff,.ff,.ff,.ff,.ff,.ff,.ff,.ff,.ff,.ff,.ff,.ff,.ff,.ff]⟩
 | 356=>some ⟨1,24,.slice 303,[.nilS]⟩
 | _=>none
theorem good3:Vx.Good Tryz.prog 3 ⟨1,8,.int .i64,[.i .i64 0]⟩:=
 ⟨⟨Tryz.t3,.int .i64 0,by kernel_rfl,rfl,rfl,rfl,rfl,rfl,by simp[Value.cells,Value.oneCell']⟩,Tryz.underlying3,fun w=>Tryz.isAgg3 w,by decide⟩
theorem good4:Vx.Good Tryz.prog 4 ⟨1,1,.bool,[.ff]⟩:=
 ⟨⟨Tryz.t4,.bool false,by kernel_rfl,rfl,rfl,rfl,rfl,rfl,by simp[Value.cells,Value.oneCell']⟩,Tryz.underlying4,fun w=>Tryz.isAgg4 w,by decide⟩
theorem good5:Vx.Good Tryz.prog 5 ⟨1,1,.int .u8,[.i .u8 0]⟩:=
 ⟨⟨Tryz.t5,.int .u8 0,by kernel_rfl,rfl,rfl,rfl,rfl,rfl,by simp[Value.cells,Value.oneCell']⟩,Tryz.underlying5,fun w=>Tryz.isAgg5 w,by decide⟩
theorem good9:Vx.Good Tryz.prog 9 ⟨1,16,.str,[.s []]⟩:=
 ⟨⟨Tryz.t9,.string ⟨#[]⟩,by kernel_rfl,rfl,rfl,rfl,rfl,rfl,by simp[Value.cells,Value.oneCell']⟩,Tryz.underlying9,fun w=>Tryz.isAgg9 w,by decide⟩
theorem good20:Vx.Good Tryz.prog 20 ⟨1,16,.other,[.nilI]⟩:=
 ⟨⟨Tryz.t20,.nilIface,by kernel_rfl,rfl,rfl,rfl,rfl,rfl,by simp[Value.cells,Value.oneCell']⟩,trivial,fun w=>Tryz.isAgg20 w,by decide⟩
theorem good22:Vx.Good Tryz.prog 22 ⟨1,24,.slice 127,[.nilS]⟩:=
 ⟨⟨Tryz.t22,.slice none 0 0,by kernel_rfl,rfl,rfl,rfl,rfl,rfl,by simp[Value.cells,Value.oneCell']⟩,Tryz.underlying22,fun w=>Tryz.isAgg22 w,by decide⟩
theorem good23:Vx.Good Tryz.prog 23 ⟨1,24,.slice 87,[.nilS]⟩:=
 ⟨⟨Tryz.t23,.slice none 0 0,by kernel_rfl,rfl,rfl,rfl,rfl,rfl,by simp[Value.cells,Value.oneCell']⟩,Tryz.underlying23,fun w=>Tryz.isAgg23 w,by decide⟩
theorem good24:Vx.Good Tryz.prog 24 ⟨1,24,.slice 91,[.nilS]⟩:=
 ⟨⟨Tryz.t24,.slice none 0 0,by kernel_rfl,rfl,rfl,rfl,rfl,rfl,by simp[Value.cells,Value.oneCell']⟩,Tryz.underlying24,fun w=>Tryz.isAgg24 w,by decide⟩
theorem good25:Vx.Good Tryz.prog 25 ⟨1,24,.slice 54,[.nilS]⟩:=
 ⟨⟨Tryz.t25,.slice none 0 0,by kernel_rfl,rfl,rfl,rfl,rfl,rfl,by simp[Value.cells,Value.oneCell']⟩,Tryz.underlying25,fun w=>Tryz.isAgg25 w,by decide⟩
theorem good27:Vx.Good Tryz.prog 27 ⟨7,136,.struct [(0,9),(1,22),(2,9),(3,4),(4,23),(5,24),(6,25)],[.s [],.nilS,.s [],.ff,.nilS,.nilS,.nilS]⟩:=
 ⟨⟨Tryz.t27,.agg #[.string ⟨#[]⟩,.slice none 0 0,.string ⟨#[]⟩,.bool false,.slice none 0 0,.slice none 0 0,.slice none 0 0],by kernel_rfl,rfl,rfl,rfl,rfl,rfl,by simp[Value.cells,Value.oneCell']⟩,⟨_,Tryz.underlying27,rfl⟩,fun w=>Tryz.isAgg27 w,by decide⟩
theorem good30:Vx.Good Tryz.prog 30 ⟨1,24,.slice 41,[.nilS]⟩:=
 ⟨⟨Tryz.t30,.slice none 0 0,by kernel_rfl,rfl,rfl,rfl,rfl,rfl,by simp[Value.cells,Value.oneCell']⟩,Tryz.underlying30,fun w=>Tryz.isAgg30 w,by decide⟩
theorem good31:Vx.Good Tryz.prog 31 ⟨1,24,.slice 36,[.nilS]⟩:=
 ⟨⟨Tryz.t31,.slice none 0 0,by kernel_rfl,rfl,rfl,rfl,rfl,rfl,by simp[Value.cells,Value.oneCell']⟩,Tryz.underlying31,fun w=>Tryz.isAgg31 w,by decide⟩
theorem good32:Vx.Good Tryz.prog 32 ⟨1,24,.slice 89,[.nilS]⟩:=
 ⟨⟨Tryz.t32,.slice none 0 0,by kernel_rfl,rfl,rfl,rfl,rfl,rfl,by simp[Value.cells,Value.oneCell']⟩,Tryz.underlying32,fun w=>Tryz.isAgg32 w,by decide⟩
theorem good33:Vx.Good Tryz.prog 33 ⟨1,24,.slice 97,[.nilS]⟩:=
 ⟨⟨Tryz.t33,.slice none 0 0,by kernel_rfl,rfl,rfl,rfl,rfl,rfl,by simp[Value.cells,Value.oneCell']⟩,Tryz.underlying33,fun w=>Tryz.isAgg33 w,by decide⟩
theorem good34:Vx.Good Tryz.prog 34 ⟨1,24,.slice 3,[.nilS]⟩:=
 ⟨⟨Tryz.t34,.slice none 0 0,by kernel_rfl,rfl,rfl,rfl,rfl,rfl,by simp[Value.cells,Value.oneCell']⟩,Tryz.underlying34,fun w=>Tryz.isAgg34 w,by decide⟩
theorem good36:Vx.Good Tryz.prog 36 ⟨3,72,.struct [(0,32),(1,33),(2,34)],[.nilS,.nilS,.nilS]⟩:=
 ⟨⟨Tryz.t36,.agg #[.slice none 0 0,.slice none 0 0,.slice none 0 0],by kernel_rfl,rfl,rfl,rfl,rfl,rfl,by simp[Value.cells,Value.oneCell']⟩,⟨_,Tryz.underlying36,rfl⟩,fun w=>Tryz.isAgg36 w,by decide⟩
theorem good41:Vx.Good Tryz.prog 41 ⟨7,152,.struct [(0,36),(3,36),(6,3)],[.nilS,.nilS,.nilS,.nilS,.nilS,.nilS,.i .i64 0]⟩:=
 ⟨⟨Tryz.t41,.agg #[.slice none 0 0,.slice none 0 0,.slice none 0 0,.slice none 0 0,.slice none 0 0,.slice none 0 0,.int .i64 0],by kernel_rfl,rfl,rfl,rfl,rfl,rfl,by simp[Value.cells,Value.oneCell']⟩,⟨_,Tryz.underlying41,rfl⟩,fun w=>Tryz.isAgg41 w,by decide⟩
theorem good51:Vx.Good Tryz.prog 51 ⟨1,24,.slice 9,[.nilS]⟩:=
 ⟨⟨Tryz.t51,.slice none 0 0,by kernel_rfl,rfl,rfl,rfl,rfl,rfl,by simp[Value.cells,Value.oneCell']⟩,Tryz.underlying51,fun w=>Tryz.isAgg51 w,by decide⟩
theorem good52:Vx.Good Tryz.prog 52 ⟨1,24,.slice 219,[.nilS]⟩:=
 ⟨⟨Tryz.t52,.slice none 0 0,by kernel_rfl,rfl,rfl,rfl,rfl,rfl,by simp[Value.cells,Value.oneCell']⟩,Tryz.underlying52,fun w=>Tryz.isAgg52 w,by decide⟩
theorem good54:Vx.Good Tryz.prog 54 ⟨3,64,.struct [(0,9),(1,51),(2,52)],[.s [],.nilS,.nilS]⟩:=
 ⟨⟨Tryz.t54,.agg #[.string ⟨#[]⟩,.slice none 0 0,.slice none 0 0],by kernel_rfl,rfl,rfl,rfl,rfl,rfl,by simp[Value.cells,Value.oneCell']⟩,⟨_,Tryz.underlying54,rfl⟩,fun w=>Tryz.isAgg54 w,by decide⟩
theorem good56:Vx.Good Tryz.prog 56 ⟨2,40,.struct [(0,34),(1,9)],[.nilS,.s []]⟩:=
 ⟨⟨Tryz.t56,.agg #[.slice none 0 0,.string ⟨#[]⟩],by kernel_rfl,rfl,rfl,rfl,rfl,rfl,by simp[Value.cells,Value.oneCell']⟩,⟨_,Tryz.underlying56,rfl⟩,fun w=>Tryz.isAgg56 w,by decide⟩
theorem good57:Vx.Good Tryz.prog 57 ⟨1,8,.int .i64,[.i .i64 0]⟩:=
 ⟨⟨Tryz.t57,.int .i64 0,by kernel_rfl,rfl,rfl,rfl,rfl,rfl,by simp[Value.cells,Value.oneCell']⟩,Tryz.underlying57,fun w=>Tryz.isAgg57 w,by decide⟩
theorem good64:Vx.Good Tryz.prog 64 ⟨1,24,.slice 142,[.nilS]⟩:=
 ⟨⟨Tryz.t64,.slice none 0 0,by kernel_rfl,rfl,rfl,rfl,rfl,rfl,by simp[Value.cells,Value.oneCell']⟩,Tryz.underlying64,fun w=>Tryz.isAgg64 w,by decide⟩
theorem good66:Vx.Good Tryz.prog 66 ⟨2,32,.struct [(0,3),(1,64)],[.i .i64 0,.nilS]⟩:=
 ⟨⟨Tryz.t66,.agg #[.int .i64 0,.slice none 0 0],by kernel_rfl,rfl,rfl,rfl,rfl,rfl,by simp[Value.cells,Value.oneCell']⟩,⟨_,Tryz.underlying66,rfl⟩,fun w=>Tryz.isAgg66 w,by decide⟩
theorem good76:Vx.Good Tryz.prog 76 ⟨1,8,.other,[.nilF]⟩:=
 ⟨⟨Tryz.t76,.nilFunc,by kernel_rfl,rfl,rfl,rfl,rfl,rfl,by simp[Value.cells,Value.oneCell']⟩,trivial,fun w=>Tryz.isAgg76 w,by decide⟩
theorem good83:Vx.Good Tryz.prog 83 ⟨1,24,.slice 112,[.nilS]⟩:=
 ⟨⟨Tryz.t83,.slice none 0 0,by kernel_rfl,rfl,rfl,rfl,rfl,rfl,by simp[Value.cells,Value.oneCell']⟩,Tryz.underlying83,fun w=>Tryz.isAgg83 w,by decide⟩
theorem good84:Vx.Good Tryz.prog 84 ⟨1,24,.slice 115,[.nilS]⟩:=
 ⟨⟨Tryz.t84,.slice none 0 0,by kernel_rfl,rfl,rfl,rfl,rfl,rfl,by simp[Value.cells,Value.oneCell']⟩,Tryz.underlying84,fun w=>Tryz.isAgg84 w,by decide⟩
theorem good85:Vx.Good Tryz.prog 85 ⟨1,24,.slice 246,[.nilS]⟩:=
 ⟨⟨Tryz.t85,.slice none 0 0,by kernel_rfl,rfl,rfl,rfl,rfl,rfl,by simp[Value.cells,Value.oneCell']⟩,Tryz.underlying85,fun w=>Tryz.isAgg85 w,by decide⟩
theorem good87:Vx.Good Tryz.prog 87 ⟨7,160,.struct [(0,9),(1,51),(2,51),(3,83),(4,84),(5,85),(6,85)],[.s [],.nilS,.nilS,.nilS,.nilS,.nilS,.nilS]⟩:=
 ⟨⟨Tryz.t87,.agg #[.string ⟨#[]⟩,.slice none 0 0,.slice none 0 0,.slice none 0 0,.slice none 0 0,.slice none 0 0,.slice none 0 0],by kernel_rfl,rfl,rfl,rfl,rfl,rfl,by simp[Value.cells,Value.oneCell']⟩,⟨_,Tryz.underlying87,rfl⟩,fun w=>Tryz.isAgg87 w,by decide⟩
theorem good89:Vx.Good Tryz.prog 89 ⟨4,40,.struct [(0,9),(1,3),(2,4),(3,3)],[.s [],.i .i64 0,.ff,.i .i64 0]⟩:=
 ⟨⟨Tryz.t89,.agg #[.string ⟨#[]⟩,.int .i64 0,.bool false,.int .i64 0],by kernel_rfl,rfl,rfl,rfl,rfl,rfl,by simp[Value.cells,Value.oneCell']⟩,⟨_,Tryz.underlying89,rfl⟩,fun w=>Tryz.isAgg89 w,by decide⟩
theorem good91:Vx.Good Tryz.prog 91 ⟨3,40,.struct [(0,9),(1,9),(2,3)],[.s [],.s [],.i .i64 0]⟩:=
 ⟨⟨Tryz.t91,.agg #[.string ⟨#[]⟩,.string ⟨#[]⟩,.int .i64 0],by kernel_rfl,rfl,rfl,rfl,rfl,rfl,by simp[Value.cells,Value.oneCell']⟩,⟨_,Tryz.underlying91,rfl⟩,fun w=>Tryz.isAgg91 w,by decide⟩
theorem good97:Vx.Good Tryz.prog 97 ⟨4,32,.struct [(0,3),(1,3),(2,3),(3,3)],[.i .i64 0,.i .i64 0,.i .i64 0,.i .i64 0]⟩:=
 ⟨⟨Tryz.t97,.agg #[.int .i64 0,.int .i64 0,.int .i64 0,.int .i64 0],by kernel_rfl,rfl,rfl,rfl,rfl,rfl,by simp[Value.cells,Value.oneCell']⟩,⟨_,Tryz.underlying97,rfl⟩,fun w=>Tryz.isAgg97 w,by decide⟩
theorem good100:Vx.Good Tryz.prog 100 ⟨1,8,.ptr 27,[.nilP]⟩:=
 ⟨⟨Tryz.t100,.pointer none,by kernel_rfl,rfl,rfl,rfl,rfl,rfl,by simp[Value.cells,Value.oneCell']⟩,Tryz.underlying100,fun w=>Tryz.isAgg100 w,by decide⟩
theorem good112:Vx.Good Tryz.prog 112 ⟨3,48,.struct [(0,9),(1,4),(2,52)],[.s [],.ff,.nilS]⟩:=
 ⟨⟨Tryz.t112,.agg #[.string ⟨#[]⟩,.bool false,.slice none 0 0],by kernel_rfl,rfl,rfl,rfl,rfl,rfl,by simp[Value.cells,Value.oneCell']⟩,⟨_,Tryz.underlying112,rfl⟩,fun w=>Tryz.isAgg112 w,by decide⟩
theorem good113:Vx.Good Tryz.prog 113 ⟨1,24,.slice 243,[.nilS]⟩:=
 ⟨⟨Tryz.t113,.slice none 0 0,by kernel_rfl,rfl,rfl,rfl,rfl,rfl,by simp[Value.cells,Value.oneCell']⟩,Tryz.underlying113,fun w=>Tryz.isAgg113 w,by decide⟩
theorem good115:Vx.Good Tryz.prog 115 ⟨5,104,.struct [(0,3),(1,51),(2,52),(3,113),(4,51)],[.i .i64 0,.nilS,.nilS,.nilS,.nilS]⟩:=
 ⟨⟨Tryz.t115,.agg #[.int .i64 0,.slice none 0 0,.slice none 0 0,.slice none 0 0,.slice none 0 0],by kernel_rfl,rfl,rfl,rfl,rfl,rfl,by simp[Value.cells,Value.oneCell']⟩,⟨_,Tryz.underlying115,rfl⟩,fun w=>Tryz.isAgg115 w,by decide⟩
theorem good119:Vx.Good Tryz.prog 119 ⟨1,24,.slice 160,[.nilS]⟩:=
 ⟨⟨Tryz.t119,.slice none 0 0,by kernel_rfl,rfl,rfl,rfl,rfl,rfl,by simp[Value.cells,Value.oneCell']⟩,Tryz.underlying119,fun w=>Tryz.isAgg119 w,by decide⟩
theorem good120:Vx.Good Tryz.prog 120 ⟨1,8,.other,[.u]⟩:=
 ⟨⟨Tryz.t120,.map none,by kernel_rfl,rfl,rfl,rfl,rfl,rfl,by simp[Value.cells,Value.oneCell']⟩,trivial,fun w=>Tryz.isAgg120 w,by decide⟩
theorem good127:Vx.Good Tryz.prog 127 ⟨2,24,.struct [(0,9),(1,3)],[.s [],.i .i64 0]⟩:=
 ⟨⟨Tryz.t127,.agg #[.string ⟨#[]⟩,.int .i64 0],by kernel_rfl,rfl,rfl,rfl,rfl,rfl,by simp[Value.cells,Value.oneCell']⟩,⟨_,Tryz.underlying127,rfl⟩,fun w=>Tryz.isAgg127 w,by decide⟩
theorem good128:Vx.Good Tryz.prog 128 ⟨1,24,.slice 5,[.nilS]⟩:=
 ⟨⟨Tryz.t128,.slice none 0 0,by kernel_rfl,rfl,rfl,rfl,rfl,rfl,by simp[Value.cells,Value.oneCell']⟩,Tryz.underlying128,fun w=>Tryz.isAgg128 w,by decide⟩
theorem good131:Vx.Good Tryz.prog 131 ⟨1,24,.slice 133,[.nilS]⟩:=
 ⟨⟨Tryz.t131,.slice none 0 0,by kernel_rfl,rfl,rfl,rfl,rfl,rfl,by simp[Value.cells,Value.oneCell']⟩,Tryz.underlying131,fun w=>Tryz.isAgg131 w,by decide⟩
theorem good133:Vx.Good Tryz.prog 133 ⟨1,24,.slice 138,[.nilS]⟩:=
 ⟨⟨Tryz.t133,.slice none 0 0,by kernel_rfl,rfl,rfl,rfl,rfl,rfl,by simp[Value.cells,Value.oneCell']⟩,Tryz.underlying133,fun w=>Tryz.isAgg133 w,by decide⟩
theorem good134:Vx.Good Tryz.prog 134 ⟨1,8,.int .u64,[.i .u64 0]⟩:=
 ⟨⟨Tryz.t134,.int .u64 0,by kernel_rfl,rfl,rfl,rfl,rfl,rfl,by simp[Value.cells,Value.oneCell']⟩,Tryz.underlying134,fun w=>Tryz.isAgg134 w,by decide⟩
theorem good136:Vx.Good Tryz.prog 136 ⟨4,32,.array 4 134,[.i .u64 0,.i .u64 0,.i .u64 0,.i .u64 0]⟩:=
 ⟨⟨Tryz.t136,.agg #[.int .u64 0,.int .u64 0,.int .u64 0,.int .u64 0],by kernel_rfl,rfl,rfl,rfl,rfl,rfl,by simp[Value.cells,Value.oneCell']⟩,Tryz.underlying136,fun w=>Tryz.isAgg136 w,by decide⟩
theorem good138:Vx.Good Tryz.prog 138 ⟨9,72,.struct [(0,3),(1,136),(5,136)],[.i .i64 0,.i .u64 0,.i .u64 0,.i .u64 0,.i .u64 0,.i .u64 0,.i .u64 0,.i .u64 0,.i .u64 0]⟩:=
 ⟨⟨Tryz.t138,.agg #[.int .i64 0,.int .u64 0,.int .u64 0,.int .u64 0,.int .u64 0,.int .u64 0,.int .u64 0,.int .u64 0,.int .u64 0],by kernel_rfl,rfl,rfl,rfl,rfl,rfl,by simp[Value.cells,Value.oneCell']⟩,⟨_,Tryz.underlying138,rfl⟩,fun w=>Tryz.isAgg138 w,by decide⟩
theorem good142:Vx.Good Tryz.prog 142 ⟨11,112,.struct [(0,138),(9,133),(10,9)],[.i .i64 0,.i .u64 0,.i .u64 0,.i .u64 0,.i .u64 0,.i .u64 0,.i .u64 0,.i .u64 0,.i .u64 0,.nilS,.s []]⟩:=
 ⟨⟨Tryz.t142,.agg #[.int .i64 0,.int .u64 0,.int .u64 0,.int .u64 0,.int .u64 0,.int .u64 0,.int .u64 0,.int .u64 0,.int .u64 0,.slice none 0 0,.string ⟨#[]⟩],by kernel_rfl,rfl,rfl,rfl,rfl,rfl,by simp[Value.cells,Value.oneCell']⟩,⟨_,Tryz.underlying142,rfl⟩,fun w=>Tryz.isAgg142 w,by decide⟩
theorem good147:Vx.Good Tryz.prog 147 ⟨1,16,.other,[.nilI]⟩:=
 ⟨⟨Tryz.t147,.nilIface,by kernel_rfl,rfl,rfl,rfl,rfl,rfl,by simp[Value.cells,Value.oneCell']⟩,trivial,fun w=>Tryz.isAgg147 w,by decide⟩
theorem good154:Vx.Good Tryz.prog 154 ⟨2,48,.struct [(0,22),(1,34)],[.nilS,.nilS]⟩:=
 ⟨⟨Tryz.t154,.agg #[.slice none 0 0,.slice none 0 0],by kernel_rfl,rfl,rfl,rfl,rfl,rfl,by simp[Value.cells,Value.oneCell']⟩,⟨_,Tryz.underlying154,rfl⟩,fun w=>Tryz.isAgg154 w,by decide⟩
theorem good156:Vx.Good Tryz.prog 156 ⟨1,24,.slice 76,[.nilS]⟩:=
 ⟨⟨Tryz.t156,.slice none 0 0,by kernel_rfl,rfl,rfl,rfl,rfl,rfl,by simp[Value.cells,Value.oneCell']⟩,Tryz.underlying156,fun w=>Tryz.isAgg156 w,by decide⟩
theorem good160:Vx.Good Tryz.prog 160 ⟨2,16,.struct [(0,3),(1,4)],[.i .i64 0,.ff]⟩:=
 ⟨⟨Tryz.t160,.agg #[.int .i64 0,.bool false],by kernel_rfl,rfl,rfl,rfl,rfl,rfl,by simp[Value.cells,Value.oneCell']⟩,⟨_,Tryz.underlying160,rfl⟩,fun w=>Tryz.isAgg160 w,by decide⟩
theorem good161:Vx.Good Tryz.prog 161 ⟨1,8,.other,[.u]⟩:=
 ⟨⟨Tryz.t161,.map none,by kernel_rfl,rfl,rfl,rfl,rfl,rfl,by simp[Value.cells,Value.oneCell']⟩,trivial,fun w=>Tryz.isAgg161 w,by decide⟩
theorem good166:Vx.Good Tryz.prog 166 ⟨1,8,.ptr 87,[.nilP]⟩:=
 ⟨⟨Tryz.t166,.pointer none,by kernel_rfl,rfl,rfl,rfl,rfl,rfl,by simp[Value.cells,Value.oneCell']⟩,Tryz.underlying166,fun w=>Tryz.isAgg166 w,by decide⟩
theorem good170:Vx.Good Tryz.prog 170 ⟨1,24,.slice 252,[.nilS]⟩:=
 ⟨⟨Tryz.t170,.slice none 0 0,by kernel_rfl,rfl,rfl,rfl,rfl,rfl,by simp[Value.cells,Value.oneCell']⟩,Tryz.underlying170,fun w=>Tryz.isAgg170 w,by decide⟩
theorem good172:Vx.Good Tryz.prog 172 ⟨2,32,.struct [(0,3),(1,170)],[.i .i64 0,.nilS]⟩:=
 ⟨⟨Tryz.t172,.agg #[.int .i64 0,.slice none 0 0],by kernel_rfl,rfl,rfl,rfl,rfl,rfl,by simp[Value.cells,Value.oneCell']⟩,⟨_,Tryz.underlying172,rfl⟩,fun w=>Tryz.isAgg172 w,by decide⟩
theorem good187:Vx.Good Tryz.prog 187 ⟨1,8,.ptr 189,[.nilP]⟩:=
 ⟨⟨Tryz.t187,.pointer none,by kernel_rfl,rfl,rfl,rfl,rfl,rfl,by simp[Value.cells,Value.oneCell']⟩,Tryz.underlying187,fun w=>Tryz.isAgg187 w,by decide⟩
theorem good189:Vx.Good Tryz.prog 189 ⟨2,32,.struct [(0,187),(1,128)],[.nilP,.nilS]⟩:=
 ⟨⟨Tryz.t189,.agg #[.pointer none,.slice none 0 0],by kernel_rfl,rfl,rfl,rfl,rfl,rfl,by simp[Value.cells,Value.oneCell']⟩,⟨_,Tryz.underlying189,rfl⟩,fun w=>Tryz.isAgg189 w,by decide⟩
theorem good196:Vx.Good Tryz.prog 196 ⟨0,0,.struct [],[]⟩:=
 ⟨⟨Tryz.t196,.agg #[],by kernel_rfl,rfl,rfl,rfl,rfl,rfl,by simp[Value.cells,Value.oneCell']⟩,⟨_,Tryz.underlying196,rfl⟩,fun w=>Tryz.isAgg196 w,by decide⟩
theorem good203:Vx.Good Tryz.prog 203 ⟨1,8,.other,[.nilF]⟩:=
 ⟨⟨Tryz.t203,.nilFunc,by kernel_rfl,rfl,rfl,rfl,rfl,rfl,by simp[Value.cells,Value.oneCell']⟩,trivial,fun w=>Tryz.isAgg203 w,by decide⟩
theorem good204:Vx.Good Tryz.prog 204 ⟨1,24,.slice 206,[.nilS]⟩:=
 ⟨⟨Tryz.t204,.slice none 0 0,by kernel_rfl,rfl,rfl,rfl,rfl,rfl,by simp[Value.cells,Value.oneCell']⟩,Tryz.underlying204,fun w=>Tryz.isAgg204 w,by decide⟩
theorem good206:Vx.Good Tryz.prog 206 ⟨10,88,.struct [(0,138),(9,9)],[.i .i64 0,.i .u64 0,.i .u64 0,.i .u64 0,.i .u64 0,.i .u64 0,.i .u64 0,.i .u64 0,.i .u64 0,.s []]⟩:=
 ⟨⟨Tryz.t206,.agg #[.int .i64 0,.int .u64 0,.int .u64 0,.int .u64 0,.int .u64 0,.int .u64 0,.int .u64 0,.int .u64 0,.int .u64 0,.string ⟨#[]⟩],by kernel_rfl,rfl,rfl,rfl,rfl,rfl,by simp[Value.cells,Value.oneCell']⟩,⟨_,Tryz.underlying206,rfl⟩,fun w=>Tryz.isAgg206 w,by decide⟩
theorem good208:Vx.Good Tryz.prog 208 ⟨1,8,.other,[.nilF]⟩:=
 ⟨⟨Tryz.t208,.nilFunc,by kernel_rfl,rfl,rfl,rfl,rfl,rfl,by simp[Value.cells,Value.oneCell']⟩,trivial,fun w=>Tryz.isAgg208 w,by decide⟩
theorem good210:Vx.Good Tryz.prog 210 ⟨1,8,.other,[.nilF]⟩:=
 ⟨⟨Tryz.t210,.nilFunc,by kernel_rfl,rfl,rfl,rfl,rfl,rfl,by simp[Value.cells,Value.oneCell']⟩,trivial,fun w=>Tryz.isAgg210 w,by decide⟩
theorem good217:Vx.Good Tryz.prog 217 ⟨7,72,.struct [(0,9),(1,3),(2,3),(3,3),(4,3),(5,3),(6,9)],[.s [],.i .i64 0,.i .i64 0,.i .i64 0,.i .i64 0,.i .i64 0,.s []]⟩:=
 ⟨⟨Tryz.t217,.agg #[.string ⟨#[]⟩,.int .i64 0,.int .i64 0,.int .i64 0,.int .i64 0,.int .i64 0,.string ⟨#[]⟩],by kernel_rfl,rfl,rfl,rfl,rfl,rfl,by simp[Value.cells,Value.oneCell']⟩,⟨_,Tryz.underlying217,rfl⟩,fun w=>Tryz.isAgg217 w,by decide⟩
theorem good219:Vx.Good Tryz.prog 219 ⟨8,80,.struct [(0,3),(1,217)],[.i .i64 0,.s [],.i .i64 0,.i .i64 0,.i .i64 0,.i .i64 0,.i .i64 0,.s []]⟩:=
 ⟨⟨Tryz.t219,.agg #[.int .i64 0,.string ⟨#[]⟩,.int .i64 0,.int .i64 0,.int .i64 0,.int .i64 0,.int .i64 0,.string ⟨#[]⟩],by kernel_rfl,rfl,rfl,rfl,rfl,rfl,by simp[Value.cells,Value.oneCell']⟩,⟨_,Tryz.underlying219,rfl⟩,fun w=>Tryz.isAgg219 w,by decide⟩
theorem good234:Vx.Good Tryz.prog 234 ⟨3,32,.struct [(0,3),(1,3),(2,9)],[.i .i64 0,.i .i64 0,.s []]⟩:=
 ⟨⟨Tryz.t234,.agg #[.int .i64 0,.int .i64 0,.string ⟨#[]⟩],by kernel_rfl,rfl,rfl,rfl,rfl,rfl,by simp[Value.cells,Value.oneCell']⟩,⟨_,Tryz.underlying234,rfl⟩,fun w=>Tryz.isAgg234 w,by decide⟩
theorem good235:Vx.Good Tryz.prog 235 ⟨1,24,.slice 234,[.nilS]⟩:=
 ⟨⟨Tryz.t235,.slice none 0 0,by kernel_rfl,rfl,rfl,rfl,rfl,rfl,by simp[Value.cells,Value.oneCell']⟩,Tryz.underlying235,fun w=>Tryz.isAgg235 w,by decide⟩
theorem good238:Vx.Good Tryz.prog 238 ⟨9,176,.struct [(0,100),(1,87),(8,120)],[.nilP,.s [],.nilS,.nilS,.nilS,.nilS,.nilS,.nilS,.u]⟩:=
 ⟨⟨Tryz.t238,.agg #[.pointer none,.string ⟨#[]⟩,.slice none 0 0,.slice none 0 0,.slice none 0 0,.slice none 0 0,.slice none 0 0,.slice none 0 0,.map none],by kernel_rfl,rfl,rfl,rfl,rfl,rfl,by simp[Value.cells,Value.oneCell']⟩,⟨_,Tryz.underlying238,rfl⟩,fun w=>Tryz.isAgg238 w,by decide⟩
theorem good243:Vx.Good Tryz.prog 243 ⟨2,24,.struct [(0,9),(1,3)],[.s [],.i .i64 0]⟩:=
 ⟨⟨Tryz.t243,.agg #[.string ⟨#[]⟩,.int .i64 0],by kernel_rfl,rfl,rfl,rfl,rfl,rfl,by simp[Value.cells,Value.oneCell']⟩,⟨_,Tryz.underlying243,rfl⟩,fun w=>Tryz.isAgg243 w,by decide⟩
theorem good246:Vx.Good Tryz.prog 246 ⟨3,32,.struct [(0,3),(1,3),(2,9)],[.i .i64 0,.i .i64 0,.s []]⟩:=
 ⟨⟨Tryz.t246,.agg #[.int .i64 0,.int .i64 0,.string ⟨#[]⟩],by kernel_rfl,rfl,rfl,rfl,rfl,rfl,by simp[Value.cells,Value.oneCell']⟩,⟨_,Tryz.underlying246,rfl⟩,fun w=>Tryz.isAgg246 w,by decide⟩
theorem good247:Vx.Good Tryz.prog 247 ⟨1,24,.slice 172,[.nilS]⟩:=
 ⟨⟨Tryz.t247,.slice none 0 0,by kernel_rfl,rfl,rfl,rfl,rfl,rfl,by simp[Value.cells,Value.oneCell']⟩,Tryz.underlying247,fun w=>Tryz.isAgg247 w,by decide⟩
theorem good252:Vx.Good Tryz.prog 252 ⟨2,40,.struct [(0,9),(1,51)],[.s [],.nilS]⟩:=
 ⟨⟨Tryz.t252,.agg #[.string ⟨#[]⟩,.slice none 0 0],by kernel_rfl,rfl,rfl,rfl,rfl,rfl,by simp[Value.cells,Value.oneCell']⟩,⟨_,Tryz.underlying252,rfl⟩,fun w=>Tryz.isAgg252 w,by decide⟩
theorem good265:Vx.Good Tryz.prog 265 ⟨1,8,.ptr 136,[.nilP]⟩:=
 ⟨⟨Tryz.t265,.pointer none,by kernel_rfl,rfl,rfl,rfl,rfl,rfl,by simp[Value.cells,Value.oneCell']⟩,Tryz.underlying265,fun w=>Tryz.isAgg265 w,by decide⟩
theorem good280:Vx.Good Tryz.prog 280 ⟨1,24,.slice 147,[.nilS]⟩:=
 ⟨⟨Tryz.t280,.slice none 0 0,by kernel_rfl,rfl,rfl,rfl,rfl,rfl,by simp[Value.cells,Value.oneCell']⟩,Tryz.underlying280,fun w=>Tryz.isAgg280 w,by decide⟩
theorem good282:Vx.Good Tryz.prog 282 ⟨1,1,.struct [(0,4)],[.ff]⟩:=
 ⟨⟨Tryz.t282,.agg #[.bool false],by kernel_rfl,rfl,rfl,rfl,rfl,rfl,by simp[Value.cells,Value.oneCell']⟩,⟨_,Tryz.underlying282,rfl⟩,fun w=>Tryz.isAgg282 w,by decide⟩
theorem good284:Vx.Good Tryz.prog 284 ⟨7,72,.struct [(0,217)],[.s [],.i .i64 0,.i .i64 0,.i .i64 0,.i .i64 0,.i .i64 0,.s []]⟩:=
 ⟨⟨Tryz.t284,.agg #[.string ⟨#[]⟩,.int .i64 0,.int .i64 0,.int .i64 0,.int .i64 0,.int .i64 0,.string ⟨#[]⟩],by kernel_rfl,rfl,rfl,rfl,rfl,rfl,by simp[Value.cells,Value.oneCell']⟩,⟨_,Tryz.underlying284,rfl⟩,fun w=>Tryz.isAgg284 w,by decide⟩
theorem good286:Vx.Good Tryz.prog 286 ⟨1,16,.struct [(0,147)],[.nilI]⟩:=
 ⟨⟨Tryz.t286,.agg #[.nilIface],by kernel_rfl,rfl,rfl,rfl,rfl,rfl,by simp[Value.cells,Value.oneCell']⟩,⟨_,Tryz.underlying286,rfl⟩,fun w=>Tryz.isAgg286 w,by decide⟩
theorem good288:Vx.Good Tryz.prog 288 ⟨2,32,.struct [(0,147),(1,147)],[.nilI,.nilI]⟩:=
 ⟨⟨Tryz.t288,.agg #[.nilIface,.nilIface],by kernel_rfl,rfl,rfl,rfl,rfl,rfl,by simp[Value.cells,Value.oneCell']⟩,⟨_,Tryz.underlying288,rfl⟩,fun w=>Tryz.isAgg288 w,by decide⟩
theorem good290:Vx.Good Tryz.prog 290 ⟨2,32,.struct [(0,288)],[.nilI,.nilI]⟩:=
 ⟨⟨Tryz.t290,.agg #[.nilIface,.nilIface],by kernel_rfl,rfl,rfl,rfl,rfl,rfl,by simp[Value.cells,Value.oneCell']⟩,⟨_,Tryz.underlying290,rfl⟩,fun w=>Tryz.isAgg290 w,by decide⟩
theorem good291:Vx.Good Tryz.prog 291 ⟨2,32,.struct [(0,288)],[.nilI,.nilI]⟩:=
 ⟨⟨Tryz.t291,.agg #[.nilIface,.nilIface],by kernel_rfl,rfl,rfl,rfl,rfl,rfl,by simp[Value.cells,Value.oneCell']⟩,⟨_,Tryz.underlying291,rfl⟩,fun w=>Tryz.isAgg291 w,by decide⟩
theorem good301:Vx.Good Tryz.prog 301 ⟨26,416,.array 26 9,[.s [],.s [],.s [],.s [],.s [],.s [],.s [],.s [],.s [],.s [],.s [],.s [],.s [],.s [],.s [],.s [],.s [],.s [],.s [],.s [],.s [],.s [],.s [],.s [],.s [],.s []]⟩:=
 ⟨⟨Tryz.t301,.agg #[.string ⟨#[]⟩,.string ⟨#[]⟩,.string ⟨#[]⟩,.string ⟨#[]⟩,.string ⟨#[]⟩,.string ⟨#[]⟩,.string ⟨#[]⟩,.string ⟨#[]⟩,.string ⟨#[]⟩,.string ⟨#[]⟩,.string ⟨#[]⟩,.string ⟨#[]⟩,.string ⟨#[]⟩,.string ⟨#[]⟩,.string ⟨#[]⟩,.string ⟨#[]⟩,.string ⟨#[]⟩,.string ⟨#[]⟩,.string ⟨#[]⟩,.string ⟨#[]⟩,.string ⟨#[]⟩,.string ⟨#[]⟩,.string ⟨#[]⟩,.string ⟨#[]⟩,.string ⟨#[]⟩,.string ⟨#[]⟩],by kernel_rfl,rfl,rfl,rfl,rfl,rfl,by simp[Value.cells,Value.oneCell']⟩,Tryz.underlying301,fun w=>Tryz.isAgg301 w,by decide⟩
theorem good303:Vx.Good Tryz.prog 303 ⟨3,32,.struct [(0,9),(1,3),(2,3)],[.s [],.i .i64 0,.i .i64 0]⟩:=
 ⟨⟨Tryz.t303,.agg #[.string ⟨#[]⟩,.int .i64 0,.int .i64 0],by kernel_rfl,rfl,rfl,rfl,rfl,rfl,by simp[Value.cells,Value.oneCell']⟩,⟨_,Tryz.underlying303,rfl⟩,fun w=>Tryz.isAgg303 w,by decide⟩
theorem good347:Vx.Good Tryz.prog 347 ⟨4,4,.struct [(0,4),(1,4),(2,4),(3,4)],[.ff,.ff,.ff,.ff]⟩:=
 ⟨⟨Tryz.t347,.agg #[.bool false,.bool false,.bool false,.bool false],by kernel_rfl,rfl,rfl,rfl,rfl,rfl,by simp[Value.cells,Value.oneCell']⟩,⟨_,Tryz.underlying347,rfl⟩,fun w=>Tryz.isAgg347 w,by decide⟩
theorem good348:Vx.Good Tryz.prog 348 ⟨20,20,.array 5 347,[.ff,.ff,.ff,.ff,.ff,.ff,.ff,.ff,.ff,.ff,.ff,.ff,.ff,.ff,.ff,.ff,.ff,.ff,.ff,.ff]⟩:=
 ⟨⟨Tryz.t348,.agg #[.bool false,.bool false,.bool false,.bool false,.bool false,.bool false,.bool false,.bool false,.bool false,.bool false,.bool false,.bool false,.bool false,.bool false,.bool false,.bool false,.bool false,.bool false,.bool false,.bool false],by kernel_rfl,rfl,rfl,rfl,rfl,rfl,by simp[Value.cells,Value.oneCell']⟩,Tryz.underlying348,fun w=>Tryz.isAgg348 w,by decide⟩
theorem good356:Vx.Good Tryz.prog 356 ⟨1,24,.slice 303,[.nilS]⟩:=
 ⟨⟨Tryz.t356,.slice none 0 0,by kernel_rfl,rfl,rfl,rfl,rfl,rfl,by simp[Value.cells,Value.oneCell']⟩,Tryz.underlying356,fun w=>Tryz.isAgg356 w,by decide⟩
theorem tok:TOk Tryz.prog T:=by
 intro t ti h
 unfold T at h
 split at h
 . cases h;exact good3
 . cases h;exact good4
 . cases h;exact good5
 . cases h;exact good9
 . cases h;exact good20
 . cases h;exact good22
 . cases h;exact good23
 . cases h;exact good24
 . cases h;exact good25
 . cases h;exact good27
 . cases h;exact good30
 . cases h;exact good31
 . cases h;exact good32
 . cases h;exact good33
 . cases h;exact good34
 . cases h;exact good36
 . cases h;exact good41
 . cases h;exact good51
 . cases h;exact good52
 . cases h;exact good54
 . cases h;exact good56
 . cases h;exact good57
 . cases h;exact good64
 . cases h;exact good66
 . cases h;exact good76
 . cases h;exact good83
 . cases h;exact good84
 . cases h;exact good85
 . cases h;exact good87
 . cases h;exact good89
 . cases h;exact good91
 . cases h;exact good97
 . cases h;exact good100
 . cases h;exact good112
 . cases h;exact good113
 . cases h;exact good115
 . cases h;exact good119
 . cases h;exact good120
 . cases h;exact good127
 . cases h;exact good128
 . cases h;exact good131
 . cases h;exact good133
 . cases h;exact good134
 . cases h;exact good136
 . cases h;exact good138
 . cases h;exact good142
 . cases h;exact good147
 . cases h;exact good154
 . cases h;exact good156
 . cases h;exact good160
 . cases h;exact good161
 . cases h;exact good166
 . cases h;exact good170
 . cases h;exact good172
 . cases h;exact good187
 . cases h;exact good189
 . cases h;exact good196
 . cases h;exact good203
 . cases h;exact good204
 . cases h;exact good206
 . cases h;exact good208
 . cases h;exact good210
 . cases h;exact good217
 . cases h;exact good219
 . cases h;exact good234
 . cases h;exact good235
 . cases h;exact good238
 . cases h;exact good243
 . cases h;exact good246
 . cases h;exact good247
 . cases h;exact good252
 . cases h;exact good265
 . cases h;exact good280
 . cases h;exact good282
 . cases h;exact good284
 . cases h;exact good286
 . cases h;exact good288
 . cases h;exact good290
 . cases h;exact good291
 . cases h;exact good301
 . cases h;exact good303
 . cases h;exact good347
 . cases h;exact good348
 . cases h;exact good356
 . cases h
theorem follows:Tryz.prog.follows .mixedOrders=true:=by kernel_rfl
end Go.Proofs.YtcglkonooeddfaaGreatDoor
namespace Go.Proofs
open Go.Shelf
def Tryz.vxSort_ren:Go.Shelf.Ren:=⟨fun|6=>112|10=>168|11=>169|12=>170|13=>171|14=>172|24=>226|25=>227|26=>228|27=>229|28=>230|29=>231|30=>232|31=>233|32=>234|33=>235|34=>273|35=>274|36=>275|37=>276|38=>277|39=>300|n=>n,fun|20=>20|26=>208|35=>271|0=>0|37=>273|3=>3|41=>276|44=>279|49=>337|51=>134|4=>4|54=>341|53=>340|58=>125|5=>5|9=>9|60=>373|64=>377|66=>398|67=>224|17=>17|32=>268|33=>269|82=>425|12=>12|75=>419|76=>420|77=>421|78=>262|79=>422|80=>423|n=>n,fun|n=>n⟩
theorem Tryz.vxSort:Go.Proofs.LaysGg.n6 Tryz.prog Tryz.vxSort_ren:={
 mixed:=by kernel_rfl
 f6:=Tryz.func112.trans (congrArg some (by kernel_rfl))
 f10:=Tryz.func168.trans (congrArg some (by kernel_rfl))
 f11:=Tryz.func169.trans (congrArg some (by kernel_rfl))
 f12:=Tryz.func170.trans (congrArg some (by kernel_rfl))
 f13:=Tryz.func171.trans (congrArg some (by kernel_rfl))
 f14:=Tryz.func172.trans (congrArg some (by kernel_rfl))
 f24:=Tryz.func226.trans (congrArg some (by kernel_rfl))
 f25:=Tryz.func227.trans (congrArg some (by kernel_rfl))
 f26:=Tryz.func228.trans (congrArg some (by kernel_rfl))
 f27:=Tryz.func229.trans (congrArg some (by kernel_rfl))
 f28:=Tryz.func230.trans (congrArg some (by kernel_rfl))
 f29:=Tryz.func231.trans (congrArg some (by kernel_rfl))
 f30:=Tryz.func232.trans (congrArg some (by kernel_rfl))
 f31:=Tryz.func233.trans (congrArg some (by kernel_rfl))
 f32:=Tryz.func234.trans (congrArg some (by kernel_rfl))
 f33:=Tryz.func235.trans (congrArg some (by kernel_rfl))
 f34:=Tryz.func273.trans (congrArg some (by kernel_rfl))
 f35:=Tryz.func274.trans (congrArg some (by kernel_rfl))
 f36:=Tryz.func275.trans (congrArg some (by kernel_rfl))
 f37:=Tryz.func276.trans (congrArg some (by kernel_rfl))
 f38:=Tryz.func277.trans (congrArg some (by kernel_rfl))
 f39:=Tryz.func300.trans (congrArg some (by kernel_rfl))
 t0:=Tryz.underlying0
 a0:=Tryz.isAgg0
 z0:=Tryz.sizeOf0
 v0:=Tryz.zeroValue0
 i0:=by kernel_rfl
 t3:=Tryz.underlying3
 a3:=Tryz.isAgg3
 z3:=Tryz.sizeOf3
 v3:=Tryz.zeroValue3
 i3:=by kernel_rfl
 t4:=Tryz.underlying4
 a4:=Tryz.isAgg4
 z4:=Tryz.sizeOf4
 v4:=Tryz.zeroValue4
 i4:=by kernel_rfl
 t5:=Tryz.underlying5
 a5:=Tryz.isAgg5
 z5:=Tryz.sizeOf5
 v5:=Tryz.zeroValue5
 i5:=by kernel_rfl
 t9:=Tryz.underlying9
 a9:=Tryz.isAgg9
 z9:=Tryz.sizeOf9
 v9:=Tryz.zeroValue9
 i9:=by kernel_rfl
 t12:=Tryz.underlying12
 a12:=Tryz.isAgg12
 z12:=Tryz.sizeOf12
 v12:=Tryz.zeroValue12
 i12:=by kernel_rfl
 t17:=Tryz.underlying17
 a17:=Tryz.isAgg17
 z17:=Tryz.sizeOf17
 v17:=Tryz.zeroValue17
 i17:=by kernel_rfl
 t20:=Tryz.underlying20
 a20:=Tryz.isAgg20
 z20:=Tryz.sizeOf20
 v20:=Tryz.zeroValue20
 i20:=by kernel_rfl
 t26:=Tryz.underlying208
 a26:=Tryz.isAgg208
 z26:=Tryz.sizeOf208
 v26:=Tryz.zeroValue208
 i26:=by kernel_rfl
 t32:=Tryz.underlying268
 a32:=Tryz.isAgg268
 z32:=Tryz.sizeOf268
 v32:=Tryz.zeroValue268
 i32:=by kernel_rfl
 t33:=Tryz.underlying269
 a33:=Tryz.isAgg269
 z33:=Tryz.sizeOf269
 v33:=Tryz.zeroValue269
 i33:=by kernel_rfl
 t35:=Tryz.underlying271
 a35:=Tryz.isAgg271
 z35:=Tryz.sizeOf271
 v35:=Tryz.zeroValue271
 i35:=by kernel_rfl
 t37:=Tryz.underlying273
 a37:=Tryz.isAgg273
 z37:=Tryz.sizeOf273
 v37:=Tryz.zeroValue273
 i37:=by kernel_rfl
 t41:=Tryz.underlying276
 a41:=Tryz.isAgg276
 z41:=Tryz.sizeOf276
 v41:=Tryz.zeroValue276
 i41:=by kernel_rfl
 t44:=Tryz.underlying279
 a44:=Tryz.isAgg279
 z44:=Tryz.sizeOf279
 v44:=Tryz.zeroValue279
 i44:=by kernel_rfl
 t49:=Tryz.underlying337
 a49:=Tryz.isAgg337
 z49:=Tryz.sizeOf337
 v49:=Tryz.zeroValue337
 i49:=by kernel_rfl
 t51:=Tryz.underlying134
 a51:=Tryz.isAgg134
 z51:=Tryz.sizeOf134
 v51:=Tryz.zeroValue134
 i51:=by kernel_rfl
 t53:=Tryz.underlying340
 a53:=Tryz.isAgg340
 z53:=Tryz.sizeOf340
 v53:=Tryz.zeroValue340
 i53:=by kernel_rfl
 t54:=Tryz.underlying341
 a54:=Tryz.isAgg341
 z54:=Tryz.sizeOf341
 v54:=Tryz.zeroValue341
 i54:=by kernel_rfl
 t58:=Tryz.underlying125
 a58:=Tryz.isAgg125
 z58:=Tryz.sizeOf125
 v58:=Tryz.zeroValue125
 i58:=by kernel_rfl
 t60:=Tryz.underlying373
 a60:=Tryz.isAgg373
 z60:=Tryz.sizeOf373
 v60:=Tryz.zeroValue373
 i60:=by kernel_rfl
 t64:=Tryz.underlying377
 a64:=Tryz.isAgg377
 z64:=Tryz.sizeOf377
 v64:=Tryz.zeroValue377
 i64:=by kernel_rfl
 t66:=Tryz.underlying398
 a66:=Tryz.isAgg398
 z66:=Tryz.sizeOf398
 v66:=Tryz.zeroValue398
 i66:=by kernel_rfl
 t67:=Tryz.underlying224
 a67:=Tryz.isAgg224
 z67:=Tryz.sizeOf224
 v67:=Tryz.zeroValue224
 i67:=by kernel_rfl
 t75:=Tryz.underlying419
 a75:=Tryz.isAgg419
 z75:=Tryz.sizeOf419
 v75:=Tryz.zeroValue419
 i75:=by kernel_rfl
 t76:=Tryz.underlying420
 a76:=Tryz.isAgg420
 z76:=Tryz.sizeOf420
 v76:=Tryz.zeroValue420
 i76:=by kernel_rfl
 t77:=Tryz.underlying421
 a77:=Tryz.isAgg421
 z77:=Tryz.sizeOf421
 v77:=Tryz.zeroValue421
 i77:=by kernel_rfl
 t78:=Tryz.underlying262
 a78:=Tryz.isAgg262
 z78:=Tryz.sizeOf262
 v78:=Tryz.zeroValue262
 i78:=by kernel_rfl
 t79:=Tryz.underlying422
 a79:=Tryz.isAgg422
 z79:=Tryz.sizeOf422
 v79:=Tryz.zeroValue422
 i79:=by kernel_rfl
 t80:=Tryz.underlying423
 a80:=Tryz.isAgg423
 z80:=Tryz.sizeOf423
 v80:=Tryz.zeroValue423
 i80:=by kernel_rfl
 t82:=Tryz.underlying425
 a82:=Tryz.isAgg425
 z82:=Tryz.sizeOf425
 v82:=Tryz.zeroValue425
 i82:=by kernel_rfl }
def Tryz.vxStr_ren:Go.Shelf.Ren:=⟨fun|169=>105|n=>n,fun|70=>187|9=>9|0=>0|72=>189|37=>128|127=>262|3=>3|5=>5|n=>n,fun|n=>n⟩
theorem Tryz.vxStr:Go.Proofs.Lays.n169 Tryz.prog Tryz.vxStr_ren:={
 mixed:=by kernel_rfl
 f169:=Tryz.func105.trans (congrArg some (by kernel_rfl))
 t0:=Tryz.underlying0
 a0:=Tryz.isAgg0
 z0:=Tryz.sizeOf0
 v0:=Tryz.zeroValue0
 t3:=Tryz.underlying3
 a3:=Tryz.isAgg3
 z3:=Tryz.sizeOf3
 v3:=Tryz.zeroValue3
 t9:=Tryz.underlying9
 a9:=Tryz.isAgg9
 z9:=Tryz.sizeOf9
 v9:=Tryz.zeroValue9
 t37:=Tryz.underlying128
 a37:=Tryz.isAgg128
 z37:=Tryz.sizeOf128
 v37:=Tryz.zeroValue128
 t70:=Tryz.underlying187
 a70:=Tryz.isAgg187
 z70:=Tryz.sizeOf187
 v70:=Tryz.zeroValue187
 t72:=Tryz.underlying189
 a72:=Tryz.isAgg189
 z72:=Tryz.sizeOf189
 v72:=Tryz.zeroValue189
 t127:=Tryz.underlying262
 a127:=Tryz.isAgg262
 z127:=Tryz.sizeOf262
 v127:=Tryz.zeroValue262 }
def Tryz.vxSplit_ren:Go.Shelf.Ren:=⟨fun|146=>61|221=>106|268=>162|138=>163|143=>164|195=>213|197=>214|218=>215|219=>216|260=>268|217=>269|225=>270|224=>271|267=>272|266=>298|314=>299|n=>n,fun|9=>9|31=>51|3=>3|4=>4|0=>0|105=>330|21=>21|5=>5|46=>276|119=>393|139=>396|138=>395|146=>379|51=>337|n=>n,fun|1=>2|3=>3|4=>4|n=>n⟩
theorem Tryz.vxSplit:Go.Proofs.Lays.n146 Tryz.prog Tryz.vxSplit_ren:={
 mixed:=by kernel_rfl
 f138:=Tryz.func163.trans (congrArg some (by kernel_rfl))
 f143:=Tryz.func164.trans (congrArg some (by kernel_rfl))
 f146:=Tryz.func61.trans (congrArg some (by kernel_rfl))
 f195:=Tryz.func213.trans (congrArg some (by kernel_rfl))
 f197:=Tryz.func214.trans (congrArg some (by kernel_rfl))
 f217:=Tryz.func269.trans (congrArg some (by kernel_rfl))
 f218:=Tryz.func215.trans (congrArg some (by kernel_rfl))
 f219:=Tryz.func216.trans (congrArg some (by kernel_rfl))
 f221:=Tryz.func106.trans (congrArg some (by kernel_rfl))
 f224:=Tryz.func271.trans (congrArg some (by kernel_rfl))
 f225:=Tryz.func270.trans (congrArg some (by kernel_rfl))
 f260:=Tryz.func268.trans (congrArg some (by kernel_rfl))
 f266:=Tryz.func298.trans (congrArg some (by kernel_rfl))
 f267:=Tryz.func272.trans (congrArg some (by kernel_rfl))
 f268:=Tryz.func162.trans (congrArg some (by kernel_rfl))
 f314:=Tryz.func299.trans (congrArg some (by kernel_rfl))
 t0:=Tryz.underlying0
 a0:=Tryz.isAgg0
 z0:=Tryz.sizeOf0
 v0:=Tryz.zeroValue0
 t3:=Tryz.underlying3
 a3:=Tryz.isAgg3
 z3:=Tryz.sizeOf3
 v3:=Tryz.zeroValue3
 t4:=Tryz.underlying4
 a4:=Tryz.isAgg4
 z4:=Tryz.sizeOf4
 v4:=Tryz.zeroValue4
 t5:=Tryz.underlying5
 a5:=Tryz.isAgg5
 z5:=Tryz.sizeOf5
 v5:=Tryz.zeroValue5
 t9:=Tryz.underlying9
 a9:=Tryz.isAgg9
 z9:=Tryz.sizeOf9
 v9:=Tryz.zeroValue9
 t21:=Tryz.underlying21
 a21:=Tryz.isAgg21
 z21:=Tryz.sizeOf21
 v21:=Tryz.zeroValue21
 t31:=Tryz.underlying51
 a31:=Tryz.isAgg51
 z31:=Tryz.sizeOf51
 v31:=Tryz.zeroValue51
 t46:=Tryz.underlying276
 a46:=Tryz.isAgg276
 z46:=Tryz.sizeOf276
 v46:=Tryz.zeroValue276
 t51:=Tryz.underlying337
 a51:=Tryz.isAgg337
 z51:=Tryz.sizeOf337
 v51:=Tryz.zeroValue337
 t105:=Tryz.underlying330
 a105:=Tryz.isAgg330
 z105:=Tryz.sizeOf330
 v105:=Tryz.zeroValue330
 t119:=Tryz.underlying393
 a119:=Tryz.isAgg393
 z119:=Tryz.sizeOf393
 t138:=Tryz.underlying395
 a138:=Tryz.isAgg395
 z138:=Tryz.sizeOf395
 v138:=Tryz.zeroValue395
 t139:=Tryz.underlying396
 a139:=Tryz.isAgg396
 z139:=Tryz.sizeOf396
 v139:=Tryz.zeroValue396
 t146:=Tryz.underlying379
 a146:=Tryz.isAgg379
 z146:=Tryz.sizeOf379
 v146:=Tryz.zeroValue379
 g1:=by kernel_rfl
 g3:=by kernel_rfl
 g4:=by kernel_rfl }
end Go.Proofs
namespace Go.Proofs
open Go.Shelf
def Tryz.vxRep_ren:Go.Shelf.Ren:=⟨fun|105=>176|212=>237|99=>238|165=>239|166=>104|170=>240|169=>105|263=>278|264=>279|206=>280|240=>161|241=>281|276=>212|277=>301|n=>n,fun|9=>9|3=>3|4=>4|20=>20|0=>0|46=>276|109=>350|5=>5|72=>189|76=>193|51=>337|146=>379|53=>134|148=>381|70=>187|37=>128|75=>191|127=>262|164=>268|80=>124|n=>n,fun|n=>n⟩
theorem Tryz.vxRep:Go.Proofs.Lays.n105 Tryz.prog Tryz.vxRep_ren:={
 mixed:=by kernel_rfl
 f99:=Tryz.func238.trans (congrArg some (by kernel_rfl))
 f105:=Tryz.func176.trans (congrArg some (by kernel_rfl))
 f165:=Tryz.func239.trans (congrArg some (by kernel_rfl))
 f166:=Tryz.func104.trans (congrArg some (by kernel_rfl))
 f169:=Tryz.func105.trans (congrArg some (by kernel_rfl))
 f170:=Tryz.func240.trans (congrArg some (by kernel_rfl))
 f206:=Tryz.func280.trans (congrArg some (by kernel_rfl))
 f212:=Tryz.func237.trans (congrArg some (by kernel_rfl))
 f240:=Tryz.func161.trans (congrArg some (by kernel_rfl))
 f241:=Tryz.func281.trans (congrArg some (by kernel_rfl))
 f263:=Tryz.func278.trans (congrArg some (by kernel_rfl))
 f264:=Tryz.func279.trans (congrArg some (by kernel_rfl))
 f276:=Tryz.func212.trans (congrArg some (by kernel_rfl))
 f277:=Tryz.func301.trans (congrArg some (by kernel_rfl))
 t0:=Tryz.underlying0
 a0:=Tryz.isAgg0
 z0:=Tryz.sizeOf0
 v0:=Tryz.zeroValue0
 t3:=Tryz.underlying3
 a3:=Tryz.isAgg3
 z3:=Tryz.sizeOf3
 v3:=Tryz.zeroValue3
 t4:=Tryz.underlying4
 a4:=Tryz.isAgg4
 z4:=Tryz.sizeOf4
 v4:=Tryz.zeroValue4
 t5:=Tryz.underlying5
 a5:=Tryz.isAgg5
 z5:=Tryz.sizeOf5
 v5:=Tryz.zeroValue5
 t9:=Tryz.underlying9
 a9:=Tryz.isAgg9
 z9:=Tryz.sizeOf9
 v9:=Tryz.zeroValue9
 t20:=Tryz.underlying20
 a20:=Tryz.isAgg20
 z20:=Tryz.sizeOf20
 v20:=Tryz.zeroValue20
 t37:=Tryz.underlying128
 a37:=Tryz.isAgg128
 z37:=Tryz.sizeOf128
 v37:=Tryz.zeroValue128
 t46:=Tryz.underlying276
 a46:=Tryz.isAgg276
 z46:=Tryz.sizeOf276
 v46:=Tryz.zeroValue276
 t51:=Tryz.underlying337
 a51:=Tryz.isAgg337
 z51:=Tryz.sizeOf337
 v51:=Tryz.zeroValue337
 t53:=Tryz.underlying134
 a53:=Tryz.isAgg134
 z53:=Tryz.sizeOf134
 v53:=Tryz.zeroValue134
 t70:=Tryz.underlying187
 a70:=Tryz.isAgg187
 z70:=Tryz.sizeOf187
 v70:=Tryz.zeroValue187
 t72:=Tryz.underlying189
 a72:=Tryz.isAgg189
 z72:=Tryz.sizeOf189
 v72:=Tryz.zeroValue189
 t75:=Tryz.underlying191
 a75:=Tryz.isAgg191
 z75:=Tryz.sizeOf191
 v75:=Tryz.zeroValue191
 t76:=Tryz.underlying193
 a76:=Tryz.isAgg193
 z76:=Tryz.sizeOf193
 v76:=Tryz.zeroValue193
 t109:=Tryz.underlying350
 a109:=Tryz.isAgg350
 z109:=Tryz.sizeOf350
 v109:=Tryz.zeroValue350
 t127:=Tryz.underlying262
 a127:=Tryz.isAgg262
 z127:=Tryz.sizeOf262
 v127:=Tryz.zeroValue262
 t146:=Tryz.underlying379
 a146:=Tryz.isAgg379
 z146:=Tryz.sizeOf379
 v146:=Tryz.zeroValue379
 t148:=Tryz.underlying381
 a148:=Tryz.isAgg381
 z148:=Tryz.sizeOf381
 v148:=Tryz.zeroValue381
 t164:=Tryz.underlying268
 a164:=Tryz.isAgg268
 z164:=Tryz.sizeOf268
 v164:=Tryz.zeroValue268 }
def Tryz.vxTrim_ren:Go.Shelf.Ren:=⟨fun|160=>122|232=>179|231=>178|227=>180|234=>182|233=>181|236=>184|235=>183|228=>243|271=>245|151=>244|197=>214|120=>287|152=>286|260=>268|137=>302|119=>303|224=>271|225=>270|217=>269|266=>298|n=>n,fun|9=>9|4=>4|3=>3|5=>5|117=>297|116=>296|0=>0|124=>300|21=>21|105=>330|46=>276|119=>393|139=>396|138=>395|n=>n,fun|3=>3|4=>4|n=>n⟩
theorem Tryz.vxTrim:Go.Proofs.Lays.n160 Tryz.prog Tryz.vxTrim_ren:={
 mixed:=by kernel_rfl
 f119:=Tryz.func303.trans (congrArg some (by kernel_rfl))
 f120:=Tryz.func287.trans (congrArg some (by kernel_rfl))
 f137:=Tryz.func302.trans (congrArg some (by kernel_rfl))
 f151:=Tryz.func244.trans (congrArg some (by kernel_rfl))
 f152:=Tryz.func286.trans (congrArg some (by kernel_rfl))
 f160:=Tryz.func122.trans (congrArg some (by kernel_rfl))
 f197:=Tryz.func214.trans (congrArg some (by kernel_rfl))
 f217:=Tryz.func269.trans (congrArg some (by kernel_rfl))
 f224:=Tryz.func271.trans (congrArg some (by kernel_rfl))
 f225:=Tryz.func270.trans (congrArg some (by kernel_rfl))
 f227:=Tryz.func180.trans (congrArg some (by kernel_rfl))
 f228:=Tryz.func243.trans (congrArg some (by kernel_rfl))
 f231:=Tryz.func178.trans (congrArg some (by kernel_rfl))
 f232:=Tryz.func179.trans (congrArg some (by kernel_rfl))
 f233:=Tryz.func181.trans (congrArg some (by kernel_rfl))
 f234:=Tryz.func182.trans (congrArg some (by kernel_rfl))
 f235:=Tryz.func183.trans (congrArg some (by kernel_rfl))
 f236:=Tryz.func184.trans (congrArg some (by kernel_rfl))
 f260:=Tryz.func268.trans (congrArg some (by kernel_rfl))
 f266:=Tryz.func298.trans (congrArg some (by kernel_rfl))
 f271:=Tryz.func245.trans (congrArg some (by kernel_rfl))
 t0:=Tryz.underlying0
 a0:=Tryz.isAgg0
 z0:=Tryz.sizeOf0
 v0:=Tryz.zeroValue0
 t3:=Tryz.underlying3
 a3:=Tryz.isAgg3
 z3:=Tryz.sizeOf3
 v3:=Tryz.zeroValue3
 t4:=Tryz.underlying4
 a4:=Tryz.isAgg4
 z4:=Tryz.sizeOf4
 v4:=Tryz.zeroValue4
 t5:=Tryz.underlying5
 a5:=Tryz.isAgg5
 z5:=Tryz.sizeOf5
 v5:=Tryz.zeroValue5
 t9:=Tryz.underlying9
 a9:=Tryz.isAgg9
 z9:=Tryz.sizeOf9
 v9:=Tryz.zeroValue9
 t21:=Tryz.underlying21
 a21:=Tryz.isAgg21
 z21:=Tryz.sizeOf21
 v21:=Tryz.zeroValue21
 t46:=Tryz.underlying276
 a46:=Tryz.isAgg276
 z46:=Tryz.sizeOf276
 v46:=Tryz.zeroValue276
 t105:=Tryz.underlying330
 a105:=Tryz.isAgg330
 z105:=Tryz.sizeOf330
 v105:=Tryz.zeroValue330
 t116:=Tryz.underlying296
 a116:=Tryz.isAgg296
 z116:=Tryz.sizeOf296
 t117:=Tryz.underlying297
 a117:=Tryz.isAgg297
 z117:=Tryz.sizeOf297
 v117:=Tryz.zeroValue297
 t119:=Tryz.underlying393
 a119:=Tryz.isAgg393
 z119:=Tryz.sizeOf393
 t124:=Tryz.underlying300
 a124:=Tryz.isAgg300
 z124:=Tryz.sizeOf300
 v124:=Tryz.zeroValue300
 t138:=Tryz.underlying395
 a138:=Tryz.isAgg395
 z138:=Tryz.sizeOf395
 v138:=Tryz.zeroValue395
 t139:=Tryz.underlying396
 a139:=Tryz.isAgg396
 z139:=Tryz.sizeOf396
 v139:=Tryz.zeroValue396
 g3:=by kernel_rfl
 g4:=by kernel_rfl }
end Go.Proofs
namespace Go.Proofs
open Go.Shelf
def Tryz.vxItoa_ren:Go.Shelf.Ren:=⟨fun|171=>193|243=>258|246=>294|283=>307|284=>308|285=>309|286=>310|129=>227|317=>313|318=>314|319=>315|320=>316|337=>318|338=>319|n=>n,fun|3=>3|9=>9|2=>2|4=>4|171=>404|0=>0|53=>134|37=>128|5=>5|173=>406|212=>410|51=>337|20=>20|213=>411|46=>276|232=>412|233=>413|n=>n,fun|17=>5|18=>6|19=>7|n=>n⟩
theorem Tryz.vxItoa:Go.Proofs.LaysM.n171 Tryz.prog Tryz.vxItoa_ren:={
 mixed:=by kernel_rfl
 f129:=Tryz.func227.trans (congrArg some (by kernel_rfl))
 f171:=Tryz.func193.trans (congrArg some (by kernel_rfl))
 f243:=Tryz.func258.trans (congrArg some (by kernel_rfl))
 f246:=Tryz.func294.trans (congrArg some (by kernel_rfl))
 f283:=Tryz.func307.trans (congrArg some (by kernel_rfl))
 f284:=Tryz.func308.trans (congrArg some (by kernel_rfl))
 f285:=Tryz.func309.trans (congrArg some (by kernel_rfl))
 f286:=Tryz.func310.trans (congrArg some (by kernel_rfl))
 f317:=Tryz.func313.trans (congrArg some (by kernel_rfl))
 f318:=Tryz.func314.trans (congrArg some (by kernel_rfl))
 f319:=Tryz.func315.trans (congrArg some (by kernel_rfl))
 f320:=Tryz.func316.trans (congrArg some (by kernel_rfl))
 f337:=Tryz.func318.trans (congrArg some (by kernel_rfl))
 f338:=Tryz.func319.trans (congrArg some (by kernel_rfl))
 t0:=Tryz.underlying0
 a0:=Tryz.isAgg0
 z0:=Tryz.sizeOf0
 v0:=Tryz.zeroValue0
 t2:=Tryz.underlying2
 a2:=Tryz.isAgg2
 z2:=Tryz.sizeOf2
 v2:=Tryz.zeroValue2
 t3:=Tryz.underlying3
 a3:=Tryz.isAgg3
 z3:=Tryz.sizeOf3
 v3:=Tryz.zeroValue3
 t4:=Tryz.underlying4
 a4:=Tryz.isAgg4
 z4:=Tryz.sizeOf4
 v4:=Tryz.zeroValue4
 t5:=Tryz.underlying5
 a5:=Tryz.isAgg5
 z5:=Tryz.sizeOf5
 v5:=Tryz.zeroValue5
 t9:=Tryz.underlying9
 a9:=Tryz.isAgg9
 z9:=Tryz.sizeOf9
 v9:=Tryz.zeroValue9
 t20:=Tryz.underlying20
 a20:=Tryz.isAgg20
 z20:=Tryz.sizeOf20
 v20:=Tryz.zeroValue20
 t37:=Tryz.underlying128
 a37:=Tryz.isAgg128
 z37:=Tryz.sizeOf128
 v37:=Tryz.zeroValue128
 t46:=Tryz.underlying276
 a46:=Tryz.isAgg276
 z46:=Tryz.sizeOf276
 v46:=Tryz.zeroValue276
 t51:=Tryz.underlying337
 a51:=Tryz.isAgg337
 z51:=Tryz.sizeOf337
 v51:=Tryz.zeroValue337
 t53:=Tryz.underlying134
 a53:=Tryz.isAgg134
 z53:=Tryz.sizeOf134
 v53:=Tryz.zeroValue134
 t171:=Tryz.underlying404
 a171:=Tryz.isAgg404
 z171:=Tryz.sizeOf404
 v171:=Tryz.zeroValue404
 t173:=Tryz.underlying406
 a173:=Tryz.isAgg406
 z173:=Tryz.sizeOf406
 v173:=Tryz.zeroValue406
 t212:=Tryz.underlying410
 a212:=Tryz.isAgg410
 z212:=Tryz.sizeOf410
 v212:=Tryz.zeroValue410
 t213:=Tryz.underlying411
 a213:=Tryz.isAgg411
 z213:=Tryz.sizeOf411
 t232:=Tryz.underlying412
 a232:=Tryz.isAgg412
 z232:=Tryz.sizeOf412
 v232:=Tryz.zeroValue412
 t233:=Tryz.underlying413
 a233:=Tryz.isAgg413
 z233:=Tryz.sizeOf413
 v233:=Tryz.zeroValue413
 g17:=by kernel_rfl
 g18:=by kernel_rfl
 g19:=by kernel_rfl
 i0:=by kernel_rfl
 i2:=by kernel_rfl
 i3:=by kernel_rfl
 i4:=by kernel_rfl
 i5:=by kernel_rfl
 i9:=by kernel_rfl
 i20:=by kernel_rfl
 i37:=by kernel_rfl
 i46:=by kernel_rfl
 i51:=by kernel_rfl
 i53:=by kernel_rfl
 i171:=by kernel_rfl
 i173:=by kernel_rfl
 i212:=by kernel_rfl
 i232:=by kernel_rfl
 i233:=by kernel_rfl
 m17:=by kernel_rfl
 m18:=by kernel_rfl
 m19:=by kernel_rfl }
end Go.Proofs
namespace Go.Vx
open Go.RowKit Go.Shelf Go.Proofs
theorem FSpec.of_text{P:Program}{T:Tab}{f:FuncId}{ds:List D}{l:List UInt8}(hcall:∀ args w,(callFunc f args).run P w = .ok (.enter f args) w)
    (h:∀ (V:Vw) (w:World) (args:Array Value),args.size=ds.length->(∀ (j:Nat) v d,args[j]? = some v->ds[j]? = some d->RI (szOf T) V v d)->Calls P f args w fun q w'=>
     q = .returned (.string ⟨l.toArray⟩)/\Below w.heap.size w w') :
    FSpec P T f ds fun d _=>d = .s l:=by
 refine⟨hcall,fun V w args hV hl hR=>(h V w args hl hR).mono ?_⟩
 rintro q w' ⟨rfl,hb⟩
 exact⟨V,[],[],_,_,rfl,rfl,.imm _ _ (.s l),hb,fun _ _ h=>h,hV.ext hb,fun _ _=>rfl,rfl,by simp,by simp,by simp⟩
theorem str_arg{sz:TypeId->Nat}{V:Vw}{v:Value}{l:List UInt8}(h:RI sz V v (.s l)):v = .string ⟨l.toArray⟩:=by cases h;rfl
theorem int_arg{sz:TypeId->Nat}{V:Vw}{v:Value}{k:IntKind}{n:Int}(h:RI sz V v (.i k n)):v = .int k n:=by cases h;rfl
theorem args2{args:Array Value}{x y:Value}(h:args.size=2)(h0:args[0]? = some x)(h1:args[1]? = some y):args=#[x,y]:=by
 apply Array.ext' 
 apply List.ext_getElem?
 intro i
 match i with
 | 0=>simpa using h0
 | 1=>simpa using h1
 | i+2=>simp;omega
theorem args_two{sz:TypeId->Nat}{V:Vw}{args:Array Value}{a b:D}(hl:args.size=2)(hR:∀ (j:Nat) v d,args[j]? = some v->[a,b][j]? = some d->RI sz V v d):∃ x y,args=#[x,y]/\RI sz V x a/\RI sz V y b:=by
 have h0:args[0]? = some args[0]:=Array.getElem?_eq_getElem (by omega)
 have h1:args[1]? = some args[1]:=Array.getElem?_eq_getElem (by omega)
 exact⟨_,_,args2 hl h0 h1,hR 0 _ _ h0 rfl,hR 1 _ _ h1 rfl⟩
theorem repeat_at{P:Program}{T:Tab}{ρ:Ren}(L:Lays.n105 P ρ)(X:Builder.Extra P ρ)(hc:∀ args w,(callFunc (ρ.f 105) args).run P w = .ok (.enter (ρ.f 105) args) w)(s:List UInt8)(c:Nat)(h:s.length*c<=140737488355328)(hcc:c<=9223372036854775807) :
    FSpec P T (ρ.f 105) [.s s,.i .i64 (c:Nat)] fun d _=>d = .s (Lib.repeatL s c):=by
 refine .of_text hc fun V w args hl hR=>?_
 obtain⟨x,y,rfl,hx,hy⟩:=args_two hl hR
 rw[str_arg hx,int_arg hy]
 exact Any.strings_Repeat L X ⟨s.toArray⟩ c w hcc (by simpa[ByteArray.size] using h)
theorem trim_at{P:Program}{T:Tab}{ρ:Ren}(L:Lays.n160 P ρ)(h116:(P.info? (ρ.t 116)).map (fun i=>(i.zero,i.size))=some (some (.agg (Array.replicate 256 (.bool false))),256))(hc:∀ args w,(callFunc (ρ.f 160) args).run P w = .ok (.enter (ρ.f 160) args) w)(s cs:List UInt8)
    (hs:s.length<=9223372036854775807)(hcs:cs.length<4294967281)(ha:cs.all (fun b=>decide (b.toNat<128))=true):FSpec P T (ρ.f 160) [.s s,.s cs] fun d _=>d = .s (Lib.trimS s cs):=by
 refine .of_text hc fun V w args hl hR=>?_
 obtain⟨x,y,rfl,hx,hy⟩:=args_two hl hR
 rw[str_arg hx,str_arg hy]
 exact Any.strings_Trim_laid L h116 ⟨s.toArray⟩ ⟨cs.toArray⟩ w (by simpa[ByteArray.size] using hs) (by simpa[ByteArray.size] using hcs) (ascii_of_all ha)
end Go.Vx
namespace Go.Vx
open Go.RowKit Go.Instr
def structB(T:Tab)(t:TypeId):Bool:=match T t with|some ⟨_,_,.struct _,_⟩=>true|_=>false
def methB(P:Program)(t:TypeId)(m:String)(f:FuncId):Bool:=match P.info? t with
 | some i=>(match i.methods.find? (fun x=>x.name == m) with
  | some mm=>mm.path.isEmpty && (match mm.func with|some (g,false)=>Nat.beq g f|_=>false)
  | none=>false)
 | none=>false
theorem MethC.of{P:Program}{T:Tab}(hT:TOk P T){t:TypeId}{f:FuncId}{m:String}(hs:structB T t=true)(hm:methB P t m f=true)(hc:∀ args w,(callFunc f args).run P w = .ok (.enter f args) w):MethC P m t f:=by
 unfold structB at hs
 split at hs
 case h_2=>cases hs
 rename_i fs z hti
 obtain⟨fa,hu,-⟩:=(hT _ _ hti).kind
 unfold methB at hm
 split at hm
 case h_2=>cases hm
 rename_i i hi
 split at hm
 case h_2=>cases hm
 rename_i mm hfind
 simp only[Bool.and_eq_true] at hm
 obtain⟨hp,hm⟩:=hm
 split at hm
 case h_2=>cases hm
 rename_i g hg
 have hgf:g=f:=Nat.eq_of_beq_eq_true hm
 subst hgf
 have hpath:mm.path=#[]:=by simpa using hp
 refine⟨fun x args w=>?_⟩
 have hr:∀ w,(method (P.types.size+Made.depth) t x m).run P w = .ok (g,x) w:=by
  intro w
  obtain⟨n,hn⟩:∃ n,P.types.size+Made.depth=n+1:=⟨P.types.size+99,rfl⟩
  rw[hn]
  simp[method,typeInfo,hi,hfind,hpath,hg,follow,receiverAt,run_under hu,Place.get]
 have hprog:(program:Sem Program).run P w = .ok P w:=by simp
 simp only[callMethod,Sem.run_bind,hprog,Result.andThen_ok,hr,hc]
end Go.Vx
namespace Go.Proofs.YtcglkonooeddfaaGreatDoor
open Go Go.Vx
def okC(t:Str):Prop:=CT t/\t ≠ []
open Classical in
noncomputable def zer(t:Str):Str:=if okC t then t else []
open Classical in
noncomputable def perr(t:Str):Int:=if 256<t.length then 2 else if okC t then 0 else 10
theorem zer_of{t:Str}(h:okC t):zer t=t:=by unfold zer;rw[if_pos h]
theorem zer_not{t:Str}(h:¬ okC t):zer t=[]:=by unfold zer;rw[if_neg h]
theorem eqCube:EqT Tryz.prog 138 [.i .i64,.i .u64,.i .u64,.i .u64,.i .u64,.i .u64,.i .u64,.i .u64,.i .u64]:=EqT.of_b tok (ti:=_) rfl rfl (by kernel_rfl)
@[simp] theorem wof_car_nil(k:Nat):wof (car []) k=0#64:=BitVec.eq_of_getLsbD_eq fun i hi=>by rw[wof_get _ _ _ hi];simp[car]
@[simp] theorem wof_one_nil(k:Nat):wof (one []) k=0#64:=BitVec.eq_of_getLsbD_eq fun i hi=>by rw[wof_get _ _ _ hi];simp[one]
def cubOk(t:Str):Prop:=∀ b ∈ t,b=48\/b=49\/b=120
theorem cubOk_step{t:Str}{i:Nat}{b:UInt8}(h:cubOk (t.take i))(hb:t[i]? = some b)(hd:b=48\/b=49\/b=120):cubOk (t.take (i+1)):=by
 intro x hx
 rw[List.take_add_one,hb] at hx
 rcases mAp0.1 hx with hx|hx
 . exact h x hx
 . simp at hx;rw[hx];exact hd
theorem u8_ne{b c:UInt8}(h:b ≠ c):¬ ((b.toNat:Nat):Int)=((c.toNat:Nat):Int):=fun e=>h (UInt8.toNat_inj.1 (by omega))
theorem parse_at(t:Str):FSpec Tryz.prog T 62 [.s t] (fun d rows=>d = .tup [.agg (crow (zer t)),.i .i64 (perr t)]/\rows=[]):=by
 refine FSpec.of_ok tok Tryz.func62 rfl Tryz.call62 (by simp) ?_
 (try (conv=>whnf));repeat' (first|refine Ok.seq ?_|((first|refine Ok.region tok ?_|refine Ok.cond ?_);conv=>whnf)|refine Ok.block ?_|((first|refine Ok.skip ?_|refine Ok.ret ?_);conv=>whnf)|(refine bI ?_ ?_<;>intro<;>(conv=>whnf)<;>(try (exfalso;omega)))|fail)
 . rename_i h
   refine Or.inl ?_;(conv=>whnf)
   refine⟨?_,rfl⟩
   rw[zer_not (fun h2=>by have:=h2.1.len;omega),crow_nil]
   unfold perr
   rw[if_pos (by omega)]
   rfl
 . rename_i h0 h
   refine Or.inl ?_;(conv=>whnf)
   refine⟨?_,rfl⟩
   rw[zer_not (fun h2=>h2.2 h),crow_nil]
   unfold perr
   rw[if_neg (by omega),if_neg (fun h2=>h2.2 h)]
   rfl
 . rename_i h0 h1
   have hlen:t.length<=256:=by omega
   have hne:t ≠ []:=h1
   refine Ok.loopU [0,2,4,17] [18] 0 2 (fun (i:Nat)=>[.i .i64 (i:Nat)]) (fun (i:Nat) (_:List (List D))=>[[.i .i64 0,.i .u64 0,.i .u64 0,.i .u64 0,.i .u64 0,.i .u64 0,.i .u64 0,.i .u64 0,.i .u64 0],cells9 t.length (car (t.take i)) (one (t.take i))]) (fun _ r=>r) (fun (i:Nat)=>i<=t.length/\cubOk (t.take i)) (fun (i:Nat)=>t.length - i) (0) (⟨Nat.zero_le _,by simp[cubOk]⟩) ?_;(conv=>whnf);refine⟨by ((conv=>whnf);first|rfl|(simp[envCat,tkL0,cells9];done)|(simp[envCat,tkL0,cells9];rw[IntKind.wrap_i64];omega)),?_⟩
   rintro i ⟨hi,hok⟩
   (conv=>whnf)
   by_cases hit:i<t.length
   . obtain⟨b,hb⟩:∃ b,t[i]? = some b:=⟨_,gEt0 hit⟩
     have hbI:t[((i:Nat):Int).toNat]? = some b:=hb
     obtain⟨q,r,hqr,hr,hq⟩:=split64 i (by omega)
     have hrem:=rem64 hqr hr
     have hquo:=quo64 hqr hr (by omega)
     have hrr:((r:Nat):Int)=((r:Nat):Int)/\r<64:=⟨rfl,hr⟩
     by_cases h49:b=49
     . subst h49
       have hn:(((49:UInt8).toNat:Nat):Int)=49:=rfl
       rcases hq with rfl|rfl|rfl|rfl
       all_goals
        (try (conv=>whnf));repeat' (first|refine Ok.seq ?_|((first|refine Ok.region tok ?_|refine Ok.cond ?_);conv=>whnf)|refine Ok.block ?_|((first|refine Ok.skip ?_|refine⟨_,by assumption,?_⟩);conv=>whnf)|(refine bI ?_ ?_<;>intro<;>(conv=>whnf)<;>(try (exfalso;omega)))|(refine aJ ?_;conv=>whnf)|fail)
        refine Or.inr (Or.inr (Or.inl ?_));(conv=>whnf);refine⟨_,_,Tryz.func107,rfl,Tryz.call107,?_⟩;(conv=>whnf)
        (try (conv=>whnf));repeat' (first|((first|(with_reducible_and_instances (first|refine nShl1' rfl (by assumption) ?_|refine nOr ?_))|refine Ok.region tok ?_|refine Ok.region_plan (id:=0) tok follows [(5,12,[])] [.q 0,.q 1,.q 2,.q 3,.q 4,.q 5,.q 6,.q 7,.q 8,.q 9,.q 10,.q 11,.l 12] (by kernel_rfl) ?_|refine⟨_,(hquo.symm).symm,?_⟩|refine⟨_,(hrem.symm).symm,?_⟩|refine aJ ?_|refine⟨_,rfl,?_⟩);conv=>whnf)|fail)
        refine Or.inr (Or.inr (Or.inl ?_));(conv=>whnf);refine⟨_,_,Tryz.func107,rfl,Tryz.call107,?_⟩;(conv=>whnf)
        (try (conv=>whnf));repeat' (first|((first|(with_reducible_and_instances (first|refine nShl1' rfl (by assumption) ?_|refine nOr ?_))|refine Ok.region tok ?_|refine Ok.region_plan (id:=0) tok follows [(5,12,[])] [.q 0,.q 1,.q 2,.q 3,.q 4,.q 5,.q 6,.q 7,.q 8,.q 9,.q 10,.q 11,.l 12] (by kernel_rfl) ?_|refine⟨_,(hquo.symm).symm,?_⟩|refine⟨_,(hrem.symm).symm,?_⟩|refine nI ?_|refine aJ ?_|refine⟨_,rfl,?_⟩);conv=>whnf)|fail)
        refine⟨i+1,by omega,⟨by omega,cubOk_step hok hb (by simp)⟩,?_⟩
        have c0:=(put_word (f:=car (t.take i)) (g:=car (t.take (i+1))) hqr hr (car_put hb rfl) 0).trans (by first|exact if_pos rfl|exact if_neg (by decide))
        have c1:=(put_word (f:=car (t.take i)) (g:=car (t.take (i+1))) hqr hr (car_put hb rfl) 1).trans (by first|exact if_pos rfl|exact if_neg (by decide))
        have c2:=(put_word (f:=car (t.take i)) (g:=car (t.take (i+1))) hqr hr (car_put hb rfl) 2).trans (by first|exact if_pos rfl|exact if_neg (by decide))
        have c3:=(put_word (f:=car (t.take i)) (g:=car (t.take (i+1))) hqr hr (car_put hb rfl) 3).trans (by first|exact if_pos rfl|exact if_neg (by decide))
        have o0:=(put_word (f:=one (t.take i)) (g:=one (t.take (i+1))) hqr hr (one_put hb) 0).trans (by first|exact if_pos rfl|exact if_neg (by decide))
        have o1:=(put_word (f:=one (t.take i)) (g:=one (t.take (i+1))) hqr hr (one_put hb) 1).trans (by first|exact if_pos rfl|exact if_neg (by decide))
        have o2:=(put_word (f:=one (t.take i)) (g:=one (t.take (i+1))) hqr hr (one_put hb) 2).trans (by first|exact if_pos rfl|exact if_neg (by decide))
        have o3:=(put_word (f:=one (t.take i)) (g:=one (t.take (i+1))) hqr hr (one_put hb) 3).trans (by first|exact if_pos rfl|exact if_neg (by decide))
        (conv=>whnf)
        simp only[envCat,cells9,c0,c1,c2,c3,o0,o1,o2,o3]
        rfl
     by_cases h48:b=48
     . subst h48
       have hn:(((48:UInt8).toNat:Nat):Int)=48:=rfl
       rcases hq with rfl|rfl|rfl|rfl
       all_goals
        (try (conv=>whnf));repeat' (first|refine Ok.seq ?_|((first|refine Ok.region tok ?_|refine Ok.cond ?_);conv=>whnf)|refine Ok.block ?_|((first|refine Ok.skip ?_|refine⟨_,by assumption,?_⟩);conv=>whnf)|(refine bI ?_ ?_<;>intro<;>(conv=>whnf)<;>(try (exfalso;omega)))|(refine aJ ?_;conv=>whnf)|fail)
        refine Or.inr (Or.inr (Or.inl ?_));(conv=>whnf);refine⟨_,_,Tryz.func107,rfl,Tryz.call107,?_⟩;(conv=>whnf)
        (try (conv=>whnf));repeat' (first|((first|(with_reducible_and_instances (first|refine nShl1' rfl (by assumption) ?_|refine nOr ?_))|refine Ok.region tok ?_|refine Ok.region_plan (id:=0) tok follows [(5,12,[])] [.q 0,.q 1,.q 2,.q 3,.q 4,.q 5,.q 6,.q 7,.q 8,.q 9,.q 10,.q 11,.l 12] (by kernel_rfl) ?_|refine⟨_,(hquo.symm).symm,?_⟩|refine⟨_,(hrem.symm).symm,?_⟩|refine nI ?_|refine aJ ?_|refine⟨_,rfl,?_⟩);conv=>whnf)|fail)
        refine⟨i+1,by omega,⟨by omega,cubOk_step hok hb (by simp)⟩,?_⟩
        have c0:=(put_word (f:=car (t.take i)) (g:=car (t.take (i+1))) hqr hr (car_put hb rfl) 0).trans (by first|exact if_pos rfl|exact if_neg (by decide))
        have c1:=(put_word (f:=car (t.take i)) (g:=car (t.take (i+1))) hqr hr (car_put hb rfl) 1).trans (by first|exact if_pos rfl|exact if_neg (by decide))
        have c2:=(put_word (f:=car (t.take i)) (g:=car (t.take (i+1))) hqr hr (car_put hb rfl) 2).trans (by first|exact if_pos rfl|exact if_neg (by decide))
        have c3:=(put_word (f:=car (t.take i)) (g:=car (t.take (i+1))) hqr hr (car_put hb rfl) 3).trans (by first|exact if_pos rfl|exact if_neg (by decide))
        have o0:=one_same hb (by decide) 0
        have o1:=one_same hb (by decide) 1
        have o2:=one_same hb (by decide) 2
        have o3:=one_same hb (by decide) 3
        (conv=>whnf)
        simp only[envCat,cells9,c0,c1,c2,c3,o0,o1,o2,o3]
        rfl
     have hn49:=u8_ne h49
     have hn48:=u8_ne h48
     have e49:(((49:UInt8).toNat:Nat):Int)=49:=rfl
     have e48:(((48:UInt8).toNat:Nat):Int)=48:=rfl
     rw[e49] at hn49
     rw[e48] at hn48
     by_cases h120:b=120
     . subst h120
       have hn:(((120:UInt8).toNat:Nat):Int)=120:=rfl
       (try (conv=>whnf));repeat' (first|refine Ok.seq ?_|((first|refine Ok.region tok ?_|refine Ok.cond ?_);conv=>whnf)|refine Ok.block ?_|((first|refine Ok.skip ?_|refine nI ?_|refine⟨_,by assumption,?_⟩);conv=>whnf)|(refine bI ?_ ?_<;>intro<;>(conv=>whnf)<;>(try (exfalso;omega)))|(refine aJ ?_;conv=>whnf)|fail)
       refine⟨i+1,by omega,⟨by omega,cubOk_step hok hb (by simp)⟩,?_⟩
       have c0:=car_same hb rfl 0
       have c1:=car_same hb rfl 1
       have c2:=car_same hb rfl 2
       have c3:=car_same hb rfl 3
       have o0:=one_same hb (by decide) 0
       have o1:=one_same hb (by decide) 1
       have o2:=one_same hb (by decide) 2
       have o3:=one_same hb (by decide) 3
       (conv=>whnf)
       simp only[envCat,cells9,c0,c1,c2,c3,o0,o1,o2,o3]
       rfl
     . have hn120:=u8_ne h120
       have e120:(((120:UInt8).toNat:Nat):Int)=120:=rfl
       rw[e120] at hn120
       (try (conv=>whnf));repeat' (first|refine Ok.seq ?_|((first|refine Ok.region tok ?_|refine Ok.cond ?_);conv=>whnf)|refine Ok.block ?_|((first|refine Ok.skip ?_|refine Ok.ret ?_|refine⟨_,by assumption,?_⟩);conv=>whnf)|(refine bI ?_ ?_<;>intro<;>(conv=>whnf)<;>(try (exfalso;omega)))|((first|refine aJ ?_|refine num_any ?_);conv=>whnf)|fail)
       refine Or.inl ?_;(conv=>whnf)
       refine⟨?_,rfl⟩
       have hno:¬ okC t:=fun h2=>by
        rcases h2.1.cub b (mOf0 hb) with e|e|e
        . exact h48 e
        . exact h49 e
        . exact h120 e
       rw[zer_not hno,crow_nil]
       unfold perr
       rw[if_neg (by omega),if_neg hno]
       rfl
   . have he:i=t.length:=by omega
     subst he
     rw[List.take_length] at *
     (try (conv=>whnf));repeat' (first|refine Ok.seq ?_|((first|refine Ok.region tok ?_|refine Ok.cond ?_|refine Ok.exit ?_|refine Ok.ret ?_);conv=>whnf)|(refine bI ?_ ?_<;>intro<;>(conv=>whnf)<;>(try (exfalso;omega)))|fail)
     refine Or.inl ?_;(conv=>whnf)
     refine⟨?_,rfl⟩
     have hyes:okC t:=⟨⟨hlen,hok⟩,hne⟩
     rw[zer_of hyes]
     unfold perr
     rw[if_neg (by omega),if_pos hyes]
     rfl
end Go.Proofs.YtcglkonooeddfaaGreatDoor
namespace Go.Proofs.YtcglkonooeddfaaGreatDoor
open Go Go.Vx
theorem fits_at(c d:Str):FSpec Tryz.prog T 165 [.agg (crow c),.agg (crow d)] (fun r _=>r = .b (c.length=d.length/\0<c.length)):=by
 refine FSpec.of_ok tok Tryz.func165 rfl Tryz.call165 (by simp) ?_
 (try (conv=>whnf));repeat' (first|refine Ok.seq ?_|((first|refine Ok.region tok ?_|refine Ok.ret ?_);conv=>whnf)|(refine bI ?_ ?_<;>intro<;>(conv=>whnf)<;>(try (exfalso;omega)))|fail)
 all_goals
  refine Or.inl ?_;(conv=>whnf)
  simp[oneD]
  omega
theorem mt_none{c d:Str}(h:meetT c d=none):(D.tup [.agg [.i .i64 0,.i .u64 0,.i .u64 0,.i .u64 0,.i .u64 0,.i .u64 0,.i .u64 0,.i .u64 0,.i .u64 0],.b False]) = .tup [.agg (crow ((meetT c d).getD [])),.b ((meetT c d).isSome=true)]:=by
 rw[h]
 simp[crow_nil]
theorem meet_at(c d:Str)(hc:CT c)(hd:CT d):FSpec Tryz.prog T 108 [.agg (crow c),.agg (crow d)] (fun r rows=>r = .tup [.agg (crow ((meetT c d).getD [])),.b ((meetT c d).isSome=true)]/\rows=[]):=by
 refine FSpec.of_ok tok Tryz.func108 rfl Tryz.call108 (by simp) ?_
 (try (conv=>whnf));repeat' (first|refine Ok.seq ?_|((first|refine Ok.region tok ?_|refine Ok.cond ?_);conv=>whnf)|refine Ok.block ?_|((first|refine Ok.skip ?_|refine Ok.ret ?_);conv=>whnf)|(refine Or.inl ?_;(conv=>whnf);(repeat (refine aI ?_;conv=>whnf));refine⟨_,fits_at c d,rfl,?_⟩;conv=>whnf)|(refine bI ?_ ?_<;>intro<;>(conv=>whnf)<;>(try (exfalso;omega)))|fail)
 . rename_i h
   refine Or.inl ?_;(conv=>whnf)
   refine⟨mt_none ?_,rfl⟩
   unfold meetT
   split
   . rfl
   . rename_i hne
     cases hm:meetL c d with
     | none=>rfl
     | some m=>exact absurd ⟨by have:=meetL_len hm;omega,List.length_pos_iff.2 hne⟩ h
 . rename_i h
   have hfit:c.length=d.length/\0<c.length:=Classical.not_not.1 h
   have hne:c ≠ []:=List.length_pos_iff.1 hfit.2
   refine Ok.loopU [2,3,4] [12] 0 3 (fun (w:Nat)=>[.i .i64 (w:Nat)]) (fun (w:Nat) (_:List (List D))=>[mcells c.length w c d,crow d,[.i .i64 0,.i .u64 0,.i .u64 0,.i .u64 0,.i .u64 0,.i .u64 0,.i .u64 0,.i .u64 0,.i .u64 0]]) (fun _ r=>r) (fun (w:Nat)=>w<=4/\∀ k,k<w->((wof (cfl c d) k).toNat:Int)=0) (fun (w:Nat)=>4 - w) (0) (⟨by omega,fun k hk=>absurd hk (by omega)⟩) ?_;(conv=>whnf);refine⟨by ((conv=>whnf);first|rfl|(simp[envCat,tkL0,cells9,mcells];done)|(simp[envCat,tkL0,cells9,mcells];rw[IntKind.wrap_i64];omega)),?_⟩
   rintro w ⟨hw,hz⟩
   (conv=>whnf)
   by_cases hw4:w=4
   . subst hw4
     obtain⟨m,hm,m1,m2⟩:=cfl_some hc hd hfit.1 hne (no_cfl hc hz)
     have hml:=(meetT_ct hm hc hd).2.1
     (try (conv=>whnf));repeat' (first|refine Ok.seq ?_|((first|refine Ok.region tok ?_|refine Ok.cond ?_|refine Ok.exit ?_|refine Ok.ret ?_);conv=>whnf)|(refine bI ?_ ?_<;>intro<;>(conv=>whnf)<;>(try (exfalso;omega)))|fail)
     refine Or.inl ?_;(conv=>whnf)
     refine⟨?_,rfl⟩
     have hme:=mcells_end hml m1 m2
     rw[hm]
     show D.tup [.agg (mcells c.length 4 c d),.b True]=_
     rw[hme]
     simp
   . rcases (by omega:w=0\/w=1\/w=2\/w=3) with rfl|rfl|rfl|rfl
     . (try (conv=>whnf));repeat' (first|((with_reducible_and_instances (first|refine nAnd ?_|refine nOr ?_|refine nXor ?_));conv=>whnf)|refine Ok.seq ?_|((first|refine Ok.region tok ?_|refine Ok.region_plan (id:=8) tok follows [(3,11,[]),(7,11,[])] [.q 0,.q 1,.q 2,.q 3,.q 4,.q 5,.q 6,.q 7,.q 8,.q 9,.q 10,.l 11] (by kernel_rfl) ?_|refine Ok.region_plan (id:=9) tok follows [(3,11,[]),(7,11,[])] [.q 0,.q 1,.q 2,.q 3,.q 4,.q 5,.q 6,.q 7,.q 8,.q 9,.q 10,.l 11] (by kernel_rfl) ?_|refine Ok.region_draw tok follows (by kernel_rfl) ?_|refine Ok.cond ?_);conv=>whnf)|refine Ok.block ?_|((first|refine Ok.skip ?_|refine Ok.ret ?_|refine nI ?_);conv=>whnf)|(refine bI ?_ ?_<;>intro<;>(conv=>whnf)<;>(try (exfalso;omega)))|((first|refine aJ ?_|refine⟨_,rfl,?_⟩);conv=>whnf)|fail)
       . rename_i hx
         refine Or.inl ?_;(conv=>whnf)
         have hx2:¬ ((wof (cfl c d) 0).toNat:Int)=0:=by
          rw[<- word_cfl]
          exact hx
         obtain⟨i,hi⟩:=wof_nz hx2
         exact⟨mt_none (cfl_none hc hd hi),rfl⟩
       . rename_i hx
         have hx2:((wof (cfl c d) 0).toNat:Int)=0:=by
          rw[<- word_cfl]
          exact Classical.not_not.1 hx
         refine⟨1,by omega,⟨by omega,fun k hk=>?_⟩,?_⟩
         . by_cases hk2:k=0
           . rw[hk2];exact hx2
           . exact hz k (by omega)
         . (conv=>whnf)
           rfl
     . (try (conv=>whnf));repeat' (first|((with_reducible_and_instances (first|refine nAnd ?_|refine nOr ?_|refine nXor ?_));conv=>whnf)|refine Ok.seq ?_|((first|refine Ok.region tok ?_|refine Ok.region_plan (id:=8) tok follows [(3,11,[]),(7,11,[])] [.q 0,.q 1,.q 2,.q 3,.q 4,.q 5,.q 6,.q 7,.q 8,.q 9,.q 10,.l 11] (by kernel_rfl) ?_|refine Ok.region_plan (id:=9) tok follows [(3,11,[]),(7,11,[])] [.q 0,.q 1,.q 2,.q 3,.q 4,.q 5,.q 6,.q 7,.q 8,.q 9,.q 10,.l 11] (by kernel_rfl) ?_|refine Ok.region_draw tok follows (by kernel_rfl) ?_|refine Ok.cond ?_);conv=>whnf)|refine Ok.block ?_|((first|refine Ok.skip ?_|refine Ok.ret ?_|refine nI ?_);conv=>whnf)|(refine bI ?_ ?_<;>intro<;>(conv=>whnf)<;>(try (exfalso;omega)))|((first|refine aJ ?_|refine⟨_,rfl,?_⟩);conv=>whnf)|fail)
       . rename_i hx
         refine Or.inl ?_;(conv=>whnf)
         have hx2:¬ ((wof (cfl c d) 1).toNat:Int)=0:=by
          rw[<- word_cfl]
          exact hx
         obtain⟨i,hi⟩:=wof_nz hx2
         exact⟨mt_none (cfl_none hc hd hi),rfl⟩
       . rename_i hx
         have hx2:((wof (cfl c d) 1).toNat:Int)=0:=by
          rw[<- word_cfl]
          exact Classical.not_not.1 hx
         refine⟨2,by omega,⟨by omega,fun k hk=>?_⟩,?_⟩
         . by_cases hk2:k=1
           . rw[hk2];exact hx2
           . exact hz k (by omega)
         . (conv=>whnf)
           rfl
     . (try (conv=>whnf));repeat' (first|((with_reducible_and_instances (first|refine nAnd ?_|refine nOr ?_|refine nXor ?_));conv=>whnf)|refine Ok.seq ?_|((first|refine Ok.region tok ?_|refine Ok.region_plan (id:=8) tok follows [(3,11,[]),(7,11,[])] [.q 0,.q 1,.q 2,.q 3,.q 4,.q 5,.q 6,.q 7,.q 8,.q 9,.q 10,.l 11] (by kernel_rfl) ?_|refine Ok.region_plan (id:=9) tok follows [(3,11,[]),(7,11,[])] [.q 0,.q 1,.q 2,.q 3,.q 4,.q 5,.q 6,.q 7,.q 8,.q 9,.q 10,.l 11] (by kernel_rfl) ?_|refine Ok.region_draw tok follows (by kernel_rfl) ?_|refine Ok.cond ?_);conv=>whnf)|refine Ok.block ?_|((first|refine Ok.skip ?_|refine Ok.ret ?_|refine nI ?_);conv=>whnf)|(refine bI ?_ ?_<;>intro<;>(conv=>whnf)<;>(try (exfalso;omega)))|((first|refine aJ ?_|refine⟨_,rfl,?_⟩);conv=>whnf)|fail)
       . rename_i hx
         refine Or.inl ?_;(conv=>whnf)
         have hx2:¬ ((wof (cfl c d) 2).toNat:Int)=0:=by
          rw[<- word_cfl]
          exact hx
         obtain⟨i,hi⟩:=wof_nz hx2
         exact⟨mt_none (cfl_none hc hd hi),rfl⟩
       . rename_i hx
         have hx2:((wof (cfl c d) 2).toNat:Int)=0:=by
          rw[<- word_cfl]
          exact Classical.not_not.1 hx
         refine⟨3,by omega,⟨by omega,fun k hk=>?_⟩,?_⟩
         . by_cases hk2:k=2
           . rw[hk2];exact hx2
           . exact hz k (by omega)
         . (conv=>whnf)
           rfl
     . (try (conv=>whnf));repeat' (first|((with_reducible_and_instances (first|refine nAnd ?_|refine nOr ?_|refine nXor ?_));conv=>whnf)|refine Ok.seq ?_|((first|refine Ok.region tok ?_|refine Ok.region_plan (id:=8) tok follows [(3,11,[]),(7,11,[])] [.q 0,.q 1,.q 2,.q 3,.q 4,.q 5,.q 6,.q 7,.q 8,.q 9,.q 10,.l 11] (by kernel_rfl) ?_|refine Ok.region_plan (id:=9) tok follows [(3,11,[]),(7,11,[])] [.q 0,.q 1,.q 2,.q 3,.q 4,.q 5,.q 6,.q 7,.q 8,.q 9,.q 10,.l 11] (by kernel_rfl) ?_|refine Ok.region_draw tok follows (by kernel_rfl) ?_|refine Ok.cond ?_);conv=>whnf)|refine Ok.block ?_|((first|refine Ok.skip ?_|refine Ok.ret ?_|refine nI ?_);conv=>whnf)|(refine bI ?_ ?_<;>intro<;>(conv=>whnf)<;>(try (exfalso;omega)))|((first|refine aJ ?_|refine⟨_,rfl,?_⟩);conv=>whnf)|fail)
       . rename_i hx
         refine Or.inl ?_;(conv=>whnf)
         have hx2:¬ ((wof (cfl c d) 3).toNat:Int)=0:=by
          rw[<- word_cfl]
          exact hx
         obtain⟨i,hi⟩:=wof_nz hx2
         exact⟨mt_none (cfl_none hc hd hi),rfl⟩
       . rename_i hx
         have hx2:((wof (cfl c d) 3).toNat:Int)=0:=by
          rw[<- word_cfl]
          exact Classical.not_not.1 hx
         refine⟨4,by omega,⟨by omega,fun k hk=>?_⟩,?_⟩
         . by_cases hk2:k=3
           . rw[hk2];exact hx2
           . exact hz k (by omega)
         . (conv=>whnf)
           rfl
theorem within_at(c d:Str)(hc:CT c)(hd:CT d):FSpec Tryz.prog T 166 [.agg (crow c),.agg (crow d)] (fun r _=>r = .b (inT c d)):=by
 refine FSpec.of_ok tok Tryz.func166 rfl Tryz.call166 (by simp) ?_
 (try (conv=>whnf));repeat' (first|refine Ok.seq ?_|((first|refine Ok.region tok ?_|refine Ok.ret ?_);conv=>whnf)|(refine Or.inr (Or.inl ?_);(conv=>whnf);(repeat (refine aI ?_;conv=>whnf));refine⟨_,meet_at c d hc hd,?_⟩;rintro _ _ ⟨rfl,rfl⟩;conv=>whnf)|(refine bI ?_ ?_<;>intro<;>(conv=>whnf)<;>(try (exfalso;omega)))|fail)
 . rename_i h
   refine⟨_,eqCube,by kernel_rfl,?_⟩
   (conv=>whnf)
   (try (conv=>whnf));repeat' (first|(refine Ok.ret ?_;conv=>whnf)|fail)
   refine Or.inl ?_;(conv=>whnf)
   obtain⟨m,hm⟩:=Option.isSome_iff_exists.1 h
   have hmc:=(meetT_ct hm hc hd).1
   show D.b (eqDs (crow ((meetT c d).getD [])) (crow c))=D.b (inT c d)
   rw[hm,inT_meet,hm]
   refine congrArg D.b (propext ⟨fun h=>?_,fun h=>?_⟩)
   . rw[crow_inj hmc hc h]
   . cases h
     exact eqDs_self _
 . rename_i h
   refine Or.inl ?_;(conv=>whnf)
   show D.b False=D.b (inT c d)
   refine congrArg D.b (propext ⟨fun h=>h.elim,fun h2=>?_⟩)
   rw[inT_meet] at h2
   rw[h2] at h
   exact h rfl
end Go.Proofs.YtcglkonooeddfaaGreatDoor
namespace Go.Proofs.YtcglkonooeddfaaGreatDoor
open Go Go.Vx
theorem fill_at{t:Str}{i:Nat}(hi:i<t.length):(t.take i++List.replicate (t.length - i) (0:UInt8))[i]? = some 0:=by
 rw[List.getElem?_append_right (by simp;omega)]
 simp[List.getElem?_replicate]
 omega
theorem fill_set{t:Str}{i:Nat}{b:UInt8}(h:t[i]? = some b):(t.take i++List.replicate (t.length - i) (0:UInt8)).set i b=t.take (i+1)++List.replicate (t.length - (i+1)) 0:=by
 have hi:i<t.length:=(gSm0.1 h).1
 rw[List.set_append,if_neg (by simp;omega)]
 rw[show t.length - i=(t.length - (i+1))+1 by omega,List.replicate_succ]
 rw[show i - (t.take i).length=0 by simp;omega]
 rw[List.set_cons_zero,List.take_add_one,h]
 simp
end Go.Proofs.YtcglkonooeddfaaGreatDoor
