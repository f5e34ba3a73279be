/- The walks and the plain laws that a law of networks needs, part 6 of 6. -/
import Derived.Test.YtcglkonooeddfaaGreatDoorPVE
import Derived.Lib.ItoaLen
import Derived.Test.YtcglkonooeddfaaGreatDoorRows
import Derived.ProofKit
import Derived.OpenShut
import Derived.LaidMore
import Derived.Lay
import Derived.Lib.LaidTab
set_option linter.unusedVariables false
set_option linter.unusedSimpArgs false
namespace Go.Proofs.YtcglkonooeddfaaGreatDoor
open Go Go.Vx
set_option maxRecDepth 100000 in
set_option maxHeartbeats 16000000 in
theorem mdeeds_at(hW:WordOk)(hI:ItoaOk)(c:Config)(hc:c.Ok)(ht:c.Tx)(hh:HeadOk c.b)(hn:(nameO c.b).1=0) :
    FSpecH Tryz.prog T [] 77 [.agg c.row] (fun d rows M=>(d = .tup [.i .i64 (deedO c.b).1,.s (deedO c.b).2]/\rows=[])/\M=[]):=by
 have hcb:=hc.boxes
 have hbl:(c.boxes.l.map Box.row).length=c.boxes.l.length:=by simp
 refine FSpecH.of_ok0 tok Tryz.func77 rfl Tryz.call77 (by simp) ?_
 refine OkM.seq ?_
 refine OkM.region tok ?_
 (conv=>whnf)
 refine OkM.pubB rfl ?_
 (conv=>whnf)
 (try (conv=>whnf));repeat' (first|refine OkM.seq ?_|(refine OkM.region tok ?_;conv=>whnf)|refine OkM.block ?_|fail)
 refine OkM.loopU [1,11,12] [13] 0 0 (fun (i:Nat)=>[.i .i64 (i:Nat)]) (fun _ b=>b) (fun _ r=>r) (fun (i:Nat)=>[]) (fun (i:Nat)=>i<=c.boxes.l.length/\deedO c.b=firstE (doesE c.b) (c.b.boxes.take i) (c.b.boxes.drop i)) (fun (i:Nat)=>c.boxes.l.length - i) (0) (⟨Nat.zero_le _,rfl⟩) (by first|exact .refl _|exact .cons _ (.refl _)|exact List.nil_sublist _) ?_;(conv=>whnf);refine⟨by ((conv=>whnf);first|rfl|(simp[envCat, List.take_of_length_le, SI.row, Node.row, Pfx.row, Link.row, srow, Line.row, Rule.row, Box.row, Slc.row, Config.row];done)|(simp[envCat, List.take_of_length_le, SI.row, Node.row, Pfx.row, Link.row, srow, Line.row, Rule.row, Box.row, Slc.row, Config.row];rw[IntKind.wrap_i64];omega)),?_⟩
 rintro i ⟨hi,hfe⟩
 (conv=>whnf)
 by_cases hil:i<c.boxes.l.length
 . obtain⟨b,hb⟩:∃ b,c.boxes.l[i]? = some b:=⟨_,List.getElem?_eq_getElem hil⟩
   have hbI:c.boxes.l[((i:Nat):Int).toNat]? = some b:=hb
   have hbb:c.b.boxes[i]? = some b.b:=by simp[Config.b,hb]
   have hbx:=hc.box b (List.mem_of_getElem? hb)
   have hbt:=ht.boxes b (List.mem_of_getElem? hb)
   have hbi:=hbx.ins
   have hbo:=hbx.outs
   have hil':(b.ins.l.map srow).length=b.ins.l.length:=by simp
   have hol':(b.outs.l.map srow).length=b.outs.l.length:=by simp
   have hnm:(firstE (portE b.name) [] (b.ins.l++b.outs.l)).1=0:=(names_ok hn hbb).2.2
   obtain⟨ps,hps⟩:∃ ps,ps=b.ins.l++b.outs.l:=⟨_,rfl⟩
   have hpl:ps.length=b.ins.l.length+b.outs.l.length:=by rw[hps];simp
   rw[<- hps] at hnm
   (try (conv=>whnf));repeat' (first|(refine⟨_,_,_,_,_,mtSI,fun _ _=>?_⟩;conv=>whnf)|refine OkM.seq ?_|((first|refine OkM.region tok ?_|refine OkM.cond ?_);conv=>whnf)|refine OkM.block ?_|((first|refine OkM.skip ?_|refine nI ?_|refine ix _ (by assumption) ?_);conv=>whnf)|(refine bI ?_ ?_<;>intro<;>(conv=>whnf)<;>(try (exfalso;omega)))|fail)
   rename_i g hg
   refine OkM.loopU [1,5,6,11,12,13,26] [27] 0 2 (fun (y:Nat × List (Str × Int × Nat) × Nat)=>[.i .i64 (y.1:Nat)]) (fun _ b=>b) (fun _ r=>r) (fun (y:Nat × List (Str × Int × Nat) × Nat)=>[(g,mObj D.s fI y.2.1 y.2.2)]) (fun (y:Nat × List (Str × Int × Nat) × Nat)=>y.1<=ps.length/\PMap y.2.1 (ps.take y.1)) (fun (y:Nat × List (Str × Int × Nat) × Nat)=>ps.length - y.1) ((0,[],0)) (⟨Nat.zero_le _,PMap.nil⟩) (by first|exact .refl _|exact .cons _ (.refl _)|exact List.nil_sublist _) ?_;(conv=>whnf);refine⟨by ((conv=>whnf);first|rfl|(simp[envCat, List.take_of_length_le, SI.row, Node.row, Pfx.row, Link.row, srow, Line.row, Rule.row, Box.row, Slc.row, Config.row];done)|(simp[envCat, List.take_of_length_le, SI.row, Node.row, Pfx.row, Link.row, srow, Line.row, Rule.row, Box.row, Slc.row, Config.row];rw[IntKind.wrap_i64];omega)),?_⟩
   rintro⟨j,l2,c2⟩ ⟨hj,hpm⟩
   dsimp only at hj hpm ⊢
   (conv=>whnf)
   by_cases hjl:j<ps.length
   . obtain⟨s,hs⟩:∃ s,ps[j]? = some s:=⟨_,List.getElem?_eq_getElem hjl⟩
     have hsp:=port_at b hbi hbo j s (by rw[<- hps];exact hs) _ rfl
     (try (conv=>whnf));repeat' (first|(refine⟨_,_,_,_,_,_,_,0,_,_,mtSI,rfl,rfl,rfl,?_⟩;conv=>whnf)|refine OkM.seq ?_|((first|refine OkM.region tok ?_|refine OkM.region_tree (id:=8) tok follows [(2,4,[]),(1,6,[]),(2,6,[]),(4,6,[])] (.q 0 (.q 1 (.q 2 (.q 3 (.q 5 (.l 4 (.l 6 .nil))))))) (by kernel_rfl) ?_|refine OkM.cond ?_);conv=>whnf)|refine OkM.block ?_|((first|refine OkM.skip ?_|refine nI ?_);conv=>whnf)|(refine Or.inl ?_;(conv=>whnf);refine Or.inl ?_;(conv=>whnf);(repeat (refine aI ?_;conv=>whnf));refine⟨_,hsp,rfl,?_⟩;conv=>whnf)|(refine bI ?_ ?_<;>intro<;>(conv=>whnf)<;>(try (exfalso;omega)))|fail)
     refine⟨(j+1,(mput l2 c2 s j).1,(mput l2 c2 s j).2),by dsimp only;omega,⟨by dsimp only;omega,hpm.put hs (ports_new hnm hs).2 c2 j rfl⟩,.refl _,?_⟩
     (conv=>whnf)
     rfl
   . obtain rfl:j=ps.length:=by omega
     rw[List.take_length,hps] at hpm
     have hbs:=mbox_at hW hI c hc.fields hh b hbx hbt g l2 c2 hpm
     (try (conv=>whnf));repeat' (first|(refine Or.inr (Or.inl ?_);(conv=>whnf);(repeat (refine aI ?_;conv=>whnf));refine⟨_,hbs,?_⟩;rintro _ _ _ ⟨⟨rfl,rfl⟩,rfl⟩<;>(conv=>whnf))|refine OkM.seq ?_|((first|refine OkM.region tok ?_|refine OkM.cond ?_|refine OkM.skip ?_|refine OkM.exit ?_|refine OkM.ret ?_|refine nI ?_);conv=>whnf)|(refine bI ?_ ?_<;>intro<;>(conv=>whnf)<;>(try (exfalso;omega)))|fail)
     . rename_i he
       refine Or.inl ?_;(conv=>whnf)
       refine⟨?_,rfl⟩
       rw[hfe,firstE_bad hbb he]
       rfl
     . rename_i he
       refine⟨i+1,by omega,⟨by omega,by rw[hfe,firstE_ok hbb (Classical.not_not.1 he)]⟩,List.nil_sublist _,?_⟩
       (conv=>whnf)
       rfl
 . obtain rfl:i=c.boxes.l.length:=by omega
   rw[firstE_nil (by simp[Config.b])] at hfe
   (try (conv=>whnf));repeat' (first|refine OkM.seq ?_|((first|refine OkM.region tok ?_|refine OkM.cond ?_|refine OkM.exit ?_|refine OkM.ret ?_);conv=>whnf)|(refine bI ?_ ?_<;>intro<;>(conv=>whnf)<;>(try (exfalso;omega)))|fail)
   all_goals first
    | (exfalso;omega)
    | (refine Or.inl ?_;(conv=>whnf)
       exact⟨by rw[hfe];rfl,rfl⟩)
end Go.Proofs.YtcglkonooeddfaaGreatDoor
namespace Go.Proofs.YtcglkonooeddfaaGreatDoor
open Go Go.Vx
def fullInL(bs:List BoxB):List Str:=bs.flatMap fun b=>b.ins.map (dot b.name)
def fullOutL(bs:List BoxB):List Str:=bs.flatMap fun b=>b.outs.map (dot b.name)
def plcsN(n:Nat)(bs:List BoxB):List (Nat × Prop):=(bs.zipIdx n).flatMap fun x=>(x.1.ins.map fun _=>(x.2,True))++x.1.outs.map fun _=>(x.2,False)
theorem plcsN_cons(n:Nat)(b:BoxB)(bs:List BoxB):plcsN n (b :: bs)=(b.ins.map fun _=>(n,True))++(b.outs.map fun _=>(n,False))++plcsN (n+1) bs:=by
 simp[plcsN,List.zipIdx_cons]
theorem fullsL_cons(b:BoxB)(bs:List BoxB):fullsL (b :: bs)=b.ins.map (dot b.name)++b.outs.map (dot b.name)++fullsL bs:=by simp[fullsL,fullsB]
theorem plcsN_at{s:Str}:∀ {bs:List BoxB} {n k:Nat},(fullsL bs)[k]? = some s->∃ (i:Nat) (q:Prop) (b:BoxB),(plcsN n bs)[k]? = some (i,q)/\n<=i/\bs[i - n]? = some b/\((q ↔ True)/\s ∈ b.ins.map (dot b.name)\/(q ↔ False)/\s ∈ b.outs.map (dot b.name))
 | [],n,k,h=>by simp[fullsL] at h
 | b :: bs,n,k,h=>by
  rw[fullsL_cons] at h
  rw[plcsN_cons]
  by_cases h1:k<b.ins.length
  . rw[List.append_assoc,List.getElem?_append_left (by simpa using h1)] at h
    refine⟨n,True,b,?_,Nat.le_refl _,by simp,.inl ⟨Iff.rfl,List.mem_of_getElem? h⟩⟩
    rw[List.append_assoc,List.getElem?_append_left (by simpa using h1)]
    simp[List.getElem?_eq_getElem h1]
  by_cases h2:k<b.ins.length+b.outs.length
  . rw[List.getElem?_append_left (by simpa using h2),List.getElem?_append_right (by simp;omega)] at h
    refine⟨n,False,b,?_,Nat.le_refl _,by simp,.inr ⟨Iff.rfl,List.mem_of_getElem? h⟩⟩
    rw[List.getElem?_append_left (by simpa using h2),List.getElem?_append_right (by simp;omega)]
    simp only[List.length_map] at h ⊢
    have:k - b.ins.length<b.outs.length:=by omega
    simp[List.getElem?_eq_getElem this]
  . rw[List.getElem?_append_right (by simp;omega)] at h
    obtain⟨i,q,b2,e1,e2,e3,e4⟩:=plcsN_at (n:=n+1) h
    refine⟨i,q,b2,?_,by omega,?_,e4⟩
    . rw[List.getElem?_append_right (by simp;omega)]
      simp only[List.length_append,List.length_map] at e1 ⊢
      exact e1
    . rw[show i - n=(i - (n+1))+1 by omega,List.getElem?_cons_succ]
      exact e3
theorem plcs_at{bs:List BoxB}{s:Str}{k:Nat}(h:(fullsL bs)[k]? = some s):∃ (i:Nat) (q:Prop) (b:BoxB),(plcs bs)[k]? = some (i,q)/\bs[i]? = some b/\((q ↔ True)/\s ∈ b.ins.map (dot b.name)\/(q ↔ False)/\s ∈ b.outs.map (dot b.name)):=by
 obtain⟨i,q,b,e1,_,e3,e4⟩:=plcsN_at (n:=0) h
 exact⟨i,q,b,e1,by simpa using e3,e4⟩
theorem mem_fulls{bs:List BoxB}{s:Str}:s ∈ fullsL bs ↔ s ∈ fullInL bs\/s ∈ fullOutL bs:=by
 simp only[fullsL,fullInL,fullOutL,fullsB,List.mem_flatMap,List.map_append,List.mem_append]
 constructor
 . rintro⟨b,hb,h|h⟩
   . exact .inl ⟨b,hb,h⟩
   . exact .inr ⟨b,hb,h⟩
 . rintro (⟨b,hb,h⟩|⟨b,hb,h⟩)
   . exact⟨b,hb,.inl h⟩
   . exact⟨b,hb,.inr h⟩
theorem dot_inj{n n' p p':Str}(hn:46 ∉ n)(hn':46 ∉ n')(h:dot n p=dot n' p'):n=n'/\p=p':=by
 unfold dot at h
 simp only[List.append_assoc,List.singleton_append] at h
 induction n generalizing n' with
 | nil=>
  cases n' with
  | nil=>simp at h;exact⟨rfl,h⟩
  | cons c l=>simp at h;exact absurd (by rw[h.1];simp) hn'
 | cons a n ih=>
  cases n' with
  | nil=>simp at h;exact absurd (by rw[h.1];simp) hn
  | cons c l=>
   simp only[List.cons_append,List.cons.injEq] at h
   obtain⟨e1,e2⟩:=ih (fun g=>hn (by simp[g])) (fun g=>hn' (by simp[g])) h.2
   exact⟨by rw[h.1,e1],e2⟩
theorem nodup_of_take{α:Type}{l:List α}(h:∀ (i:Nat) x,l[i]? = some x->x ∉ l.take i):l.Nodup:=by
 rw[List.nodup_iff_pairwise_ne,List.pairwise_iff_getElem]
 intro i j hi hj hij e
 refine h j l[j] (List.getElem?_eq_getElem hj) ?_
 rw[<- e]
 exact List.mem_of_getElem? (i:=i) (by rw[List.getElem?_take_of_lt hij];exact List.getElem?_eq_getElem hi)
theorem name_nodot{s:Str}(h:MName s):(46:UInt8) ∉ s:=by
 intro hm
 obtain⟨i,hi⟩:=List.getElem?_of_mem hm
 have:=h.1.2.2 i 46 hi
 unfold nameAt Ltr Dgt at this
 simp at this
theorem fulls_nodup_of:∀ {bs:List BoxB},(∀ b ∈ bs,(46:UInt8) ∉ b.name/\(b.ins++b.outs).Nodup)->(bs.map BoxB.name).Nodup->(fullsL bs).Nodup
 | [],_,_=>List.nodup_nil
 | b :: bs,h,hn=>by
  obtain⟨n1,n2⟩:=List.nodup_cons.1 (by simpa using hn:(b.name :: bs.map BoxB.name).Nodup)
  have ih:=fulls_nodup_of (fun x hx=>h x (by simp[hx])) n2
  obtain⟨hb1,hb2⟩:=h b (by simp)
  have hmap:((b.ins++b.outs).map (dot b.name)).Nodup:=by
   refine List.Pairwise.map _ ?_ hb2
   intro x y hne e
   exact hne (dot_inj hb1 hb1 e).2
  rw[fullsL_cons,<- List.map_append]
  refine List.nodup_append.2 ⟨hmap,ih,fun x hx y hy e=>?_⟩
  subst e
  obtain⟨p,hp,rfl⟩:=List.mem_map.1 hx
  simp only[fullsL,fullsB,List.mem_flatMap,List.mem_map] at hy
  obtain⟨b2,hb2',p2,_,e⟩:=hy
  have:=(dot_inj (h b2 (by simp[hb2'])).1 hb1 e).1
  exact n1 (List.mem_map.2 ⟨b2,hb2',this⟩)
theorem fulls_nodup{c:ConfigB}(h:(nameO c).1=0):(fullsL c.boxes).Nodup:=by
 refine fulls_nodup_of (fun b hb=>?_) (nodup_of_take fun i x hx=>?_)
 . obtain⟨i,hi⟩:=List.getElem?_of_mem hb
   obtain⟨h1,_,h3⟩:=names_ok h hi
   exact⟨name_nodot h1,nodup_of_take fun j s hs=>(ports_new h3 hs).2⟩
 . simp only[List.getElem?_map,Option.map_eq_some_iff] at hx
   obtain⟨b,hb,rfl⟩:=hx
   rw[<- List.map_take]
   exact (names_ok h hb).2.1
theorem nodup_idx{l:List Str}(h:l.Nodup){i j:Nat}{s:Str}(hi:l[i]? = some s)(hj:l[j]? = some s):i=j:=
 (List.getElem?_inj (List.getElem?_eq_some_iff.1 hi).1 h).1 (hi.trans hj.symm)
theorem fullIn_at{s:Str}:∀ {bs:List BoxB} {n:Nat},s ∈ fullInL bs->∃ k i:Nat,(fullsL bs)[k]? = some s/\(plcsN n bs)[k]? = some (i,True)
 | [],n,h=>by simp[fullInL] at h
 | b :: bs,n,h=>by
  simp only[fullInL,List.flatMap_cons,List.mem_append] at h
  rcases h with h|h
  . obtain⟨k,hk⟩:=List.getElem?_of_mem h
    have hkl:=(List.getElem?_eq_some_iff.1 hk).1
    simp only[List.length_map] at hkl
    refine⟨k,n,?_,?_⟩
    . rw[fullsL_cons,List.append_assoc,List.getElem?_append_left (by simpa using hkl)];exact hk
    . rw[plcsN_cons,List.append_assoc,List.getElem?_append_left (by simpa using hkl)];simp[List.getElem?_eq_getElem hkl]
  . obtain⟨k,i,h1,h2⟩:=fullIn_at (bs:=bs) (n:=n+1) h
    refine⟨b.ins.length+b.outs.length+k,i,?_,?_⟩
    . rw[fullsL_cons,List.getElem?_append_right (by simp),<- h1]
      congr 1
      simp
    . rw[plcsN_cons,List.getElem?_append_right (by simp),<- h2]
      congr 1
      simp
theorem fullOut_at{s:Str}:∀ {bs:List BoxB} {n:Nat},s ∈ fullOutL bs->∃ k i:Nat,(fullsL bs)[k]? = some s/\(plcsN n bs)[k]? = some (i,False)
 | [],n,h=>by simp[fullOutL] at h
 | b :: bs,n,h=>by
  simp only[fullOutL,List.flatMap_cons,List.mem_append] at h
  rcases h with h|h
  . obtain⟨k,hk⟩:=List.getElem?_of_mem h
    have hkl:=(List.getElem?_eq_some_iff.1 hk).1
    simp only[List.length_map] at hkl
    refine⟨b.ins.length+k,n,?_,?_⟩
    . rw[fullsL_cons,List.getElem?_append_left (by simp;omega),List.getElem?_append_right (by simp)]
      simpa using hk
    . rw[plcsN_cons,List.getElem?_append_left (by simp;omega),List.getElem?_append_right (by simp)]
      simp[List.getElem?_eq_getElem hkl]
  . obtain⟨k,i,h1,h2⟩:=fullOut_at (bs:=bs) (n:=n+1) h
    refine⟨b.ins.length+b.outs.length+k,i,?_,?_⟩
    . rw[fullsL_cons,List.getElem?_append_right (by simp),<- h1]
      congr 1
      simp
    . rw[plcsN_cons,List.getElem?_append_right (by simp),<- h2]
      congr 1
      simp
theorem full_place{bs:List BoxB}(hnd:(fullsL bs).Nodup){s:Str}(hs:s ∈ fullsL bs):∃ (i:Nat) (q:Prop),(plcs bs)[(plc (fullsL bs) s).toNat]? = some (i,q)/\(q ↔ s ∈ fullInL bs)/\(¬ q ↔ s ∈ fullOutL bs):=by
 obtain⟨h0,hk⟩:=plc_at hs
 obtain⟨i,q,b,e1,e2,e3⟩:=plcs_at hk
 have hin:s ∈ fullInL bs->(q ↔ True):=fun h=>by
  obtain⟨k,j,h1,h2⟩:=fullIn_at (n:=0) h
  have:=nodup_idx hnd h1 hk
  subst this
  have h3:(plcs bs)[(plc (fullsL bs) s).toNat]? = some (j,True):=h2
  rw[e1] at h3
  cases h3
  exact Iff.rfl
 have hout:s ∈ fullOutL bs->(q ↔ False):=fun h=>by
  obtain⟨k,j,h1,h2⟩:=fullOut_at (n:=0) h
  have:=nodup_idx hnd h1 hk
  subst this
  have h3:(plcs bs)[(plc (fullsL bs) s).toNat]? = some (j,False):=h2
  rw[e1] at h3
  cases h3
  exact Iff.rfl
 refine⟨i,q,e1,⟨fun hq=>?_,fun h=>(hin h).2 trivial⟩,⟨fun hq=>?_,fun h hq=>(hout h).1 hq⟩⟩
 . rcases mem_fulls.1 hs with h|h
   . exact h
   . exact ((hout h).1 hq).elim
 . rcases mem_fulls.1 hs with h|h
   . exact absurd ((hin h).2 trivial) hq
   . exact h
end Go.Proofs.YtcglkonooeddfaaGreatDoor
namespace Go.Proofs.YtcglkonooeddfaaGreatDoor
open Go Go.Vx
theorem fullsL_len(bs:List BoxB):(fullsL bs).length=nPorts bs:=by
 induction bs with
 | nil=>rfl
 | cons b bs ih=>
  rw[fullsL_cons]
  simp only[List.length_append,List.length_map,ih,nPorts,List.map_cons,List.sum_cons]
theorem count_ok{c:ConfigB}(h:(countO c).1=0):c.boxes.length<=16/\nPorts c.boxes<=48/\c.links.length<=48/\c.slices.length<=8:=by
 rw[countO_if] at h
 split at h
 . cases h
 split at h
 . cases h
 split at h
 . cases h
 split at h
 . cases h
 split at h
 . cases h
 split at h
 . cases h
 split at h
 . cases h
 omega
theorem tx_names{c:Config}(ht:c.Tx):∀ b ∈ c.boxes.l,b.name.length<=1048576/\(∀ s ∈ b.ins.l,s.length<=1048576)/\∀ s ∈ b.outs.l,s.length<=1048576:=fun b hb=>
 ⟨(ht.boxes b hb).name,(ht.boxes b hb).ins,(ht.boxes b hb).outs⟩
structure NumOk(c:ConfigB)(lst:List (Str × Int × Nat)):Prop where
 nd:(fullsL c.boxes).Nodup
 map:NMap lst (fullsL c.boxes)
 keys:mKeys lst
theorem NumOk.some{c:ConfigB}{lst:List (Str × Int × Nat)}(h:NumOk c lst){s:Str}(hs:s ∈ fullsL c.boxes):∃ (i:Nat) (q:Prop),lk lst s=Option.some (plc (fullsL c.boxes) s)/\((plcs c.boxes).map plRow)[((lk lst s).getD 0).toNat]? = Option.some (plRow (i,q))/\0<=(lk lst s).getD 0/\(lk lst s).getD 0<((plcs c.boxes).length:Nat)/\(q ↔ s ∈ fullInL c.boxes)/\(¬ q ↔ s ∈ fullOutL c.boxes):=by
 obtain⟨i,q,h1,h2,h3⟩:=full_place h.nd hs
 have hl:=(h.map s).2 hs
 have h0:=plc_at hs
 have h4:=plc_lt (fullsL c.boxes) s
 refine⟨i,q,hl,?_,?_,?_,h2,h3⟩
 . rw[hl]
   simp only[Option.getD_some,List.getElem?_map,h1]
   rfl
 . rw[hl];exact h0.1
 . rw[hl,plcs_len];exact h4
theorem NumOk.three{c:ConfigB}{lst:List (Str × Int × Nat)}(h:NumOk c lst)(s:Str) :
    (s ∉ fullIn c/\s ∉ fullOut c/\¬ (lk lst s).isSome=true) \/
    (s ∈ fullIn c/\s ∉ fullOut c/\(lk lst s).isSome=true/\0<=(lk lst s).getD 0/\(lk lst s).getD 0<((plcs c.boxes).length:Nat)/\∃ i:Nat,((plcs c.boxes).map plRow)[((lk lst s).getD 0).toNat]? = Option.some (plRow (i,True))) \/
    (s ∉ fullIn c/\s ∈ fullOut c/\(lk lst s).isSome=true/\0<=(lk lst s).getD 0/\(lk lst s).getD 0<((plcs c.boxes).length:Nat)/\∃ i:Nat,((plcs c.boxes).map plRow)[((lk lst s).getD 0).toNat]? = Option.some (plRow (i,False))):=by
 by_cases hs:s ∈ fullsL c.boxes
 . obtain⟨i,q,h1,h2,h3,h4,h5,h6⟩:=h.some hs
   right
   have h7:(lk lst s).isSome=true:=by rw[h1];rfl
   by_cases hq:q
   . obtain rfl:q=True:=propext ⟨fun _=>trivial,fun _=>hq⟩
     exact Or.inl ⟨h5.1 trivial,fun g=>h6.2 g trivial,h7,h3,h4,i,h2⟩
   . obtain rfl:q=False:=propext ⟨fun g=>hq g,fun g=>g.elim⟩
     exact Or.inr ⟨fun g=>h5.2 g,h6.1 hq,h7,h3,h4,i,h2⟩
 . refine Or.inl ⟨fun g=>hs (mem_fulls.2 (Or.inl g)),fun g=>hs (mem_fulls.2 (Or.inr g)),?_⟩
   rw[(h.map s).1 hs]
   simp
theorem NumOk.some_iff{c:ConfigB}{lst:List (Str × Int × Nat)}(h:NumOk c lst)(s:Str):(lk lst s).isSome=true ↔ s ∈ fullsL c.boxes:=by
 constructor
 . intro g
   refine Classical.byContradiction fun hn=>?_
   rw[(h.map s).1 hn] at g
   cases g
 . intro g
   rw[(h.map s).2 g]
   rfl
theorem born_inj{κ α:Type}{l:List (κ × α × Nat)}:(l.map fun e=>e.2.2).Nodup->∀ {x y:κ × α × Nat},x ∈ l->y ∈ l->x.2.2=y.2.2->x=y:=by
 induction l with
 | nil=>intro _ x y hx;cases hx
 | cons z l ih=>
  intro h x y hx hy he
  rw[List.map_cons,List.nodup_cons] at h
  rcases List.mem_cons.1 hx with rfl|hx'<;>rcases List.mem_cons.1 hy with rfl|hy'
  . rfl
  . exact absurd (List.mem_map.2 ⟨y,hy',he.symm⟩) h.1
  . exact absurd (List.mem_map.2 ⟨x,hx',he⟩) h.1
  . exact ih h.2 hx' hy' he
theorem seen_less{κ α:Type}{l:List (κ × α × Nat)}{seen:List Nat}{e:κ × α × Nat}(he:e ∈ l)(hn:e.2.2 ∉ seen):(l.filter fun x=>decide (x.2.2 ∉ seen++[e.2.2])).length<(l.filter fun x=>decide (x.2.2 ∉ seen)).length:=by
 induction l with
 | nil=>cases he
 | cons y l ih=>
  have hsub:(l.filter fun x=>decide (x.2.2 ∉ seen++[e.2.2])).length<=(l.filter fun x=>decide (x.2.2 ∉ seen)).length:=by
   rw[<- List.countP_eq_length_filter,<- List.countP_eq_length_filter]
   exact List.countP_mono_left fun x _ h=>by simp only[decide_eq_true_eq,List.mem_append,not_or] at h ⊢;exact h.1
  rcases List.mem_cons.1 he with rfl|he
  . rw[List.filter_cons_of_neg (by simp),List.filter_cons_of_pos (by simpa using hn)]
    simp only[List.length_cons]
    omega
  . have:=ih he
    by_cases hy:y.2.2 ∈ seen
    . rw[List.filter_cons_of_neg (by simp[hy]),List.filter_cons_of_neg (by simp[hy])]
      exact this
    . have h1:(List.filter (fun x=>decide (x.2.2 ∉ seen)) (y :: l)).length=(List.filter (fun x=>decide (x.2.2 ∉ seen)) l).length+1:=by
        rw[List.filter_cons_of_pos (by simpa using hy)]
        rfl
      rw[h1]
      have h2:(List.filter (fun x=>decide (x.2.2 ∉ seen++[e.2.2])) (y :: l)).length<=(List.filter (fun x=>decide (x.2.2 ∉ seen++[e.2.2])) l).length+1:=by
       rw[List.filter_cons]
       split<;>simp
      omega
section
variable {c : ConfigB} {pre : List Link} {x : Link}
theorem linkE_frm(h:sidesI [x.frm] (fullOut c) (fullIn c) ≠ 0):linkE c pre x=(sidesI [x.frm] (fullOut c) (fullIn c),x.frm):=if_pos h
theorem linkE_to(h:¬ sidesI [x.frm] (fullOut c) (fullIn c) ≠ 0)(h2:sidesI [x.dst] (fullIn c) (fullOut c) ≠ 0):linkE c pre x=(sidesI [x.dst] (fullIn c) (fullOut c),x.dst):=by unfold linkE;rw[if_neg h,if_pos h2]
theorem linkE_cost(h:¬ sidesI [x.frm] (fullOut c) (fullIn c) ≠ 0)(h2:¬ sidesI [x.dst] (fullIn c) (fullOut c) ≠ 0)(h3:x.cost<1\/9999<x.cost):linkE c pre x=(71,x.frm):=by unfold linkE;rw[if_neg h,if_neg h2,if_pos h3]
theorem linkE_dbl(h:¬ sidesI [x.frm] (fullOut c) (fullIn c) ≠ 0)(h2:¬ sidesI [x.dst] (fullIn c) (fullOut c) ≠ 0)(h3:¬ (x.cost<1\/9999<x.cost))(h4:∃ y ∈ pre,y.frm=x.frm):linkE c pre x=(75,x.frm):=by unfold linkE;rw[if_neg h,if_neg h2,if_neg h3,if_pos h4]
theorem linkE_ok(h:¬ sidesI [x.frm] (fullOut c) (fullIn c) ≠ 0)(h2:¬ sidesI [x.dst] (fullIn c) (fullOut c) ≠ 0)(h3:¬ (x.cost<1\/9999<x.cost))(h4:¬ ∃ y ∈ pre,y.frm=x.frm):linkE c pre x=(0,[]):=by unfold linkE;rw[if_neg h,if_neg h2,if_neg h3,if_neg h4]
end
set_option maxRecDepth 100000 in
set_option maxHeartbeats 16000000 in
theorem mlinks_at(c:Config)(hc:c.Ok)(ht:c.Tx)(hn:(nameO c.b).1=0)(hcn:(countO c.b).1=0) :
    FSpecH Tryz.prog T [] 78 [.agg c.row] (fun d rows M=>(d = .tup [.i .i64 (linkO c.b).1,.s (linkO c.b).2]/\rows=[])/\M=[]):=by
 have hll:(c.links.l.map Link.row).length=c.links.l.length:=by simp
 have hL:=hc.links
 have hpn:(fullsL c.b.boxes).length<=1000:=by rw[fullsL_len];have:=(count_ok hcn).2.1;omega
 have hnum:=numbered_at c hc (tx_names ht) hpn
 have hpr:((plcs c.b.boxes).map plRow).length=(plcs c.b.boxes).length:=by simp
 refine FSpecH.of_ok0 tok Tryz.func78 rfl Tryz.call78 (by simp) ?_
 (try (conv=>whnf));repeat' (first|((first|refine⟨_,_,_,_,_,mtSI,fun _ _=>?_⟩|refine⟨_,_,_,_,_,_,_,mtSI,(by first|exact .head _|exact .tail _ (.head _)|exact .tail _ (.tail _ (.head _))|exact List.mem_append_left _ (by assumption)),fun _ _=>?_⟩);conv=>whnf)|(refine Or.inr (Or.inl ?_);(conv=>whnf);(repeat (refine aI ?_;conv=>whnf));refine⟨_,hnum , ?_⟩;rintro _ _ _ ⟨gn,lst,cn,rfl,rfl,rfl,hnm,hwf,hky⟩<;>(conv=>whnf))|refine OkM.seq ?_|(refine OkM.region tok ?_;conv=>whnf)|refine OkM.block ?_|fail)
 rename_i gf hgf gi hgi
 have hN:NumOk c.b lst:=⟨fulls_nodup hn,hnm,hky⟩
 refine OkM.loopU [1,4,5,6,23] [] 1 3 (fun (x:List (Str × Int × Nat) × Nat × List Nat)=>[]) (fun _ b=>b) (fun _ r=>r) (fun (x:List (Str × Int × Nat) × Nat × List Nat)=>[(gi,itObj gn cn x.2.2),(gf,mObj D.s fI x.1 x.2.1),(gn,mObj D.s fI lst cn)]) (fun (x:List (Str × Int × Nat) × Nat × List Nat)=>mKeys x.1/\∀ s,(lk x.1 s).isSome=true ↔ ∃ e ∈ lst,e.2.2 ∈ x.2.2/\e.1=s/\s ∈ fullOutL c.b.boxes) (fun (x:List (Str × Int × Nat) × Nat × List Nat)=>(lst.filter fun e=>decide (e.2.2 ∉ x.2.2)).length) (([],0,[])) (⟨List.nodup_nil,fun s=>by simp[lk_nil]⟩) (by first|exact .refl _|exact .cons _ (.refl _)|exact List.nil_sublist _) ?_;(conv=>whnf);refine⟨by ((conv=>whnf);first|rfl|(simp[envCat, List.take_of_length_le, SI.row, Node.row, Pfx.row, Link.row, srow, Line.row, Rule.row, Box.row, Slc.row, Config.row, plRow];done)|(simp[envCat, List.take_of_length_le, SI.row, Node.row, Pfx.row, Link.row, srow, Line.row, Rule.row, Box.row, Slc.row, Config.row, plRow];rw[IntKind.wrap_i64];omega)),?_⟩
 rintro⟨lf,cf,seen⟩ ⟨hkf,hfr⟩
 dsimp only at hkf hfr ⊢
 (conv=>whnf)
 refine OkM.seq ?_
 refine OkM.region tok ?_
 (conv=>whnf)
 refine⟨_,_,inferInstance,_,_,_,_,0,_,_,fun _=>rfl,fun _=>rfl,hwf,rfl,.tail _ (.tail _ (.head _)),?_,?_⟩
 rotate_left
 . intro e he hns
   have hle:=lk_of hky he
   have heF:e.1 ∈ fullsL c.b.boxes:=(hN.some_iff e.1).1 (by rw[hle];rfl)
   obtain⟨bi,q,h1,h2,h3,h4,h5,h6⟩:=hN.some heF
   rw[hle] at h2 h3 h4
   simp only[Option.getD_some] at h2 h3 h4
   (conv=>whnf)
   (try (conv=>whnf));repeat' (first|((first|refine⟨_,_,inferInstance,_,_,_,_,0,_,_,e,fun _=>rfl,fun _=>rfl,hwf,rfl,.tail _ (.tail _ (.head _)),he,?_⟩|refine⟨_,_,_,_,_,_,_,1,_,_,mtSI,rfl,rfl,rfl,?_⟩);conv=>whnf)|refine OkM.seq ?_|((first|refine OkM.region tok ?_|refine OkM.cond ?_);conv=>whnf)|refine OkM.block ?_|((first|refine OkM.skip ?_|refine⟨_,by assumption,?_⟩);conv=>whnf)|(refine bI ?_ ?_<;>intro<;>(conv=>whnf)<;>(try (exfalso;omega)))|(refine aJ ?_;conv=>whnf)|fail)
   . refine⟨((mput lf cf e.1 e.2.1).1,(mput lf cf e.1 e.2.1).2,seen++[e.2.2]),seen_less he hns,⟨mput_keys hkf _ _,fun s=>?_⟩,List.Sublist.refl _,?_⟩
     . dsimp only
       have hq:e.1 ∈ fullOutL c.b.boxes:=h6.1 (by assumption)
       rw[mput_lk]
       by_cases hs:s=e.1
       . rw[if_pos hs]
         exact⟨fun _=>⟨e,he,by simp,hs.symm,by rw[hs];exact hq⟩,fun _=>rfl⟩
       . rw[if_neg hs,hfr s]
         constructor
         . rintro⟨e',a1,a2,a3,a4⟩
           exact⟨e',a1,List.mem_append_left _ a2,a3,a4⟩
         . rintro⟨e',a1,a2,a3,a4⟩
           rcases List.mem_append.1 a2 with a2|a2
           . exact⟨e',a1,a2,a3,a4⟩
           . exact absurd (by rw[<- a3,born_inj hwf.1 a1 he (List.mem_singleton.1 a2)]) hs
     . (conv=>whnf);(first|rfl|simp[envCat, List.take_of_length_le, SI.row, Node.row, Pfx.row, Link.row, srow, Line.row, Rule.row, Box.row, Slc.row, Config.row, plRow])
   . refine⟨(lf,cf,seen++[e.2.2]),seen_less he hns,⟨hkf,fun s=>?_⟩,List.Sublist.refl _,?_⟩
     . dsimp only
       have hq:¬ e.1 ∈ fullOutL c.b.boxes:=fun g=>(by assumption:¬ ¬ (bi,q).2) (h6.2 g)
       rw[hfr s]
       constructor
       . rintro⟨e',a1,a2,a3,a4⟩
         exact⟨e',a1,List.mem_append_left _ a2,a3,a4⟩
       . rintro⟨e',a1,a2,a3,a4⟩
         rcases List.mem_append.1 a2 with a2|a2
         . exact⟨e',a1,a2,a3,a4⟩
         . exact absurd (by rw[<- a3,born_inj hwf.1 a1 he (List.mem_singleton.1 a2)] at a4;exact a4) hq
     . (conv=>whnf);(first|rfl|simp[envCat, List.take_of_length_le, SI.row, Node.row, Pfx.row, Link.row, srow, Line.row, Rule.row, Box.row, Slc.row, Config.row, plRow])
 . intro hall
   have hfree:∀ s,(lk lf s).isSome=true ↔ s ∈ fullOutL c.b.boxes/\∀ y ∈ c.links.l.take 0,y.frm ≠ s:=by
    intro s
    rw[hfr s]
    constructor
    . rintro⟨e,_,_,_,h⟩
      exact⟨h,fun y hy=>by simp at hy⟩
    . rintro⟨h,_⟩
      have hs:s ∈ fullsL c.b.boxes:=mem_fulls.2 (Or.inr h)
      have:=(hN.some_iff s).2 hs
      obtain⟨a,ha⟩:=Option.isSome_iff_exists.1 this
      obtain⟨n,hm⟩:=lk_mem ha
      exact⟨_,hm,hall _ hm,rfl,h⟩
   clear hfr
   (try (conv=>whnf));repeat' (first|refine OkM.seq ?_|((first|refine OkM.region tok ?_|refine OkM.cond ?_|refine OkM.exit ?_);conv=>whnf)|fail)
   refine Or.inr ?_
   (conv=>whnf)
   (try (conv=>whnf));repeat' (first|refine OkM.seq ?_|(refine OkM.region tok ?_;conv=>whnf)|refine OkM.block ?_|fail)
   refine OkM.loopU [6,9,40,41] [42] 1 3 (fun (x:Nat × List (Str × Int × Nat) × Nat)=>[.i .i64 x.1]) (fun _ b=>b) (fun _ r=>r) (fun (x:Nat × List (Str × Int × Nat) × Nat)=>[(gf,mObj D.s fI x.2.1 x.2.2),(gn,mObj D.s fI lst cn)]) (fun (x:Nat × List (Str × Int × Nat) × Nat)=>x.1<=c.links.l.length/\linkO c.b=firstE (linkE c.b) (c.links.l.take x.1) (c.links.l.drop x.1)/\mKeys x.2.1/\∀ s,(lk x.2.1 s).isSome=true ↔ s ∈ fullOutL c.b.boxes/\∀ y ∈ c.links.l.take x.1,y.frm ≠ s) (fun (x:Nat × List (Str × Int × Nat) × Nat)=>c.links.l.length - x.1) ((0,lf,cf)) (⟨Nat.zero_le _,rfl,hkf,hfree⟩) (by first|exact .refl _|exact .cons _ (.refl _)|exact List.nil_sublist _) ?_;(conv=>whnf);refine⟨by ((conv=>whnf);first|rfl|(simp[envCat, List.take_of_length_le, SI.row, Node.row, Pfx.row, Link.row, srow, Line.row, Rule.row, Box.row, Slc.row, Config.row, plRow];done)|(simp[envCat, List.take_of_length_le, SI.row, Node.row, Pfx.row, Link.row, srow, Line.row, Rule.row, Box.row, Slc.row, Config.row, plRow];rw[IntKind.wrap_i64];omega)),?_⟩
   rintro⟨k,lf,cf⟩ ⟨hk,hO,hkf,hfr⟩
   dsimp only at hk hO hkf hfr ⊢
   by_cases hlt:k<c.links.l.length
   . obtain⟨x,hx⟩:∃ x,c.links.l[k]? = some x:=⟨_,List.getElem?_eq_getElem hlt⟩
     have hxr:(c.links.l.map Link.row)[k]? = some x.row:=by rw[List.getElem?_map,hx];rfl
     (conv=>whnf)
     (try (conv=>whnf));repeat' (first|refine OkM.seq ?_|((first|refine OkM.region tok ?_|refine OkM.cond ?_);conv=>whnf)|refine OkM.block ?_|((first|refine OkM.skip ?_|refine ix _ (by assumption) ?_);conv=>whnf)|(refine bI ?_ ?_<;>intro<;>(conv=>whnf)<;>(try (exfalso;omega)))|fail)
     have hdr:linkO c.b=if (linkE c.b (c.links.l.take k) x).1 ≠ 0 then linkE c.b (c.links.l.take k) x else firstE (linkE c.b) (c.links.l.take (k+1)) (c.links.l.drop (k+1)):=by rw[hO,firstE_split hx]
     rcases hN.three x.frm with⟨a1,a2,a3⟩|⟨a1,a2,a3,a4,a5,ai,a6⟩|⟨a1,a2,a3,a4,a5,ai,a6⟩
     . have hE:linkE c.b (c.links.l.take k) x=(73,x.frm):=by
         have h1:sidesI [x.frm] (fullOut c.b) (fullIn c.b)=73:=by rw[sidesI_one,sideE_unk a2 a1]
         rw[linkE_frm (by rw[h1];decide),h1]
       refine Or.inr ?_;(conv=>whnf);refine⟨_,_,Tryz.func141,rfl,Tryz.call141,?_⟩;(conv=>whnf)
       (try (conv=>whnf));repeat' (first|(exact absurd a3 (by assumption))|(refine⟨_,_,_,_,_,_,_,_,mtSI,(by first|exact .head _|exact .tail _ (.head _)|exact .tail _ (.tail _ (.head _))|exact .tail _ (.tail _ (.tail _ (.head _)))|exact List.mem_append_left _ (by assumption)),rfl,?_⟩;conv=>whnf)|refine OkM.seq ?_|((first|refine OkM.region tok ?_|refine OkM.of_ok (Ok.region_draw tok follows (by kernel_rfl) ?_)|refine OkM.cond ?_|refine OkM.ret ?_);conv=>whnf)|(refine bI ?_ ?_<;>intro<;>(conv=>whnf)<;>(try (exfalso;omega)))|fail)
       all_goals first
        | exact absurd a3 (by assumption)
        | (refine Or.inl ?_;(conv=>whnf)
           exact⟨by rw[hdr,hE];rfl,rfl⟩)
     . have hE:linkE c.b (c.links.l.take k) x=(74,x.frm):=by
         have h1:sidesI [x.frm] (fullOut c.b) (fullIn c.b)=74:=by rw[sidesI_one,sideE_side a2 a1]
         rw[linkE_frm (by rw[h1];decide),h1]
       have a7:¬ ((ai,True).2 ↔ False):=fun h=>h.1 trivial
       refine Or.inr ?_;(conv=>whnf);refine⟨_,_,Tryz.func141,rfl,Tryz.call141,?_⟩;(conv=>whnf)
       (try (conv=>whnf));repeat' (first|(exact absurd a3 (by assumption))|(exact absurd a7 (by assumption))|(refine⟨_,_,_,_,_,_,_,_,mtSI,(by first|exact .head _|exact .tail _ (.head _)|exact .tail _ (.tail _ (.head _))|exact .tail _ (.tail _ (.tail _ (.head _)))|exact List.mem_append_left _ (by assumption)),rfl,?_⟩;conv=>whnf)|refine OkM.seq ?_|((first|refine OkM.region tok ?_|refine OkM.of_ok (Ok.region_draw tok follows (by kernel_rfl) ?_)|refine OkM.cond ?_|refine OkM.skip ?_|refine OkM.ret ?_|refine⟨_,by assumption,?_⟩);conv=>whnf)|(refine bI ?_ ?_<;>intro<;>(conv=>whnf)<;>(try (exfalso;omega)))|(refine aJ ?_;conv=>whnf)|fail)
       all_goals first
        | (refine Or.inl ?_;(conv=>whnf)
           exact⟨by rw[hdr,hE];rfl,rfl⟩)
     . have h1:¬ sidesI [x.frm] (fullOut c.b) (fullIn c.b) ≠ 0:=by rw[sidesI_one,sideE_ok a2 (by simp)];simp
       have a7:(ai,False).2 ↔ False:=Iff.rfl
       have hE3:=linkE_to (pre:=c.links.l.take k) h1
       refine Or.inr ?_;(conv=>whnf);refine⟨_,_,Tryz.func141,rfl,Tryz.call141,?_⟩;(conv=>whnf)
       (try (conv=>whnf));repeat' (first|(exact absurd a3 (by assumption))|(exact absurd a7 (by assumption))|(refine⟨_,_,_,_,_,_,_,_,mtSI,(by first|exact .head _|exact .tail _ (.head _)|exact .tail _ (.tail _ (.head _))|exact .tail _ (.tail _ (.tail _ (.head _)))|exact List.mem_append_left _ (by assumption)),rfl,?_⟩;conv=>whnf)|refine OkM.seq ?_|((first|refine OkM.region tok ?_|refine OkM.cond ?_|refine OkM.skip ?_|refine OkM.ret ?_|refine⟨_,by assumption,?_⟩);conv=>whnf)|(refine bI ?_ ?_<;>intro<;>(conv=>whnf)<;>(try (exfalso;omega)))|(refine aJ ?_;conv=>whnf)|fail)
       rcases hN.three x.dst with⟨b1,b2,b3⟩|⟨b1,b2,b3,b4,b5,bi,b6⟩|⟨b1,b2,b3,b4,b5,bi,b6⟩
       . have hE:linkE c.b (c.links.l.take k) x=(73,x.dst):=by
           have h1:sidesI [x.dst] (fullIn c.b) (fullOut c.b)=73:=by rw[sidesI_one,sideE_unk b1 b2]
           rw[hE3 (by rw[h1];decide),h1]
         refine Or.inr ?_;(conv=>whnf);refine⟨_,_,Tryz.func141,rfl,Tryz.call141,?_⟩;(conv=>whnf)
         (try (conv=>whnf));repeat' (first|(exact absurd b3 (by assumption))|(refine⟨_,_,_,_,_,_,_,_,mtSI,(by first|exact .head _|exact .tail _ (.head _)|exact .tail _ (.tail _ (.head _))|exact .tail _ (.tail _ (.tail _ (.head _)))|exact List.mem_append_left _ (by assumption)),rfl,?_⟩;conv=>whnf)|refine OkM.seq ?_|((first|refine OkM.region tok ?_|refine OkM.of_ok (Ok.region_draw tok follows (by kernel_rfl) ?_)|refine OkM.cond ?_|refine OkM.ret ?_);conv=>whnf)|(refine bI ?_ ?_<;>intro<;>(conv=>whnf)<;>(try (exfalso;omega)))|fail)
         all_goals first
          | (refine Or.inl ?_;(conv=>whnf)
             exact⟨by rw[hdr,hE];rfl,rfl⟩)
       . have h2:¬ sidesI [x.dst] (fullIn c.b) (fullOut c.b) ≠ 0:=by rw[sidesI_one,sideE_ok b1 (by simp)];simp
         have b7:(bi,True).2 ↔ True:=Iff.rfl
         refine Or.inr ?_;(conv=>whnf);refine⟨_,_,Tryz.func141,rfl,Tryz.call141,?_⟩;(conv=>whnf)
         (try (conv=>whnf));repeat' (first|(exact absurd b3 (by assumption))|(exact absurd b7 (by assumption))|((first|refine⟨_,_,_,_,_,_,_,_,mtSI,(by first|exact .head _|exact .tail _ (.head _)|exact .tail _ (.tail _ (.head _))|exact .tail _ (.tail _ (.tail _ (.head _)))|exact List.mem_append_left _ (by assumption)),rfl,?_⟩|refine⟨_,_,_,_,_,_,_,0,_,mtSI,rfl,rfl,?_⟩);conv=>whnf)|refine OkM.seq ?_|((first|refine OkM.region tok ?_|refine OkM.of_ok (Ok.region_draw tok follows (by kernel_rfl) ?_)|refine OkM.cond ?_|refine OkM.skip ?_|refine OkM.ret ?_|refine nI ?_|refine⟨_,by assumption,?_⟩);conv=>whnf)|(refine bI ?_ ?_<;>intro<;>(conv=>whnf)<;>(try (exfalso;omega)))|(refine aJ ?_;conv=>whnf)|fail)
         all_goals first
          | (have hE:=linkE_cost (c:=c.b) (pre:=c.links.l.take k) (x:=x) h1 h2 (by omega)
             refine Or.inl ?_;(conv=>whnf)
             exact⟨by rw[hdr,hE];rfl,rfl⟩)
          | (have hE:=linkE_dbl (c:=c.b) (pre:=c.links.l.take k) (x:=x) h1 h2 (by omega) (by
               refine Classical.byContradiction fun hn=>(by assumption:¬ (lk lf x.frm).isSome=true) ((hfr x.frm).2 ⟨a2,fun y hy he=>hn ⟨y,hy,he⟩⟩))
             refine Or.inl ?_;(conv=>whnf)
             exact⟨by rw[hdr,hE];rfl,rfl⟩)
          | skip
         rename_i hc1 hc2 hfs
         have hfr0:=(hfr x.frm).1 (Classical.not_not.1 hfs)
         have hE:=linkE_ok (c:=c.b) (pre:=c.links.l.take k) (x:=x) h1 h2 (by omega) (fun⟨y,hy,he⟩=>hfr0.2 y hy he)
         refine⟨(k+1,mdel lf x.frm,cf),by dsimp only;omega,⟨by dsimp only;omega,by rw[hdr,hE];rfl,mdel_keys hkf _,fun s=>?_⟩,List.Sublist.refl _,?_⟩
         . dsimp only
           rw[mdel_lk hkf,List.take_add_one,hx]
           by_cases hs:s=x.frm
           . rw[if_pos hs]
             exact⟨fun h=>by simp at h,fun h=>absurd hs.symm (h.2 x (by simp))⟩
           . rw[if_neg hs,hfr s]
             constructor
             . rintro⟨g1,g2⟩
               refine⟨g1,fun y hy=>?_⟩
               rcases List.mem_append.1 hy with hy|hy
               . exact g2 y hy
               . simp at hy
                 rw[hy]
                 exact fun h=>hs h.symm
             . rintro⟨g1,g2⟩
               exact⟨g1,fun y hy=>g2 y (List.mem_append_left _ hy)⟩
         . (conv=>whnf)
           rfl
       . have hE:linkE c.b (c.links.l.take k) x=(74,x.dst):=by
           have h1:sidesI [x.dst] (fullIn c.b) (fullOut c.b)=74:=by rw[sidesI_one,sideE_side b1 b2]
           rw[hE3 (by rw[h1];decide),h1]
         have b7:¬ ((bi,False).2 ↔ True):=fun h=>h.2 trivial
         refine Or.inr ?_;(conv=>whnf);refine⟨_,_,Tryz.func141,rfl,Tryz.call141,?_⟩;(conv=>whnf)
         (try (conv=>whnf));repeat' (first|(exact absurd b3 (by assumption))|(exact absurd b7 (by assumption))|(refine⟨_,_,_,_,_,_,_,_,mtSI,(by first|exact .head _|exact .tail _ (.head _)|exact .tail _ (.tail _ (.head _))|exact .tail _ (.tail _ (.tail _ (.head _)))|exact List.mem_append_left _ (by assumption)),rfl,?_⟩;conv=>whnf)|refine OkM.seq ?_|((first|refine OkM.region tok ?_|refine OkM.of_ok (Ok.region_draw tok follows (by kernel_rfl) ?_)|refine OkM.cond ?_|refine OkM.skip ?_|refine OkM.ret ?_|refine⟨_,by assumption,?_⟩);conv=>whnf)|(refine bI ?_ ?_<;>intro<;>(conv=>whnf)<;>(try (exfalso;omega)))|(refine aJ ?_;conv=>whnf)|fail)
         all_goals first
          | (refine Or.inl ?_;(conv=>whnf)
             exact⟨by rw[hdr,hE];rfl,rfl⟩)
   . obtain rfl:k=c.links.l.length:=by omega
     rw[firstE_nil (by simp)] at hO
     (conv=>whnf)
     (try (conv=>whnf));repeat' (first|refine OkM.seq ?_|((first|refine OkM.region tok ?_|refine OkM.cond ?_|refine OkM.exit ?_|refine OkM.ret ?_);conv=>whnf)|(refine bI ?_ ?_<;>intro<;>(conv=>whnf)<;>(try (exfalso;omega)))|fail)
     all_goals first
      | (exfalso;omega)
      | (refine Or.inl ?_;(conv=>whnf)
         exact⟨by rw[hO];rfl,rfl⟩)
end Go.Proofs.YtcglkonooeddfaaGreatDoor
namespace Go.Proofs.YtcglkonooeddfaaGreatDoor
open Go Go.Vx
section
variable {c : ConfigB} {pre : List Str} {p : Str}
theorem sportE_unk(h:p ∉ fullIn c/\p ∉ fullOut c):sportE c pre p=(73,p):=if_pos h
theorem sportE_dbl(h:¬ (p ∉ fullIn c/\p ∉ fullOut c))(h2:p ∈ pre):sportE c pre p=(72,p):=by unfold sportE;rw[if_neg h,if_pos h2]
theorem sportE_ok(h:¬ (p ∉ fullIn c/\p ∉ fullOut c))(h2:p ∉ pre):sportE c pre p=(0,[]):=by unfold sportE;rw[if_neg h,if_neg h2]
variable {pr : List SlcB} {s : SlcB}
theorem sliceE_bad(h:¬ MName s.name):sliceE c pr s=(36,s.name):=if_pos h
theorem sliceE_dbl(h:MName s.name)(h2:s.name ∈ pr.map SlcB.name):sliceE c pr s=(72,s.name):=by
 unfold sliceE
 rw[if_neg fun g=>g h,if_pos (by obtain⟨x,hx,e⟩:=List.mem_map.1 h2;exact⟨x,hx,e⟩)]
theorem sliceE_ok(h:MName s.name)(h2:s.name ∉ pr.map SlcB.name):sliceE c pr s=orE (firstE (sportE c) [] s.ports) (if chkE (fds c.fields) (nds s.whr) ≠ 0 then (77,s.name) else (0,[])):=by
 unfold sliceE
 rw[if_neg fun g=>g h,if_neg (by rintro⟨x,hx,e⟩;exact h2 (List.mem_map.2 ⟨x,hx,e⟩))]
end
set_option maxRecDepth 100000 in
set_option maxHeartbeats 16000000 in
theorem mslices_at(hN:∀ s,FSpec Tryz.prog T 138 [.s s] (fun d _=>d = .b (MName s)))(c:Config)(hc:c.Ok)(ht:c.Tx)(hn:(nameO c.b).1=0)(hcn:(countO c.b).1=0) :
    FSpecH Tryz.prog T [] 79 [.agg c.row] (fun d rows M=>(d = .tup [.i .i64 (sliceO c.b).1,.s (sliceO c.b).2]/\rows=[])/\M=[]):=by
 have hll:(c.slices.l.map Slc.row).length=c.slices.l.length:=by simp
 have hL:=hc.slices
 have hpn:(fullsL c.b.boxes).length<=1000:=by rw[fullsL_len];have:=(count_ok hcn).2.1;omega
 have hnum:=numbered_at c hc (tx_names ht) hpn
 have hpr:((plcs c.b.boxes).map plRow).length=(plcs c.b.boxes).length:=by simp
 refine FSpecH.of_ok0 tok Tryz.func79 rfl Tryz.call79 (by simp) ?_
 (try (conv=>whnf));repeat' (first|(refine⟨_,_,_,_,_,mtSI,fun _ _=>?_⟩;conv=>whnf)|(refine Or.inr (Or.inl ?_);(conv=>whnf);(repeat (refine aI ?_;conv=>whnf));refine⟨_,hnum , ?_⟩;rintro _ _ _ ⟨gn,lst,cn,rfl,rfl,rfl,hnm,hwf,hky⟩<;>(conv=>whnf))|refine OkM.seq ?_|(refine OkM.region tok ?_;conv=>whnf)|refine OkM.block ?_|fail)
 rename_i g hg
 have hNo:NumOk c.b lst:=⟨fulls_nodup hn,hnm,hky⟩
 have hin:∀ p,(lk lst p).isSome=true ↔ ¬ (p ∉ fullIn c.b/\p ∉ fullOut c.b):=fun p=>by
  rw[hNo.some_iff,mem_fulls]
  constructor
  . rintro (h|h) ⟨h1,h2⟩
    . exact h1 h
    . exact h2 h
  . intro h
    by_cases h1:p ∈ fullIn c.b
    . exact Or.inl h1
    . exact Or.inr (Classical.byContradiction fun h2=>h ⟨h1,h2⟩)
 refine OkM.loopU [1,5,6,25,26] [27] 1 1 (fun (x:Nat × List (Str × Int × Nat) × Nat)=>[.i .i64 (x.1:Nat)]) (fun _ b=>b) (fun _ r=>r) (fun (x:Nat × List (Str × Int × Nat) × Nat)=>[(g,mObj D.s fI x.2.1 x.2.2),(gn,mObj D.s fI lst cn)]) (fun (x:Nat × List (Str × Int × Nat) × Nat)=>x.1<=c.slices.l.length/\KMap x.2.1 ((c.b.slices.take x.1).map SlcB.name)/\sliceO c.b=firstE (sliceE c.b) (c.b.slices.take x.1) (c.b.slices.drop x.1)) (fun (x:Nat × List (Str × Int × Nat) × Nat)=>c.slices.l.length - x.1) ((0,[],0)) (⟨Nat.zero_le _,KMap.nil,rfl⟩) (by first|exact .refl _|exact .cons _ (.refl _)|exact List.nil_sublist _) ?_;(conv=>whnf);refine⟨by ((conv=>whnf);first|rfl|(simp[envCat, List.take_of_length_le, SI.row, Node.row, Pfx.row, Link.row, srow, Line.row, Rule.row, Box.row, Slc.row, Config.row, plRow];done)|(simp[envCat, List.take_of_length_le, SI.row, Node.row, Pfx.row, Link.row, srow, Line.row, Rule.row, Box.row, Slc.row, Config.row, plRow];rw[IntKind.wrap_i64];omega)),?_⟩
 rintro⟨i,ls,ck⟩ ⟨hi,hkm,hfe⟩
 dsimp only at hi hkm hfe ⊢
 (conv=>whnf)
 by_cases hil:i<c.slices.l.length
 . obtain⟨b,hb⟩:∃ b,c.slices.l[i]? = some b:=⟨_,List.getElem?_eq_getElem hil⟩
   have hbI:c.slices.l[((i:Nat):Int).toNat]? = some b:=hb
   have hbb:c.b.slices[i]? = some b.b:=by simp[Config.b,hb]
   have htkb:c.b.slices.take (i+1)=c.b.slices.take i++[b.b]:=by rw[List.take_add_one,hbb];rfl
   have hbx:=hc.slc b (List.mem_of_getElem? hb)
   have hbt:=ht.slices b (List.mem_of_getElem? hb)
   have hbp:=hbx.ports
   have hpl:(b.ports.l.map srow).length=b.ports.l.length:=by simp
   have hck:=pcheck_at (fds c.fields.l) c.fields.room (nds b.whr.l) b.whr.room (by rw[fds_len];have:=hc.fields;omega) (by have:=hbx.whr;simp[nds];omega) (nds_ok hbt.whr)
   rw[fds_row,nds_row] at hck
   (try (conv=>whnf));repeat' (first|((first|refine⟨_,_,_,_,_,_,_,_,mtSI,(by first|exact .head _|exact .tail _ (.head _)|exact .tail _ (.tail _ (.head _))|exact .tail _ (.tail _ (.tail _ (.head _)))|exact List.mem_append_left _ (by assumption)),rfl,?_⟩|refine⟨_,_,_,_,_,mtSI,fun _ _=>?_⟩|refine⟨_,_,_,_,_,_,_,0,_,_,mtSI,rfl,rfl,rfl,?_⟩);conv=>whnf)|refine OkM.seq ?_|((first|refine OkM.region tok ?_|refine OkM.of_ok (Ok.region_draw tok follows (by kernel_rfl) ?_)|refine OkM.cond ?_);conv=>whnf)|refine OkM.block ?_|((first|refine OkM.skip ?_|refine OkM.ret ?_|refine ix _ (by assumption) ?_);conv=>whnf)|(refine Or.inl ?_;(conv=>whnf);refine Or.inl ?_;(conv=>whnf);(repeat (refine aI ?_;conv=>whnf));refine⟨_,hN b.name,rfl,?_⟩;conv=>whnf)|(refine bI ?_ ?_<;>intro<;>(conv=>whnf)<;>(try (exfalso;omega)))|fail)
   . rename_i hx
     refine Or.inl ?_;(conv=>whnf)
     refine⟨?_,rfl⟩
     rw[hfe,firstE_bad hbb (by rw[sliceE_bad hx];simp),sliceE_bad hx]
     rfl
   . rename_i hx hy
     have hx:=Classical.not_not.1 hx
     have hm:=(hkm _).1 hy
     refine Or.inl ?_;(conv=>whnf)
     refine⟨?_,rfl⟩
     rw[hfe,firstE_bad hbb (by rw[sliceE_dbl hx hm];simp),sliceE_dbl hx hm]
     rfl
   rename_i hx hy g2 hg2
   have hx:=Classical.not_not.1 hx
   have hm:b.b.name ∉ (c.b.slices.take i).map SlcB.name:=fun h=>hy ((hkm _).2 h)
   rw[firstE_split hbb,sliceE_ok hx hm] at hfe
   refine OkM.loopU [1,5,6,8,11,25,26,27,54,55] [56] 1 2 (fun (y:Nat × List (Str × Int × Nat) × Nat)=>[.i .i64 (y.1:Nat)]) (fun _ b=>b) (fun _ r=>r) (fun (y:Nat × List (Str × Int × Nat) × Nat)=>[(g2,mObj D.s fI y.2.1 y.2.2),(g,mObj D.s fI (mput ls ck b.name i).1 (mput ls ck b.name i).2),(gn,mObj D.s fI lst cn)]) (fun (y:Nat × List (Str × Int × Nat) × Nat)=>y.1<=b.ports.l.length/\KMap y.2.1 (b.ports.l.take y.1)/\firstE (sportE c.b) [] b.ports.l=firstE (sportE c.b) (b.ports.l.take y.1) (b.ports.l.drop y.1)) (fun (y:Nat × List (Str × Int × Nat) × Nat)=>b.ports.l.length - y.1) ((0,[],0)) (⟨Nat.zero_le _,KMap.nil,rfl⟩) (by first|exact .refl _|exact .cons _ (.refl _)|exact List.nil_sublist _) ?_;(conv=>whnf);refine⟨by ((conv=>whnf);first|rfl|(simp[envCat, List.take_of_length_le, SI.row, Node.row, Pfx.row, Link.row, srow, Line.row, Rule.row, Box.row, Slc.row, Config.row, plRow];done)|(simp[envCat, List.take_of_length_le, SI.row, Node.row, Pfx.row, Link.row, srow, Line.row, Rule.row, Box.row, Slc.row, Config.row, plRow];rw[IntKind.wrap_i64];omega)),?_⟩
   rintro⟨j,l2,c2⟩ ⟨hj,hkm2,hfe2⟩
   dsimp only at hj hkm2 hfe2 ⊢
   (conv=>whnf)
   by_cases hjl:j<b.ports.l.length
   . obtain⟨s,hs⟩:∃ s,b.ports.l[j]? = some s:=⟨_,List.getElem?_eq_getElem hjl⟩
     have hsr:(b.ports.l.map srow)[j]? = some (srow s):=by rw[List.getElem?_map,hs];rfl
     have htk:b.ports.l.take (j+1)=b.ports.l.take j++[s]:=by rw[List.take_add_one,hs];rfl
     (try (conv=>whnf));repeat' (first|((first|refine⟨_,_,_,_,_,_,_,_,mtSI,(by first|exact .head _|exact .tail _ (.head _)|exact .tail _ (.tail _ (.head _))|exact .tail _ (.tail _ (.tail _ (.head _)))|exact List.mem_append_left _ (by assumption)),rfl,?_⟩|refine⟨_,_,_,_,_,_,_,0,_,_,mtSI,rfl,rfl,rfl,?_⟩);conv=>whnf)|refine OkM.seq ?_|((first|refine OkM.region tok ?_|refine OkM.cond ?_);conv=>whnf)|refine OkM.block ?_|((first|refine OkM.skip ?_|refine OkM.ret ?_|refine nI ?_|refine ix _ (by assumption) ?_);conv=>whnf)|(refine bI ?_ ?_<;>intro<;>(conv=>whnf)<;>(try (exfalso;omega)))|fail)
     . rename_i hz
       have hu:=Classical.not_not.1 fun h=>hz ((hin s).2 h)
       rw[firstE_bad hs (by rw[sportE_unk hu];simp),sportE_unk hu] at hfe2
       change sliceO c.b=if (orE (firstE (sportE c.b) [] b.ports.l) _).1 ≠ 0 then orE (firstE (sportE c.b) [] b.ports.l) _ else _ at hfe
       rw[hfe2] at hfe
       refine Or.inl ?_;(conv=>whnf)
       refine⟨?_,rfl⟩
       rw[hfe]
       rfl
     . rename_i hz hv
       have hu:=(hin s).1 (Classical.not_not.1 hz)
       have hp:=(hkm2 s).1 hv
       rw[firstE_bad hs (by rw[sportE_dbl hu hp];simp),sportE_dbl hu hp] at hfe2
       change sliceO c.b=if (orE (firstE (sportE c.b) [] b.ports.l) _).1 ≠ 0 then orE (firstE (sportE c.b) [] b.ports.l) _ else _ at hfe
       rw[hfe2] at hfe
       refine Or.inl ?_;(conv=>whnf)
       refine⟨?_,rfl⟩
       rw[hfe]
       rfl
     . rename_i hz hv
       have hu:=(hin s).1 (Classical.not_not.1 hz)
       have hp:s ∉ b.ports.l.take j:=fun h=>hv ((hkm2 s).2 h)
       refine⟨(j+1,(mput l2 c2 s ((lk lst s).getD 0)).1,(mput l2 c2 s ((lk lst s).getD 0)).2),by dsimp only;omega,⟨by dsimp only;omega,by dsimp only;rw[htk];exact hkm2.put c2 s _,?_⟩,.refl _,?_⟩
       . rw[hfe2,firstE_ok hs (by rw[sportE_ok hu hp])]
       . (conv=>whnf)
         rfl
   . obtain rfl:j=b.ports.l.length:=by omega
     rw[firstE_nil (Nat.le_refl _)] at hfe2
     change sliceO c.b=if (orE (firstE (sportE c.b) [] b.ports.l) (if chkE (fds c.fields.l) (nds b.whr.l) ≠ 0 then (77,b.name) else (0,[]))).1 ≠ 0 then orE (firstE (sportE c.b) [] b.ports.l) (if chkE (fds c.fields.l) (nds b.whr.l) ≠ 0 then (77,b.name) else (0,[])) else _ at hfe
     rw[hfe2] at hfe
     (try (conv=>whnf));repeat' (first|refine OkM.seq ?_|((first|refine OkM.region tok ?_|refine OkM.of_ok (Ok.region_draw tok follows (by kernel_rfl) ?_)|refine OkM.cond ?_|refine OkM.skip ?_|refine OkM.exit ?_|refine OkM.ret ?_|refine nI ?_);conv=>whnf)|(refine Or.inl ?_;(conv=>whnf);refine Or.inl ?_;(conv=>whnf);(repeat (refine aI ?_;conv=>whnf));refine⟨_,hck,rfl,?_⟩;conv=>whnf)|(refine bI ?_ ?_<;>intro<;>(conv=>whnf)<;>(try (exfalso;omega)))|fail)
     . rename_i hz
       rw[if_pos hz] at hfe
       refine Or.inl ?_;(conv=>whnf)
       refine⟨?_,rfl⟩
       rw[hfe]
       rfl
     . rename_i hz
       rw[if_neg hz,if_neg (by simp[orE])] at hfe
       refine⟨(i+1,(mput ls ck b.name i).1,(mput ls ck b.name i).2),by dsimp only;omega,⟨by dsimp only;omega,?_,hfe⟩,.cons _ (.refl _),?_⟩
       . dsimp only
         rw[htkb,List.map_append]
         exact hkm.put ck b.name i
       . (conv=>whnf)
         rfl
 . obtain rfl:i=c.slices.l.length:=by omega
   rw[firstE_nil (by simp[Config.b])] at hfe
   (try (conv=>whnf));repeat' (first|refine OkM.seq ?_|((first|refine OkM.region tok ?_|refine OkM.cond ?_|refine OkM.exit ?_|refine OkM.ret ?_);conv=>whnf)|(refine bI ?_ ?_<;>intro<;>(conv=>whnf)<;>(try (exfalso;omega)))|fail)
   all_goals first
    | (exfalso;omega)
    | (refine Or.inl ?_;(conv=>whnf)
       exact⟨by rw[hfe];rfl,rfl⟩)
end Go.Proofs.YtcglkonooeddfaaGreatDoor
namespace Go.Proofs.YtcglkonooeddfaaGreatDoor
open Go Go.Vx
theorem part_of{f:FuncId}{ds:List D}{e:Er}(h:FSpecH Tryz.prog T [] f ds (fun d rows M=>(d = .tup [.i .i64 e.1,.s e.2]/\rows=[])/\M=[])):FSpec Tryz.prog T f ds (fun d _=>d = .tup [.i .i64 e.1,.s e.2]):=
 FSpecH.nil (h.mono fun _ _ _ h=>h.1.1)
theorem orE_bad{a b:Er}(h:a.1 ≠ 0):orE a b=a:=if_pos h
theorem orE_ok{a b:Er}(h:a.1=0):orE a b=b:=if_neg (fun g=>g h)
set_option maxRecDepth 100000 in
set_option maxHeartbeats 16000000 in
theorem mcheck_at(hW:WordOk)(hI:ItoaOk)(c:Config)(hc:c.Ok)(ht:c.Tx) :
    FSpec Tryz.prog T 35 [.agg c.row] (fun d _=>d = .tup [.i .i64 (checkO c.b).1,.s (checkO c.b).2]):=by
 have p0:=mhead_at c hc.fields
 have p1:=mcounts_at c hc
 have p2:=part_of (mnames_at misName_at c hc (tx_names ht))
 have p3:=fun hh hn=>part_of (mdeeds_at hW hI c hc ht hh hn)
 have p4:=fun hn hcn=>part_of (mlinks_at c hc ht hn hcn)
 have p5:=fun hn hcn=>part_of (mslices_at misName_at c hc ht hn hcn)
 refine FSpec.of_ok tok Tryz.func35 rfl Tryz.call35 (by simp) ?_
 (try (conv=>whnf));repeat' (first|refine Ok.seq ?_|(refine Ok.region tok ?_;conv=>whnf)|refine Ok.block ?_|fail)
 refine Ok.loopU [1,8,9] [10] 1 1 (fun (k:Nat)=>[.i .i64 (k:Nat)]) (fun _ b=>b) (fun _ r=>r) (fun (k:Nat)=>k<=6/\(0<k->(headO c.b).1=0)/\(1<k->(countO c.b).1=0)/\(2<k->(nameO c.b).1=0)/\(3<k->(deedO c.b).1=0)/\(4<k->(linkO c.b).1=0)/\(5<k->(sliceO c.b).1=0)) (fun (k:Nat)=>6 - k) (0) (⟨by omega,by omega,by omega,by omega,by omega,by omega,by omega⟩) ?_;(conv=>whnf);refine⟨by ((conv=>whnf);first|rfl|(simp[envCat, List.take_of_length_le, SI.row, Node.row, Pfx.row, Link.row, srow, Line.row, Rule.row, Box.row, Slc.row, Config.row, plRow];done)|(simp[envCat, List.take_of_length_le, SI.row, Node.row, Pfx.row, Link.row, srow, Line.row, Rule.row, Box.row, Slc.row, Config.row, plRow];rw[IntKind.wrap_i64];omega)),?_⟩
 rintro k ⟨hk,h0,h1,h2,h3,h4,h5⟩
 (conv=>whnf)
 obtain rfl|rfl|rfl|rfl|rfl|rfl|rfl:k=0\/k=1\/k=2\/k=3\/k=4\/k=5\/k=6:=by omega
 . have pp:=p0
   (try (conv=>whnf));repeat' (first|refine Ok.seq ?_|((first|refine Ok.region tok ?_|refine Ok.cond ?_);conv=>whnf)|refine Ok.block ?_|((first|refine Ok.skip ?_|refine Ok.ret ?_|refine nI ?_);conv=>whnf)|(refine Or.inl ?_;(conv=>whnf);(repeat (refine aI ?_;conv=>whnf));refine⟨_,pp,rfl,?_⟩;conv=>whnf)|(refine bI ?_ ?_<;>intro<;>(conv=>whnf)<;>(try (exfalso;omega)))|((first|refine aJ ?_|refine⟨_,rfl,?_⟩);conv=>whnf)|fail)
   all_goals first
    | (rename_i hz
       refine Or.inl ?_;(conv=>whnf)
       have:checkO c.b=headO c.b:=by unfold checkO;rw[orE_bad hz]
       rw[this]
       rfl)
    | (rename_i hz
       refine⟨1,by omega,⟨by omega,fun _=>Classical.not_not.1 hz,fun h=>absurd h (by omega),fun h=>absurd h (by omega),fun h=>absurd h (by omega),fun h=>absurd h (by omega),fun h=>absurd h (by omega)⟩,?_⟩
       (conv=>whnf)
       rfl)
 . have pp:=p1
   (try (conv=>whnf));repeat' (first|refine Ok.seq ?_|((first|refine Ok.region tok ?_|refine Ok.cond ?_);conv=>whnf)|refine Ok.block ?_|((first|refine Ok.skip ?_|refine Ok.ret ?_|refine nI ?_);conv=>whnf)|(refine Or.inl ?_;(conv=>whnf);(repeat (refine aI ?_;conv=>whnf));refine⟨_,pp,rfl,?_⟩;conv=>whnf)|(refine bI ?_ ?_<;>intro<;>(conv=>whnf)<;>(try (exfalso;omega)))|((first|refine aJ ?_|refine⟨_,rfl,?_⟩);conv=>whnf)|fail)
   all_goals first
    | (rename_i hz
       refine Or.inl ?_;(conv=>whnf)
       have:checkO c.b=countO c.b:=by unfold checkO;rw[orE_ok (h0 (by omega)),orE_bad hz]
       rw[this]
       rfl)
    | (rename_i hz
       refine⟨2,by omega,⟨by omega,fun _=>h0 (by omega),fun _=>Classical.not_not.1 hz,fun h=>absurd h (by omega),fun h=>absurd h (by omega),fun h=>absurd h (by omega),fun h=>absurd h (by omega)⟩,?_⟩
       (conv=>whnf)
       rfl)
 . have pp:=p2
   (try (conv=>whnf));repeat' (first|refine Ok.seq ?_|((first|refine Ok.region tok ?_|refine Ok.cond ?_);conv=>whnf)|refine Ok.block ?_|((first|refine Ok.skip ?_|refine Ok.ret ?_|refine nI ?_);conv=>whnf)|(refine Or.inl ?_;(conv=>whnf);(repeat (refine aI ?_;conv=>whnf));refine⟨_,pp,rfl,?_⟩;conv=>whnf)|(refine bI ?_ ?_<;>intro<;>(conv=>whnf)<;>(try (exfalso;omega)))|((first|refine aJ ?_|refine⟨_,rfl,?_⟩);conv=>whnf)|fail)
   all_goals first
    | (rename_i hz
       refine Or.inl ?_;(conv=>whnf)
       have:checkO c.b=nameO c.b:=by unfold checkO;rw[orE_ok (h0 (by omega)),orE_ok (h1 (by omega)),orE_bad hz]
       rw[this]
       rfl)
    | (rename_i hz
       refine⟨3,by omega,⟨by omega,fun _=>h0 (by omega),fun _=>h1 (by omega),fun _=>Classical.not_not.1 hz,fun h=>absurd h (by omega),fun h=>absurd h (by omega),fun h=>absurd h (by omega)⟩,?_⟩
       (conv=>whnf)
       rfl)
 . have pp:=(p3 (head_ok (h0 (by omega))) (h2 (by omega)))
   (try (conv=>whnf));repeat' (first|refine Ok.seq ?_|((first|refine Ok.region tok ?_|refine Ok.cond ?_);conv=>whnf)|refine Ok.block ?_|((first|refine Ok.skip ?_|refine Ok.ret ?_|refine nI ?_);conv=>whnf)|(refine Or.inl ?_;(conv=>whnf);(repeat (refine aI ?_;conv=>whnf));refine⟨_,pp,rfl,?_⟩;conv=>whnf)|(refine bI ?_ ?_<;>intro<;>(conv=>whnf)<;>(try (exfalso;omega)))|((first|refine aJ ?_|refine⟨_,rfl,?_⟩);conv=>whnf)|fail)
   all_goals first
    | (rename_i hz
       refine Or.inl ?_;(conv=>whnf)
       have:checkO c.b=deedO c.b:=by unfold checkO;rw[orE_ok (h0 (by omega)),orE_ok (h1 (by omega)),orE_ok (h2 (by omega)),orE_bad hz]
       rw[this]
       rfl)
    | (rename_i hz
       refine⟨4,by omega,⟨by omega,fun _=>h0 (by omega),fun _=>h1 (by omega),fun _=>h2 (by omega),fun _=>Classical.not_not.1 hz,fun h=>absurd h (by omega),fun h=>absurd h (by omega)⟩,?_⟩
       (conv=>whnf)
       rfl)
 . have pp:=(p4 (h2 (by omega)) (h1 (by omega)))
   (try (conv=>whnf));repeat' (first|refine Ok.seq ?_|((first|refine Ok.region tok ?_|refine Ok.cond ?_);conv=>whnf)|refine Ok.block ?_|((first|refine Ok.skip ?_|refine Ok.ret ?_|refine nI ?_);conv=>whnf)|(refine Or.inl ?_;(conv=>whnf);(repeat (refine aI ?_;conv=>whnf));refine⟨_,pp,rfl,?_⟩;conv=>whnf)|(refine bI ?_ ?_<;>intro<;>(conv=>whnf)<;>(try (exfalso;omega)))|((first|refine aJ ?_|refine⟨_,rfl,?_⟩);conv=>whnf)|fail)
   all_goals first
    | (rename_i hz
       refine Or.inl ?_;(conv=>whnf)
       have:checkO c.b=linkO c.b:=by unfold checkO;rw[orE_ok (h0 (by omega)),orE_ok (h1 (by omega)),orE_ok (h2 (by omega)),orE_ok (h3 (by omega)),orE_bad hz]
       rw[this]
       rfl)
    | (rename_i hz
       refine⟨5,by omega,⟨by omega,fun _=>h0 (by omega),fun _=>h1 (by omega),fun _=>h2 (by omega),fun _=>h3 (by omega),fun _=>Classical.not_not.1 hz,fun h=>absurd h (by omega)⟩,?_⟩
       (conv=>whnf)
       rfl)
 . have pp:=(p5 (h2 (by omega)) (h1 (by omega)))
   (try (conv=>whnf));repeat' (first|refine Ok.seq ?_|((first|refine Ok.region tok ?_|refine Ok.cond ?_);conv=>whnf)|refine Ok.block ?_|((first|refine Ok.skip ?_|refine Ok.ret ?_|refine nI ?_);conv=>whnf)|(refine Or.inl ?_;(conv=>whnf);(repeat (refine aI ?_;conv=>whnf));refine⟨_,pp,rfl,?_⟩;conv=>whnf)|(refine bI ?_ ?_<;>intro<;>(conv=>whnf)<;>(try (exfalso;omega)))|((first|refine aJ ?_|refine⟨_,rfl,?_⟩);conv=>whnf)|fail)
   all_goals first
    | (rename_i hz
       refine Or.inl ?_;(conv=>whnf)
       have:checkO c.b=sliceO c.b:=by unfold checkO;rw[orE_ok (h0 (by omega)),orE_ok (h1 (by omega)),orE_ok (h2 (by omega)),orE_ok (h3 (by omega)),orE_ok (h4 (by omega))]
       rw[this]
       rfl)
    | (rename_i hz
       refine⟨6,by omega,⟨by omega,fun _=>h0 (by omega),fun _=>h1 (by omega),fun _=>h2 (by omega),fun _=>h3 (by omega),fun _=>h4 (by omega),fun _=>Classical.not_not.1 hz⟩,?_⟩
       (conv=>whnf)
       rfl)
 . (try (conv=>whnf));repeat' (first|refine Ok.seq ?_|((first|refine Ok.region tok ?_|refine Ok.cond ?_|refine Ok.exit ?_|refine Ok.ret ?_);conv=>whnf)|(refine bI ?_ ?_<;>intro<;>(conv=>whnf)<;>(try (exfalso;omega)))|fail)
   all_goals first
    | (exfalso;omega)
    | (refine Or.inl ?_;(conv=>whnf)
       have h6:checkO c.b=sliceO c.b:=by unfold checkO;rw[orE_ok (h0 (by omega)),orE_ok (h1 (by omega)),orE_ok (h2 (by omega)),orE_ok (h3 (by omega)),orE_ok (h4 (by omega))]
       have h7:sliceO c.b=(0,[]):=firstE_emp (h5 (by omega))
       rw[h6,h7]
       rfl)
end Go.Proofs.YtcglkonooeddfaaGreatDoor
namespace Go.Proofs.YtcglkonooeddfaaGreatDoor
open Go Go.Vx
theorem check_parts{c:ConfigB}(h:(checkO c).1=0):(headO c).1=0/\(countO c).1=0/\(nameO c).1=0/\(deedO c).1=0/\(linkO c).1=0/\(sliceO c).1=0:=by
 unfold checkO at h
 by_cases h0:(headO c).1=0
 . rw[orE_ok h0] at h
   by_cases h1:(countO c).1=0
   . rw[orE_ok h1] at h
     by_cases h2:(nameO c).1=0
     . rw[orE_ok h2] at h
       by_cases h3:(deedO c).1=0
       . rw[orE_ok h3] at h
         by_cases h4:(linkO c).1=0
         . rw[orE_ok h4] at h
           exact⟨h0,h1,h2,h3,h4,h⟩
         . exact absurd (by rwa [orE_bad h4] at h) h4
       . exact absurd (by rwa [orE_bad h3] at h) h3
     . exact absurd (by rwa [orE_bad h2] at h) h2
   . exact absurd (by rwa [orE_bad h1] at h) h1
 . exact absurd (by rwa [orE_bad h0] at h) h0
open Classical in
noncomputable def findP(c:ConfigB)(s:Str):Int:=if (checkO c).1 ≠ 0 then -1 else if s ∈ fullsL c.boxes then plc (fullsL c.boxes) s else -1
set_option maxRecDepth 100000 in
set_option maxHeartbeats 16000000 in
theorem mFind_at(hW:WordOk)(hI:ItoaOk)(c:Config)(hc:c.Ok)(ht:c.Tx)(s:Str) :
    FSpecH Tryz.prog T [] 28 [.agg c.row,.s s] (fun d rows M=>(d = .i .i64 (findP c.b s)/\rows=[])/\M=[]):=by
 have hck:=mcheck_at hW hI c hc ht
 refine FSpecH.of_ok0 tok Tryz.func28 rfl Tryz.call28 (by simp) ?_
 (try (conv=>whnf));repeat' (first|refine OkM.seq ?_|((first|refine OkM.region tok ?_|refine OkM.cond ?_|refine OkM.skip ?_|refine OkM.ret ?_);conv=>whnf)|(refine Or.inl ?_;(conv=>whnf);refine Or.inl ?_;(conv=>whnf);(repeat (refine aI ?_;conv=>whnf));refine⟨_,hck,rfl,?_⟩;conv=>whnf)|(refine bI ?_ ?_<;>intro<;>(conv=>whnf)<;>(try (exfalso;omega)))|fail)
 . rename_i hz
   refine Or.inl ?_;(conv=>whnf)
   refine⟨?_,rfl⟩
   unfold findP
   rw[if_pos hz]
   rfl
 rename_i hz
 obtain⟨h0,h1,h2,h3,h4,h5⟩:=check_parts (Classical.not_not.1 hz)
 have hpn:(fullsL c.b.boxes).length<=1000:=by rw[fullsL_len];have:=(count_ok h1).2.1;omega
 have hnum:=numbered_at c hc (tx_names ht) hpn
 (try (conv=>whnf));repeat' (first|(refine⟨_,_,_,_,_,_,_,_,mtSI,(by first|exact .head _|exact .tail _ (.head _)|exact .tail _ (.tail _ (.head _))|exact .tail _ (.tail _ (.tail _ (.head _)))|exact List.mem_append_left _ (by assumption)),rfl,?_⟩;conv=>whnf)|(refine Or.inr (Or.inl ?_);(conv=>whnf);(repeat (refine aI ?_;conv=>whnf));refine⟨_,hnum , ?_⟩;rintro _ _ _ ⟨gn,lst,cn,rfl,rfl,rfl,hnm,hwf,hky⟩<;>(conv=>whnf))|refine OkM.seq ?_|((first|refine OkM.region tok ?_|refine OkM.cond ?_|refine OkM.skip ?_|refine OkM.ret ?_);conv=>whnf)|(refine bI ?_ ?_<;>intro<;>(conv=>whnf)<;>(try (exfalso;omega)))|fail)
 . rename_i hs
   have hNo:NumOk c.b lst:=⟨fulls_nodup h2,hnm,hky⟩
   have hsm:=(hNo.some_iff s).1 hs
   obtain⟨_,_,e,_⟩:=hNo.some hsm
   refine Or.inl ?_;(conv=>whnf)
   refine⟨?_,rfl⟩
   unfold findP
   rw[if_neg hz,if_pos hsm,e]
   rfl
 . rename_i hs
   have hNo:NumOk c.b lst:=⟨fulls_nodup h2,hnm,hky⟩
   have hsm:=fun h=>hs ((hNo.some_iff s).2 h)
   refine Or.inl ?_;(conv=>whnf)
   refine⟨?_,rfl⟩
   unfold findP
   rw[if_neg hz,if_neg hsm]
   rfl
end Go.Proofs.YtcglkonooeddfaaGreatDoor
namespace Go.Proofs.YtcglkonooeddfaaGreatDoor
open Go Go.Vx
open Classical in
noncomputable def fullS(p:Prop)(b:Box):Ls Str:=if p then b.ins else b.outs
noncomputable def fullN(p:Prop)(b:Box):List Str:=(fullS p b).l.map (dot b.name)
noncomputable def fullY(p:Prop)(l:List Box):List Str:=l.flatMap (fullN p)
theorem fullY_add(p:Prop)(l:List Box){k:Nat}{b:Box}(h:l[k]? = some b):fullY p (l.take (k+1))=fullY p (l.take k)++fullN p b:=by
 unfold fullY
 rw[List.take_add_one,h,List.flatMap_append]
 simp
theorem fullY_len(p:Prop)(l:List Box)(k:Nat):(fullY p (l.take k)).length<=(fullY p l).length:=by
 unfold fullY
 conv=>rhs;rw[<- List.take_append_drop k l]
 rw[List.flatMap_append,List.length_append]
 omega
theorem fullS_tt(b:Box):fullS True b=b.ins:=if_pos trivial
theorem fullS_ff(b:Box):fullS False b=b.outs:=if_neg (fun h=>h.elim)
theorem fullY_tt(c:Config):fullY True c.boxes.l=fullIn c.b:=by
 unfold fullY fullIn
 rw[show c.b.boxes=c.boxes.l.map Box.b from rfl,List.flatMap_map]
 congr 1
 funext b
 unfold fullN
 rw[fullS_tt]
 rfl
theorem fullY_ff(c:Config):fullY False c.boxes.l=fullOut c.b:=by
 unfold fullY fullOut
 rw[show c.b.boxes=c.boxes.l.map Box.b from rfl,List.flatMap_map]
 congr 1
 funext b
 unfold fullN
 rw[fullS_ff]
 rfl
set_option maxRecDepth 100000 in
set_option maxHeartbeats 8000000 in
theorem full_at(c:Config)(hc:c.Ok)(p:Prop)(htx:∀ b ∈ c.boxes.l,b.name.length<=1048576/\(∀ s ∈ b.ins.l,s.length<=1048576)/\∀ s ∈ b.outs.l,s.length<=1048576)(hn:(fullY p c.boxes.l).length<=1000) :
    FSpec Tryz.prog T 134 [.agg c.row,.b p] (fun d rows=>rows=[some (9,(fullY p c.boxes.l).map srow)]/\d = .own 0 (fullY p c.boxes.l).length):=by
 have hcb:=hc.boxes
 have hbl:(c.boxes.l.map Box.row).length=c.boxes.l.length:=by simp
 refine FSpec.of_ok tok Tryz.func134 rfl Tryz.call134 (by simp) ?_
 (try (conv=>whnf));repeat' (first|refine Ok.seq ?_|(refine Ok.region tok ?_;conv=>whnf)|refine Ok.block ?_|fail)
 refine Ok.ghost 5 9 rfl ?_
 (conv=>whnf)
 refine Ok.loopU [1,2] [5,6] 1 1 (fun (i:Nat)=>[.own 0 (fullY p (c.boxes.l.take i)).length,.i .i64 (i:Nat)]) (fun (i:Nat) (_:List (List D))=>[c.row]) (fun (i:Nat) (_:Vx.Rows)=>[some (9,(fullY p (c.boxes.l.take i)).map srow)]) (fun (i:Nat)=>i<=c.boxes.l.length) (fun (i:Nat)=>c.boxes.l.length - i) (0) (Nat.zero_le _) ?_;(conv=>whnf);refine⟨by ((conv=>whnf);first|rfl|(simp[envCat, List.take_of_length_le, SI.row, Node.row, Pfx.row, Link.row, srow, Line.row, Rule.row, Box.row, Slc.row, Config.row];done)|(simp[envCat, List.take_of_length_le, SI.row, Node.row, Pfx.row, Link.row, srow, Line.row, Rule.row, Box.row, Slc.row, Config.row];rw[IntKind.wrap_i64];omega)),?_⟩
 rintro i hi
 have hfl:=fullY_len p c.boxes.l i
 have hfm:((fullY p (c.boxes.l.take i)).map srow).length=(fullY p (c.boxes.l.take i)).length:=by simp
 (conv=>whnf)
 by_cases hil:i<c.boxes.l.length
 . obtain⟨b,hb⟩:∃ b,c.boxes.l[i]? = some b:=⟨_,List.getElem?_eq_getElem hil⟩
   have hbI:c.boxes.l[((i:Nat):Int).toNat]? = some b:=hb
   have hbx:=hc.box b (List.mem_of_getElem? hb)
   have hbi:=hbx.ins
   have hbo:=hbx.outs
   obtain⟨hbn,hbins,hbouts⟩:=htx b (List.mem_of_getElem? hb)
   have hil':(b.ins.l.map srow).length=b.ins.l.length:=by simp
   have hol':(b.outs.l.map srow).length=b.outs.l.length:=by simp
   have hadd:=fullY_add p c.boxes.l hb
   have hfl1:=fullY_len p c.boxes.l (i+1)
   (try (conv=>whnf));repeat' (first|refine Ok.seq ?_|((first|refine Ok.region tok ?_|refine Ok.cond ?_);conv=>whnf)|refine Ok.block ?_|((first|refine Ok.skip ?_|refine ix _ (by assumption) ?_);conv=>whnf)|(refine bI ?_ ?_<;>intro<;>(conv=>whnf)<;>(try (exfalso;omega)))|fail)
   . rename_i hp
     have hS:fullS p b=b.ins:=if_pos hp
     have hN:fullN p b=b.ins.l.map (dot b.name):=by unfold fullN;rw[hS]
     refine Ok.loopU [1,2,6,7,8] [5,9] 1 2 (fun (k:Nat)=>[.own 0 ((fullY p (c.boxes.l.take i)).length+k),.i .i64 (k:Nat)]) (fun (k:Nat) (_:List (List D))=>[c.row,b.row]) (fun (k:Nat) (_:Vx.Rows)=>[some (9,(fullY p (c.boxes.l.take i)++(b.ins.l.take k).map (dot b.name)).map srow)]) (fun (k:Nat)=>k<=b.ins.l.length) (fun (k:Nat)=>b.ins.l.length - k) (0) (Nat.zero_le _) ?_;(conv=>whnf);refine⟨by ((conv=>whnf);first|rfl|(simp[envCat, List.take_of_length_le, SI.row, Node.row, Pfx.row, Link.row, srow, Line.row, Rule.row, Box.row, Slc.row, Config.row];done)|(simp[envCat, List.take_of_length_le, SI.row, Node.row, Pfx.row, Link.row, srow, Line.row, Rule.row, Box.row, Slc.row, Config.row];rw[IntKind.wrap_i64];omega)),?_⟩
     rintro k hk
     rw[hadd,hN,List.length_append,List.length_map] at hfl1
     have htl:((fullY p (c.boxes.l.take i)++(b.ins.l.take k).map (dot b.name)).map srow).length=(fullY p (c.boxes.l.take i)).length+k:=by simp;omega
     (conv=>whnf)
     by_cases hkl:k<b.ins.l.length
     . obtain⟨s,hs⟩:∃ s,b.ins.l[k]? = some s:=⟨_,List.getElem?_eq_getElem hkl⟩
       have hsI:b.ins.l[((k:Nat):Int).toNat]? = some s:=hs
       have hsr:(b.ins.l.map srow)[((k:Nat):Int).toNat]? = some (srow s):=by rw[List.getElem?_map,hsI];rfl
       have hsl:=hbins s (List.mem_of_getElem? hs)
       have htk:b.ins.l.take (k+1)=b.ins.l.take k++[s]:=by rw[List.take_add_one,hs];rfl
       (try (conv=>whnf));repeat' (first|refine Ok.seq ?_|((first|refine Ok.region tok ?_|refine Ok.region_plan (id:=12) tok follows [(2,9,[8,3]),(7,9,[8]),(2,10,[9,8,3]),(7,10,[9,8]),(9,10,[])] [.q 0,.q 1,.q 2,.q 3,.q 4,.q 5,.q 6,.q 7,.q 8,.l 9,.l 10,.q 11] (by kernel_rfl) ?_|refine Ok.cond ?_);conv=>whnf)|refine Ok.block ?_|((first|refine Ok.skip ?_|refine nI ?_|refine ix _ (by assumption) ?_|refine Alt2.l (aI ?_)|refine⟨_,.inl ⟨rfl,rfl⟩,?_⟩|refine⟨_,_,rfl,rfl,?_⟩);conv=>whnf)|(refine bI ?_ ?_<;>intro<;>(conv=>whnf)<;>(try (exfalso;omega)))|(refine aJ ?_;conv=>whnf)|fail)
       refine⟨k+1,by omega,by omega,?_⟩
       rw[htk]
       (conv=>whnf);simp[envCat,srow,dot];exact⟨by omega,rfl,rfl⟩
     . obtain rfl:k=b.ins.l.length:=by omega
       (try (conv=>whnf));repeat' (first|refine Ok.seq ?_|((first|refine Ok.region tok ?_|refine Ok.cond ?_|refine Ok.exit ?_|refine nI ?_);conv=>whnf)|(refine bI ?_ ?_<;>intro<;>(conv=>whnf)<;>(try (exfalso;omega)))|fail)
       refine⟨i+1,by omega,by omega,?_⟩
       rw[hadd,hN]
       (conv=>whnf);simp[envCat,srow]
   . rename_i hp
     have hS:fullS p b=b.outs:=if_neg hp
     have hN:fullN p b=b.outs.l.map (dot b.name):=by unfold fullN;rw[hS]
     refine Ok.loopU [1,2,6,7,8] [5,9] 1 2 (fun (k:Nat)=>[.own 0 ((fullY p (c.boxes.l.take i)).length+k),.i .i64 (k:Nat)]) (fun (k:Nat) (_:List (List D))=>[c.row,b.row]) (fun (k:Nat) (_:Vx.Rows)=>[some (9,(fullY p (c.boxes.l.take i)++(b.outs.l.take k).map (dot b.name)).map srow)]) (fun (k:Nat)=>k<=b.outs.l.length) (fun (k:Nat)=>b.outs.l.length - k) (0) (Nat.zero_le _) ?_;(conv=>whnf);refine⟨by ((conv=>whnf);first|rfl|(simp[envCat, List.take_of_length_le, SI.row, Node.row, Pfx.row, Link.row, srow, Line.row, Rule.row, Box.row, Slc.row, Config.row];done)|(simp[envCat, List.take_of_length_le, SI.row, Node.row, Pfx.row, Link.row, srow, Line.row, Rule.row, Box.row, Slc.row, Config.row];rw[IntKind.wrap_i64];omega)),?_⟩
     rintro k hk
     rw[hadd,hN,List.length_append,List.length_map] at hfl1
     have htl:((fullY p (c.boxes.l.take i)++(b.outs.l.take k).map (dot b.name)).map srow).length=(fullY p (c.boxes.l.take i)).length+k:=by simp;omega
     (conv=>whnf)
     by_cases hkl:k<b.outs.l.length
     . obtain⟨s,hs⟩:∃ s,b.outs.l[k]? = some s:=⟨_,List.getElem?_eq_getElem hkl⟩
       have hsI:b.outs.l[((k:Nat):Int).toNat]? = some s:=hs
       have hsr:(b.outs.l.map srow)[((k:Nat):Int).toNat]? = some (srow s):=by rw[List.getElem?_map,hsI];rfl
       have hsl:=hbouts s (List.mem_of_getElem? hs)
       have htk:b.outs.l.take (k+1)=b.outs.l.take k++[s]:=by rw[List.take_add_one,hs];rfl
       (try (conv=>whnf));repeat' (first|refine Ok.seq ?_|((first|refine Ok.region tok ?_|refine Ok.region_plan (id:=12) tok follows [(2,9,[8,3]),(7,9,[8]),(2,10,[9,8,3]),(7,10,[9,8]),(9,10,[])] [.q 0,.q 1,.q 2,.q 3,.q 4,.q 5,.q 6,.q 7,.q 8,.l 9,.l 10,.q 11] (by kernel_rfl) ?_|refine Ok.cond ?_);conv=>whnf)|refine Ok.block ?_|((first|refine Ok.skip ?_|refine nI ?_|refine ix _ (by assumption) ?_|refine Alt2.l (aI ?_)|refine⟨_,.inl ⟨rfl,rfl⟩,?_⟩|refine⟨_,_,rfl,rfl,?_⟩);conv=>whnf)|(refine bI ?_ ?_<;>intro<;>(conv=>whnf)<;>(try (exfalso;omega)))|(refine aJ ?_;conv=>whnf)|fail)
       refine⟨k+1,by omega,by omega,?_⟩
       rw[htk]
       (conv=>whnf);simp[envCat,srow,dot];exact⟨by omega,rfl,rfl⟩
     . obtain rfl:k=b.outs.l.length:=by omega
       (try (conv=>whnf));repeat' (first|refine Ok.seq ?_|((first|refine Ok.region tok ?_|refine Ok.cond ?_|refine Ok.exit ?_|refine nI ?_);conv=>whnf)|(refine bI ?_ ?_<;>intro<;>(conv=>whnf)<;>(try (exfalso;omega)))|fail)
       refine⟨i+1,by omega,by omega,?_⟩
       rw[hadd,hN]
       (conv=>whnf);simp[envCat,srow]
 . obtain rfl:i=c.boxes.l.length:=by omega
   rw[List.take_length] at hfm ⊢
   (try (conv=>whnf));repeat' (first|refine Ok.seq ?_|((first|refine Ok.region tok ?_|refine Ok.cond ?_|refine Ok.exit ?_|refine Ok.ret ?_);conv=>whnf)|(refine bI ?_ ?_<;>intro<;>(conv=>whnf)<;>(try (exfalso;omega)))|fail)
   refine Or.inr (Or.inl ?_);(conv=>whnf)
   exact⟨rfl,by simp[oneD]⟩
end Go.Proofs.YtcglkonooeddfaaGreatDoor
namespace Go.Proofs.YtcglkonooeddfaaGreatDoor
open Go Go.Vx
theorem chkFrom_all{all:List Fd}:∀ (r:List Fd) (i:Nat) (sum:Int),r=all.drop i->(chkFrom all r i sum).1=0->∀ (k:Nat) f,i<=k->all[k]? = some f->NameP f.name/\¬ ∃ g ∈ all.take k,g.name=f.name
 | [],i,_,hr,_,k,f,hik,hk=>by
  have h1:all.length<=i:=List.drop_eq_nil_iff.1 hr.symm
  have:=(List.getElem?_eq_some_iff.1 hk).1
  omega
 | x :: r,i,sum,hr,h,k,f,hik,hk=>by
  by_cases hb:badF (all.take i) x sum
  . rw[chkFrom_bad hb] at h;cases h
  rw[chkFrom_ok hb] at h
  have hx:all[i]? = some x:=by
   have:=congrArg List.head? hr
   rw[List.head?_cons,List.head?_drop] at this
   exact this.symm
  by_cases hki:k=i
  . subst hki
    rw[hx] at hk
    cases hk
    refine⟨Classical.byContradiction fun hn=>hb (.inl hn),fun he=>hb (.inr (.inr (.inr (.inl he))))⟩
  . refine chkFrom_all r (i+1) _ ?_ h k f (by omega) hk
    rw[<- List.tail_drop,<- hr]
    rfl
theorem chk_names{l:List Fd}(h:(chkO l).1=0){k:Nat}{f:Fd}(hk:l[k]? = some f):f.name ≠ []/\¬ ∃ g ∈ l.take k,g.name=f.name:=by
 by_cases h1:12<l.length
 . rw[chkO_long h1] at h;cases h
 by_cases h2:l.length=0
 . rw[chkO_nil h2] at h;cases h
 rw[chkO_of h1 h2] at h
 obtain⟨h3,h4⟩:=chkFrom_all _ _ _ (by rw[List.drop_zero]) h k f (Nat.zero_le _) hk
 exact⟨h3.1,h4⟩
open Classical in
/-- The width of the last field of that name. -/
noncomputable def rbL(r:Str):List SI->Int->Int
 | [],v=>v
 | f :: l,v=>rbL r l (if f.s=r then f.n else v)
theorem rbL_app(r:Str):∀ (l:List SI) (f:SI) (v:Int),(f.s=r->rbL r (l++[f]) v=f.n)/\(f.s ≠ r->rbL r (l++[f]) v=rbL r l v)
 | [],f,v=>by
  refine⟨fun h=>?_,fun h=>?_⟩
  . show (if f.s=r then f.n else v)=f.n
    rw[if_pos h]
  . show (if f.s=r then f.n else v)=v
    rw[if_neg h]
 | x :: l,f,v=>rbL_app r l f _
theorem rbL_none{r:Str}:∀ {l:List SI} {v:Int},(∀ f ∈ l,f.s ≠ r)->rbL r l v=v
 | [],v,_=>rfl
 | f :: l,v,h=>by
  show rbL r l (if f.s=r then f.n else v)=v
  rw[if_neg (h f List.mem_cons_self),rbL_none fun g hg=>h g (List.mem_cons_of_mem _ hg)]
theorem rbL_split(r:Str):∀ (l1 l2:List SI) (v:Int),rbL r (l1++l2) v=rbL r l2 (rbL r l1 v)
 | [],_,_=>rfl
 | _ :: l1,l2,_=>rbL_split r l1 l2 _
theorem rbL_eq{c:ConfigB}(hh:HeadOk c):rbL c.routing c.fields 0=rbits c:=by
 have hch:(chkO (fds c.fields)).1=0:=by rw[hh.chk]
 by_cases hr:c.routing=[]
 . rw[rbL_none,rbits,if_pos hr]
   intro f hf he
   obtain⟨k,hk⟩:=List.getElem?_of_mem hf
   exact (chk_names hch (k:=k) (f:=f.fd) (by simp[fds,hk])).1 (he.trans hr)
 . obtain⟨k,f,_,h2,h3,h4,_,_,h5⟩:=rbits_at hh hr
   have hkl:=(List.getElem?_eq_some_iff.1 h2).1
   rw[h4,<- List.take_append_drop (k+1) c.fields,rbL_split,List.take_add_one,h2]
   rw[show rbL c.routing (List.take k c.fields++(some f).toList) 0=f.n from (rbL_app _ _ f 0).1 h3]
   refine rbL_none fun g hg he=>?_
   obtain⟨j,hj⟩:=List.getElem?_of_mem hg
   rw[List.getElem?_drop] at hj
   refine (chk_names hch (k:=k+1+j) (f:=g.fd) (by simp[fds,hj])).2 ⟨f.fd,?_,?_⟩
   . refine List.mem_of_getElem? (i:=k) ?_
     rw[List.getElem?_take_of_lt (by omega)]
     simp[fds,h2]
   . show f.s=g.s
     rw[h3,he]
theorem rbits_range{c:ConfigB}(hh:HeadOk c):0<=rbits c/\rbits c<=32:=by
 by_cases hr:c.routing=[]
 . rw[rbits,if_pos hr];omega
 . obtain⟨k,f,_,h2,h3,h4,h6,h7,h5⟩:=rbits_at hh hr
   omega
theorem shl_n{p:Int->Prop}{a b:Int}{v k:Nat}(ha:a=(v:Int))(hb:b=(k:Int)/\k<=62)(hv:v*tw k<9223372036854775808)(h:p ((v*tw k:Nat):Int)):∃ n,n=IntKind.i64.wrap (a*2 ^ (min b.toNat IntKind.i64.bits))/\p n:=by
 obtain⟨rfl,hk⟩:=hb
 subst ha
 refine⟨_,?_,h⟩
 have e1:min ((k:Int).toNat) IntKind.i64.bits=k:=by show min k 64=k;omega
 have e2:((v:Int)*2 ^ k:Int)=((v*tw k:Nat):Int):=by unfold tw;push_cast;rfl
 rw[e1,e2,wrap_nat hv]
theorem _root_.Go.Vx.FSpec.int0{P:Program}{T:Tab}{f:FuncId}{ds:List D}{k:IntKind}{n:Int}(h:FSpec P T f ds (fun d _=>d = .i k n)):FSpec P T f ds (fun d rows=>d = .i k n/\rows=[]):=by
 refine⟨h.call,fun V w args hV hl hR=>(h.run V w args hV hl hR).mono ?_⟩
 rintro e w' ⟨V',ω,row,v,d,rfl,rfl,hRS,hres⟩
 have hv:RS (szOf T) V' [] [] v (.i k n):=by
  cases hRS with
  | imm _ _ hi=>exact .imm _ _ hi
 exact⟨V',[],[],v,_,rfl,⟨rfl,rfl⟩,hv,hres.below,hres.le,hres.vok,hres.vold,rfl,fun r v e xs h=>by simp at h,fun r r' v v' x x' g h=>by simp at h,fun p u r v x _ h=>by simp at h⟩
set_option maxRecDepth 100000 in
set_option maxHeartbeats 16000000 in
theorem rprefix_at(c:Config)(hf:c.fields.l.length<=1048576)(hh:HeadOk c.b)(b:Box)(l:List Pfx)(i:Nat)(p:Pfx)(hi:l[i]? = some p)(hpl:l.length<=1048576){rl r:List (List D)}(hr:rl=l.map Pfx.row) :
    FSpec Tryz.prog T 133 [.agg c.row,.agg b.row,.lst 246 rl r,.i .i64 (i:Nat)] (fun d _=>d = .i .i64 (prefI c.b b.b (l.take i) p)):=by
 subst hr
 have hlr:(l.map Pfx.row).length=l.length:=by simp
 have hfr:(c.fields.l.map SI.row).length=c.fields.l.length:=by simp
 have hil:=(List.getElem?_eq_some_iff.1 hi).1
 have hiI:l[((i:Nat):Int).toNat]? = some p:=hi
 have hiR:(l.map Pfx.row)[((i:Nat):Int).toNat]? = some p.row:=by rw[List.getElem?_map,hiI];rfl
 have hrr:=rbits_range hh
 refine FSpec.of_ok tok Tryz.func133 rfl Tryz.call133 (by simp) ?_
 (try (conv=>whnf));repeat' (first|refine Ok.seq ?_|(refine Ok.region tok ?_;conv=>whnf)|refine Ok.block ?_|(refine ix _ (by assumption) ?_;conv=>whnf)|fail)
 refine Ok.loopU [2,3,4,5,9] [10,11] 0 3 (fun (k:Nat)=>[.i .i64 (rbL c.routing (c.fields.l.take k) 0),.i .i64 (k:Nat)]) (fun (k:Nat) (_:List (List D))=>[c.row,b.row,p.row]) (fun _ r=>r) (fun (k:Nat)=>k<=c.fields.l.length) (fun (k:Nat)=>c.fields.l.length - k) (0) (Nat.zero_le _) ?_;(conv=>whnf);refine⟨by ((conv=>whnf);first|rfl|(simp[envCat, List.take_of_length_le, SI.row, Node.row, Pfx.row, Link.row, srow, Line.row, Rule.row, Box.row, Slc.row, Config.row];done)|(simp[envCat, List.take_of_length_le, SI.row, Node.row, Pfx.row, Link.row, srow, Line.row, Rule.row, Box.row, Slc.row, Config.row];rw[IntKind.wrap_i64];omega)),?_⟩
 rintro k hk
 (conv=>whnf)
 by_cases hkl:k<c.fields.l.length
 . obtain⟨f,hfk⟩:∃ f,c.fields.l[k]? = some f:=⟨_,List.getElem?_eq_getElem hkl⟩
   have hfI:(c.fields.l.map SI.row)[((k:Nat):Int).toNat]? = some f.row:=by rw[List.getElem?_map];show (c.fields.l[k]?).map _=_;rw[hfk];rfl
   have htk:c.fields.l.take (k+1)=c.fields.l.take k++[f]:=by rw[List.take_add_one,hfk];rfl
   have hra:=rbL_app c.routing (c.fields.l.take k) f 0
   rw[<- htk] at hra
   (try (conv=>whnf));repeat' (first|refine Ok.seq ?_|((first|refine Ok.region tok ?_|refine Ok.region_draw tok follows (by kernel_rfl) ?_|refine Ok.cond ?_);conv=>whnf)|refine Ok.block ?_|((first|refine Ok.skip ?_|refine nI ?_|refine ix _ (by assumption) ?_);conv=>whnf)|(refine bI ?_ ?_<;>intro<;>(conv=>whnf)<;>(try (exfalso;omega)))|fail)
   . rename_i he
     refine⟨k+1,by omega,by omega,?_⟩
     rw[hra.1 he]
     (conv=>whnf)
     rfl
   . rename_i he
     refine⟨k+1,by omega,by omega,?_⟩
     rw[hra.2 he]
     (conv=>whnf)
     rfl
 obtain rfl:k=c.fields.l.length:=by omega
 rw[List.take_length,show rbL c.routing c.fields.l 0=_ from rbL_eq hh]
 obtain⟨K,hK⟩:∃ K:Nat,rbits c.b=K:=⟨(rbits c.b).toNat,by omega⟩
 have hsh1:rbits c.b=(K:Int)/\K<=62:=⟨hK,by omega⟩
 have hKt:(rbits c.b).toNat=K:=by omega
 have htw:(0:Int)<tw K:=by have:=tw_pos K;omega
 by_cases hA:rbits c.b=0\/p.len<0\/rbits c.b<p.len\/p.value<0\/(tw (rbits c.b).toNat:Int)<=p.value
 . have hbad:=prefI_bad (b:=b.b) (pre:=l.take i) hA
   rw[hKt] at hA
   rw[hbad]
   (try (conv=>whnf));repeat' (first|((with_reducible_and_instances refine shl_i (by assumption) ?_);conv=>whnf)|refine Ok.seq ?_|((first|refine Ok.region tok ?_|refine Ok.region_draw tok follows (by kernel_rfl) ?_|refine Ok.cond ?_|refine Ok.exit ?_|refine Ok.ret ?_);conv=>whnf)|(refine bI ?_ ?_<;>intro<;>(conv=>whnf)<;>(try (exfalso;omega)))|(refine aJ ?_;conv=>whnf)|fail)
   all_goals first
    | (exfalso;omega)
    | (refine Or.inl ?_;(conv=>whnf)
       rfl)
 have hA':=hA
 rw[hKt] at hA
 obtain⟨K2,hK2⟩:∃ K2:Nat,rbits c.b - p.len=K2:=⟨(rbits c.b - p.len).toNat,by omega⟩
 have hsh2:rbits c.b - p.len=(K2:Int)/\K2<=62:=⟨hK2,by omega⟩
 have hK2t:(rbits c.b - p.len).toNat=K2:=by omega
 obtain⟨V,hV⟩:∃ V:Nat,p.value=V:=⟨p.value.toNat,by omega⟩
 have hdl:V / tw K2*tw K2<9223372036854775808:=by
  have h1:=Nat.div_mul_le_self V (tw K2)
  have h2:=tw62 (k:=K) (by omega)
  omega
 have hmod:((V / tw K2*tw K2:Nat):Int) ≠ p.value ↔ p.value % (tw (rbits c.b - p.len).toNat:Int) ≠ 0:=by
  have h1:=Nat.div_add_mod V (tw K2)
  rw[Nat.mul_comm] at h1
  rw[hK2t,hV]
  have h2:(((V:Nat):Int) % (tw K2:Int))=((V % tw K2:Nat):Int):=by push_cast;rfl
  rw[h2]
  omega
 (try (conv=>whnf));repeat' (first|((with_reducible_and_instances (first|refine shl_i (by assumption) ?_|refine shr_i hV hsh2 ?_|refine shl_n rfl hsh2 hdl ?_));conv=>whnf)|refine Ok.seq ?_|((first|refine Ok.region tok ?_|refine Ok.region_draw tok follows (by kernel_rfl) ?_|refine Ok.cond ?_);conv=>whnf)|refine Ok.block ?_|((first|refine Ok.skip ?_|refine Ok.exit ?_|refine Ok.ret ?_|refine nI ?_);conv=>whnf)|(refine bI ?_ ?_<;>intro<;>(conv=>whnf)<;>(try (exfalso;omega)))|(refine aJ ?_;conv=>whnf)|fail)
 all_goals first
  | (exfalso;omega)
  | skip
 . rename_i hm
   refine Or.inl ?_;(conv=>whnf)
   rw[prefI_mod hA' (hmod.1 hm)]
   rfl
 rename_i hm
 have hm:=fun h=>hm (hmod.2 h)
 have hmp:¬ p.value % (tw (rbits c.b - p.len).toNat:Int) ≠ 0:=hm
 refine Ok.loopU [2,3,5,9] [12] 0 3 (fun (k:Nat)=>[.i .i64 (k:Nat)]) (fun (k:Nat) (_:List (List D))=>[c.row,b.row,p.row]) (fun _ r=>r) (fun (k:Nat)=>k<=i/\∀ (j:Nat) q,j<k->l[j]? = some q->¬ (q.value=p.value/\q.len=p.len)) (fun (k:Nat)=>i - k) (0) (⟨Nat.zero_le _,fun j q hj=>absurd hj (by omega)⟩) ?_;(conv=>whnf);refine⟨by ((conv=>whnf);first|rfl|(simp[envCat, List.take_of_length_le, SI.row, Node.row, Pfx.row, Link.row, srow, Line.row, Rule.row, Box.row, Slc.row, Config.row];done)|(simp[envCat, List.take_of_length_le, SI.row, Node.row, Pfx.row, Link.row, srow, Line.row, Rule.row, Box.row, Slc.row, Config.row];rw[IntKind.wrap_i64];omega)),?_⟩
 rintro k ⟨hk,hall⟩
 (conv=>whnf)
 by_cases hkl:k<i
 . obtain⟨q,hq⟩:∃ q,l[k]? = some q:=⟨_,List.getElem?_eq_getElem (by omega)⟩
   have hqI:l[((k:Nat):Int).toNat]? = some q:=hq
   have hqR:(l.map Pfx.row)[((k:Nat):Int).toNat]? = some q.row:=by rw[List.getElem?_map,hqI];rfl
   have next:¬ (q.value=p.value/\q.len=p.len)->∀ (j:Nat) x,j<k+1->l[j]? = some x->¬ (x.value=p.value/\x.len=p.len):=fun hn j x hj hx=>by
    by_cases hjk:j=k
    . subst hjk;rw[hq] at hx;cases hx;exact hn
    . exact hall j x (by omega) hx
   have hqt:q ∈ l.take i:=List.mem_of_getElem? (i:=k) (by rw[List.getElem?_take_of_lt hkl];exact hq)
   (try (conv=>whnf));repeat' (first|refine Ok.seq ?_|((first|refine Ok.region tok ?_|refine Ok.region_draw tok follows (by kernel_rfl) ?_|refine Ok.cond ?_);conv=>whnf)|refine Ok.block ?_|((first|refine Ok.skip ?_|refine Ok.ret ?_|refine nI ?_|refine ix _ (by assumption) ?_);conv=>whnf)|(refine bI ?_ ?_<;>intro<;>(conv=>whnf)<;>(try (exfalso;omega)))|fail)
   all_goals first
    | (refine Or.inl ?_;(conv=>whnf)
       rw[prefI_dup hA' hmp ⟨q,hqt,by assumption,by assumption⟩]
       rfl)
    | (refine⟨k+1,by omega,⟨by omega,next fun h=>?_⟩,?_⟩
       . first
           | exact absurd h.1 (by assumption)
           | exact absurd h.2 (by assumption)
       . (conv=>whnf)
         rfl)
 obtain rfl:k=i:=by omega
 have hno:¬ ∃ q ∈ l.take k,q.value=p.value/\q.len=p.len:=by
  rintro⟨q,hq,h⟩
  obtain⟨j,hj⟩:=List.getElem?_of_mem hq
  have hjl:j<k:=by have:=(List.getElem?_eq_some_iff.1 hj).1;rw[List.length_take] at this;omega
  rw[List.getElem?_take_of_lt hjl] at hj
  exact hall j q hjl hj h
 (try (conv=>whnf));repeat' (first|refine Ok.seq ?_|((first|refine Ok.region tok ?_|refine Ok.cond ?_|refine Ok.exit ?_|refine Ok.ret ?_);conv=>whnf)|(refine Or.inr (Or.inr (Or.inr (Or.inl ?_)));(conv=>whnf);(repeat (refine aI ?_;conv=>whnf));refine⟨_,(sides_at [p.dst] b.outs.l b.ins.l (show [[D.s p.dst]].take 1=[p.dst].map srow from rfl) rfl rfl).int0,?_⟩;rintro _ _ ⟨rfl,rfl⟩<;>(refine And.intro (by simp[gRowsP, grounds, D.ground, SI.row, Node.row, Pfx.row, Link.row, srow, Line.row, Rule.row, Box.row, Slc.row, Config.row]) ?_;conv=>whnf))|(refine bI ?_ ?_<;>intro<;>(conv=>whnf)<;>(try (exfalso;omega)))|fail)
 all_goals first
  | (exfalso;omega)
  | (refine Or.inl ?_;(conv=>whnf)
     rw[prefI_ok hA' hmp hno]
     rfl)
end Go.Proofs.YtcglkonooeddfaaGreatDoor
namespace Go.Proofs.YtcglkonooeddfaaGreatDoor
open Go Go.Vx
section
variable {fs : List Fd} {pre : List SI} {s : SI}
theorem setE_unk(h:findI s.s fs 0<0):setE fs pre s=(41,[]):=if_pos h
theorem setE_dup(h:¬ findI s.s fs 0<0)(h2:∃ t ∈ pre,t.s=s.s):setE fs pre s=(45,[]):=by unfold setE;rw[if_neg h,if_pos h2]
theorem setE_val(h:¬ findI s.s fs 0<0)(h2:¬ ∃ t ∈ pre,t.s=s.s)(h3:s.n<0\/(tw ((fs[(findI s.s fs 0).toNat]?).getD ⟨[],0⟩).bits.toNat:Int) - 1<s.n):setE fs pre s=(42,[]):=by unfold setE;rw[if_neg h,if_neg h2,if_pos h3]
theorem setE_ok(h:¬ findI s.s fs 0<0)(h2:¬ ∃ t ∈ pre,t.s=s.s)(h3:¬ (s.n<0\/(tw ((fs[(findI s.s fs 0).toNat]?).getD ⟨[],0⟩).bits.toNat:Int) - 1<s.n)):setE fs pre s=(0,[]):=by unfold setE;rw[if_neg h,if_neg h2,if_neg h3]
end
theorem wordI_long{fs:List Fd}{l:List SI}(h:12<l.length):wordI fs l=2:=if_pos h
theorem wordI_ok{fs:List Fd}{l:List SI}(h:¬ 12<l.length)(h2:(chkO fs).1=0):wordI fs l=(firstE (setE fs) [] l).1:=by unfold wordI;rw[if_neg h,if_neg (fun g=>g h2)]
theorem widd_split{l:List Fd}{k:Nat}{c:Fd}(hc:l[k]? = some c):wid (l.take k)+c.bits.toNat<=wid l:=by
 rw[<- wid_snoc hc,wid_app l (k+1)]
 omega
set_option maxRecDepth 100000 in
set_option maxHeartbeats 16000000 in
theorem rword_at(l:List Fd)(r:List (List D))(S:List SI)(r2:List (List D))(hch:(chkO l).1=0)(hS:S.length<=1048576) :
    FSpec Tryz.prog T 189 [.lst 127 (l.map frow) r,.lst 243 (S.map SI.row) r2] (fun d rows=>(∃ w,d = .tup [.s w,.i .i64 (wordI l S)])/\rows=[]):=by
 obtain⟨hlay,hl12⟩:=chk_lay hch
 have hSl:(S.map SI.row).length=S.length:=by simp
 have hll:(l.map frow).length=l.length:=by simp
 have hrc:=rcheck_at l r (by omega)
 have hw:=wid_le hlay
 have hrw:=rwidth_at l r (by omega) hlay
 have hxs:=xs_at (wid l) (by omega)
 rw[show chkO l=(0,(chkO l).2) from by rw[<- hch]] at hrc
 refine FSpec.of_ok tok Tryz.func189 rfl Tryz.call189 (by simp) ?_
 by_cases h12:12<S.length
 . (try (conv=>whnf));repeat' (first|refine Ok.seq ?_|((first|refine Ok.region tok ?_|refine Ok.cond ?_|refine Ok.ret ?_);conv=>whnf)|(refine bI ?_ ?_<;>intro<;>(conv=>whnf)<;>(try (exfalso;omega)))|fail)
   all_goals first
    | (exfalso;omega)
    | (refine Or.inl ?_;(conv=>whnf)
       exact⟨⟨_,by rw[wordI_long h12];rfl⟩,rfl⟩)
 (try (conv=>whnf));repeat' (first|refine Ok.seq ?_|((first|refine Ok.region tok ?_|refine Ok.cond ?_);conv=>whnf)|refine Ok.block ?_|(refine Ok.skip ?_;conv=>whnf)|(refine Or.inl ?_;(conv=>whnf);(repeat (refine aI ?_;conv=>whnf));refine⟨_,hrc,rfl,?_⟩;conv=>whnf)|(refine Or.inl ?_;(conv=>whnf);(repeat (refine aI ?_;conv=>whnf));refine⟨_,hrw,rfl,?_⟩;conv=>whnf)|(refine Or.inl ?_;(conv=>whnf);(repeat (refine aI ?_;conv=>whnf));refine⟨_,hxs,rfl,?_⟩;conv=>whnf)|(refine bI ?_ ?_<;>intro<;>(conv=>whnf)<;>(try (exfalso;omega)))|fail)
 all_goals first
  | (exfalso;omega)
  | skip
 have hwI:=wordI_ok h12 hch
 refine Ok.loopU [0,1] [8,9] 0 0 (fun (x:Nat × Str)=>[.s x.2,.i .i64 (x.1:Nat)]) (fun _ b=>b) (fun _ r=>r) (fun (x:Nat × Str)=>x.1<=S.length/\x.2.length=wid l/\wordI l S=(firstE (setE l) (S.take x.1) (S.drop x.1)).1) (fun (x:Nat × Str)=>S.length - x.1) ((0,xsT (wid l))) (⟨Nat.zero_le _,by simp[xsT],hwI⟩) ?_;(conv=>whnf);refine⟨by ((conv=>whnf);first|rfl|(simp[envCat, List.take_of_length_le, SI.row, Node.row, Pfx.row, Link.row, srow, Line.row, Rule.row, Box.row, Slc.row, Config.row, frow];done)|(simp[envCat, List.take_of_length_le, SI.row, Node.row, Pfx.row, Link.row, srow, Line.row, Rule.row, Box.row, Slc.row, Config.row, frow];rw[IntKind.wrap_i64];omega)),?_⟩
 rintro⟨i,w⟩ ⟨hi,hwl,hfe⟩
 dsimp only at hi hwl hfe ⊢
 (conv=>whnf)
 by_cases hil:i<S.length
 . obtain⟨s,hs⟩:∃ s,S[i]? = some s:=⟨_,List.getElem?_eq_getElem hil⟩
   have hsI:S[((i:Nat):Int).toNat]? = some s:=hs
   have hsR:(S.map SI.row)[((i:Nat):Int).toNat]? = some s.row:=by rw[List.getElem?_map,hsI];rfl
   have htp:=tplace_at l r s.s (by omega) hlay
   by_cases hu:findI s.s l 0<0
   . rw[firstE_bad hs (by rw[setE_unk hu];simp),setE_unk hu] at hfe
     (try (conv=>whnf));repeat' (first|refine Ok.seq ?_|((first|refine Ok.region tok ?_|refine Ok.cond ?_);conv=>whnf)|refine Ok.block ?_|((first|refine Ok.skip ?_|refine Ok.ret ?_|refine ix _ (by assumption) ?_);conv=>whnf)|(refine Or.inl ?_;(conv=>whnf);(repeat (refine aI ?_;conv=>whnf));refine⟨_,htp,rfl,?_⟩;conv=>whnf)|(refine bI ?_ ?_<;>intro<;>(conv=>whnf)<;>(try (exfalso;omega)))|fail)
     all_goals first
      | (exfalso;omega)
      | (refine Or.inl ?_;(conv=>whnf)
         exact⟨⟨_,by rw[hfe];rfl⟩,rfl⟩)
   obtain⟨k,hk⟩:∃ k:Nat,findI s.s l 0=k:=⟨(findI s.s l 0).toNat,by omega⟩
   have hkl:k<l.length:=by have:=(findI_ge s.s l 0).2.2;omega
   obtain⟨f,hf⟩:∃ f,l[k]? = some f:=⟨_,List.getElem?_eq_getElem hkl⟩
   have hfI:l[((k:Nat):Int).toNat]? = some f:=hf
   have hfR:(l.map frow)[((k:Nat):Int).toNat]? = some (frow f):=by rw[List.getElem?_map,hfI];rfl
   have hfb:=hlay f (List.mem_of_getElem? hf)
   rw[plI_some hk,hk] at htp
   have hws:=widd_split hf
   (try (conv=>whnf));repeat' (first|refine Ok.seq ?_|((first|refine Ok.region tok ?_|refine Ok.cond ?_);conv=>whnf)|refine Ok.block ?_|((first|refine Ok.skip ?_|refine ix _ (by assumption) ?_);conv=>whnf)|(refine Or.inl ?_;(conv=>whnf);(repeat (refine aI ?_;conv=>whnf));refine⟨_,htp,rfl,?_⟩;conv=>whnf)|(refine bI ?_ ?_<;>intro<;>(conv=>whnf)<;>(try (exfalso;omega)))|fail)
   have hnu:¬ findI s.s l 0<0:=hu
   refine Ok.loopU [0,1,8,9,10,11] [12] 0 0 (fun (j:Nat)=>[.i .i64 (j:Nat)]) (fun _ b=>b) (fun _ r=>r) (fun (j:Nat)=>j<=i/\∀ (m:Nat) q,m<j->S[m]? = some q->q.s ≠ s.s) (fun (j:Nat)=>i - j) (0) (⟨Nat.zero_le _,fun m q hm=>absurd hm (by omega)⟩) ?_;(conv=>whnf);refine⟨by ((conv=>whnf);first|rfl|(simp[envCat, List.take_of_length_le, SI.row, Node.row, Pfx.row, Link.row, srow, Line.row, Rule.row, Box.row, Slc.row, Config.row, frow];done)|(simp[envCat, List.take_of_length_le, SI.row, Node.row, Pfx.row, Link.row, srow, Line.row, Rule.row, Box.row, Slc.row, Config.row, frow];rw[IntKind.wrap_i64];omega)),?_⟩
   rintro j ⟨hj,hall⟩
   (conv=>whnf)
   by_cases hji:j<i
   . obtain⟨q,hq⟩:∃ q,S[j]? = some q:=⟨_,List.getElem?_eq_getElem (by omega)⟩
     have hqI:S[((j:Nat):Int).toNat]? = some q:=hq
     have hqR:(S.map SI.row)[((j:Nat):Int).toNat]? = some q.row:=by rw[List.getElem?_map,hqI];rfl
     have hqm:q ∈ S.take i:=List.mem_of_getElem? (i:=j) (by rw[List.getElem?_take_of_lt hji];exact hq)
     (try (conv=>whnf));repeat' (first|refine Ok.seq ?_|((first|refine Ok.region tok ?_|refine Ok.region_draw tok follows (by kernel_rfl) ?_|refine Ok.cond ?_);conv=>whnf)|refine Ok.block ?_|((first|refine Ok.skip ?_|refine Ok.ret ?_|refine nI ?_|refine ix _ (by assumption) ?_);conv=>whnf)|(refine bI ?_ ?_<;>intro<;>(conv=>whnf)<;>(try (exfalso;omega)))|fail)
     . rename_i he
       rw[firstE_bad hs (by rw[setE_dup hnu ⟨q,hqm,he⟩];simp),setE_dup hnu ⟨q,hqm,he⟩] at hfe
       refine Or.inl ?_;(conv=>whnf)
       exact⟨⟨_,by rw[hfe];rfl⟩,rfl⟩
     . rename_i he
       refine⟨j+1,by omega,⟨by omega,fun m x hm hx=>?_⟩,?_⟩
       . by_cases hmj:m=j
         . subst hmj;rw[hq] at hx;cases hx;exact he
         . exact hall m x (by omega) hx
       . (conv=>whnf)
         rfl
   obtain rfl:j=i:=by omega
   have hno:¬ ∃ t ∈ S.take j,t.s=s.s:=by
    rintro⟨q,hq,h⟩
    obtain⟨m,hm⟩:=List.getElem?_of_mem hq
    have hmj:m<j:=by have:=(List.getElem?_eq_some_iff.1 hm).1;rw[List.length_take] at this;omega
    rw[List.getElem?_take_of_lt hmj] at hm
    exact hall m q hmj hm h
   have hfb2:((l[(findI s.s l 0).toNat]?).getD ⟨[],0⟩).bits=f.bits:=by rw[hk,hfI];rfl
   obtain⟨B,hB⟩:∃ B:Nat,f.bits=B:=⟨f.bits.toNat,by omega⟩
   have hBt:f.bits.toNat=B:=by omega
   have htop:=rtop_at B (by omega)
   rw[<- hB] at htop
   have htw:(0:Int)<tw B:=by have:=tw_pos B;omega
   have htw2:=tw62 (k:=B) (by omega)
   by_cases hv:s.n<0\/(tw B:Int) - 1<s.n
   . have hb:=setE_val hnu hno (by rw[hfb2,hBt];exact hv)
     rw[firstE_bad hs (by rw[hb];simp),hb] at hfe
     (try (conv=>whnf));repeat' (first|refine Ok.seq ?_|((first|refine Ok.region tok ?_|refine Ok.region_draw tok follows (by kernel_rfl) ?_|refine Ok.cond ?_|refine Ok.exit ?_|refine Ok.ret ?_|refine ix _ (by assumption) ?_|refine⟨_,by assumption,?_⟩);conv=>whnf)|(refine bI ?_ ?_<;>intro<;>(conv=>whnf)<;>(try (exfalso;omega)))|(refine aJ ?_;conv=>whnf)|fail)
     all_goals first
      | (exfalso;omega)
      | (refine Or.inl ?_;(conv=>whnf)
         exact⟨⟨_,by rw[hfe];rfl⟩,rfl⟩)
   have hok:=setE_ok hnu hno (by rw[hfb2,hBt];exact hv)
   rw[firstE_ok hs (by rw[hok])] at hfe
   obtain⟨v,hvn⟩:∃ v:Nat,s.n=v:=⟨s.n.toNat,by omega⟩
   have hdg:=digits_at v B (by omega) (by omega)
   have hbl:=binT_len v B B
   rw[<- hB,<- hvn] at hdg
   have hws':wid (l.take k)+B<=w.length:=by omega
   have hlo:(wid (l.take k):Int)+f.bits=((wid (l.take k)+B:Nat):Int):=by omega
   have hwl2:((w.take (wid (l.take k))).drop 0++binT v B B++(w.take w.length).drop (wid (l.take k)+B)).length=wid l:=by simp;omega
   (try (conv=>whnf));repeat' (first|(refine⟨wid (l.take k)+B,w.length,hlo,rfl,hws',Nat.le_refl _,?_⟩;conv=>whnf)|refine Ok.seq ?_|((first|refine Ok.region tok ?_|refine Ok.region_draw tok follows (by kernel_rfl) ?_|refine Ok.cond ?_|refine Ok.skip ?_|refine Ok.exit ?_|refine nI ?_|refine ix _ (by assumption) ?_|refine⟨_,by assumption,?_⟩|refine⟨_,_,rfl,rfl,?_⟩);conv=>whnf)|(refine bI ?_ ?_<;>intro<;>(conv=>whnf)<;>(try (exfalso;omega)))|((first|refine aJ ?_|refine⟨_,rfl,?_⟩);conv=>whnf)|fail)
   refine⟨(j+1,(w.take (wid (l.take k))).drop 0++binT v B B++(w.take w.length).drop (wid (l.take k)+B)),by dsimp only;omega,⟨by dsimp only;omega,hwl2,hfe⟩,?_⟩
   (conv=>whnf)
   rfl
 . obtain rfl:i=S.length:=by omega
   rw[firstE_nil (by simp)] at hfe
   (try (conv=>whnf));repeat' (first|refine Ok.seq ?_|((first|refine Ok.region tok ?_|refine Ok.cond ?_|refine Ok.exit ?_|refine Ok.ret ?_);conv=>whnf)|(refine bI ?_ ?_<;>intro<;>(conv=>whnf)<;>(try (exfalso;omega)))|fail)
   all_goals first
    | (exfalso;omega)
    | (refine Or.inl ?_;(conv=>whnf)
       exact⟨⟨_,by rw[hfe];rfl⟩,rfl⟩)
end Go.Proofs.YtcglkonooeddfaaGreatDoor
namespace Go.Proofs.YtcglkonooeddfaaGreatDoor
open Go Go.Vx
set_option maxRecDepth 100000 in
set_option maxHeartbeats 8000000 in
theorem rrule_at(cf:Config)(hf:cf.fields.l.length<=1048576)(hh:HeadOk cf.b)(b:Box)(i:Nat)(r:Rule)(hi:b.rules.l[i]? = some r)(hrl:b.rules.l.length<=1048576)(hro:r.Ok)(hrt:r.Tx) :
    FSpec Tryz.prog T 131 [.agg cf.row,.agg b.row,.i .i64 (i:Nat)] (fun d _=>d = .i .i64 (ruleI cf.b b.b (b.b.rules.take i) r.b)):=by
 have hil:=(List.getElem?_eq_some_iff.1 hi).1
 have hiI:b.rules.l[((i:Nat):Int).toNat]? = some r:=hi
 have hpr:(b.rules.l.map Rule.row).length=b.rules.l.length:=by simp
 have hto:(r.dst.l.map srow).length=r.dst.l.length:=by simp
 have hiR:(b.rules.l.map Rule.row)[((i:Nat):Int).toNat]? = some r.row:=by rw[List.getElem?_map,hiI];rfl
 have hro4:=hro.dst
 have hWs:=rword_at (fds cf.fields.l) cf.fields.room r.sets.l r.sets.room (by rw[show chkO (fds cf.fields.l)=_ from hh.chk]) hro.sets
 rw[fds_row] at hWs
 have hck:=rechk_at (fds cf.fields.l) cf.fields.room (nds r.mtch.l) r.mtch.room (by rw[fds_len];omega) (by have:=hro.mtch;simp[nds];omega) (nds_ok hrt.mtch)
 rw[fds_row,nds_row] at hck
 refine FSpec.of_ok tok Tryz.func131 rfl Tryz.call131 (by simp) ?_
 by_cases hA:r.prio<0\/65535<r.prio
 . (try (conv=>whnf));repeat' (first|refine Ok.seq ?_|((first|refine Ok.region tok ?_|refine Ok.cond ?_|refine Ok.ret ?_|refine ix _ (by assumption) ?_);conv=>whnf)|(refine bI ?_ ?_<;>intro<;>(conv=>whnf)<;>(try (exfalso;omega)))|fail)
   all_goals first
    | (exfalso;omega)
    | (refine Or.inl ?_;(conv=>whnf)
       rw[ruleI_range (r:=r.b) hA]
       rfl)
 (try (conv=>whnf));repeat' (first|refine Ok.seq ?_|((first|refine Ok.region tok ?_|refine Ok.cond ?_);conv=>whnf)|refine Ok.block ?_|((first|refine Ok.skip ?_|refine ix _ (by assumption) ?_);conv=>whnf)|(refine bI ?_ ?_<;>intro<;>(conv=>whnf)<;>(try (exfalso;omega)))|fail)
 all_goals first
  | (exfalso;omega)
  | skip
 refine Ok.loopU [2,3,4,7] [8] 0 3 (fun (k:Nat)=>[.i .i64 (k:Nat)]) (fun _ b=>b) (fun _ r=>r) (fun (k:Nat)=>k<=i/\∀ (j:Nat) q,j<k->b.rules.l[j]? = some q->q.prio ≠ r.prio) (fun (k:Nat)=>i - k) (0) (⟨Nat.zero_le _,fun j q hj=>absurd hj (by omega)⟩) ?_;(conv=>whnf);refine⟨by ((conv=>whnf);first|rfl|(simp[envCat, List.take_of_length_le, SI.row, Node.row, Pfx.row, Link.row, srow, Line.row, Rule.row, Box.row, Slc.row, Config.row];done)|(simp[envCat, List.take_of_length_le, SI.row, Node.row, Pfx.row, Link.row, srow, Line.row, Rule.row, Box.row, Slc.row, Config.row];rw[IntKind.wrap_i64];omega)),?_⟩
 rintro k ⟨hk,hall⟩
 (conv=>whnf)
 by_cases hkl:k<i
 . obtain⟨q,hq⟩:∃ q,b.rules.l[k]? = some q:=⟨_,List.getElem?_eq_getElem (by omega)⟩
   have hqI:b.rules.l[((k:Nat):Int).toNat]? = some q:=hq
   have hqR:(b.rules.l.map Rule.row)[((k:Nat):Int).toNat]? = some q.row:=by rw[List.getElem?_map,hqI];rfl
   (try (conv=>whnf));repeat' (first|refine Ok.seq ?_|((first|refine Ok.region tok ?_|refine Ok.region_draw tok follows (by kernel_rfl) ?_|refine Ok.cond ?_);conv=>whnf)|refine Ok.block ?_|((first|refine Ok.skip ?_|refine Ok.ret ?_|refine nI ?_|refine ix _ (by assumption) ?_);conv=>whnf)|(refine bI ?_ ?_<;>intro<;>(conv=>whnf)<;>(try (exfalso;omega)))|fail)
   . rename_i he
     have hqm:q.b ∈ b.b.rules.take i:=List.mem_of_getElem? (i:=k) (by rw[List.getElem?_take_of_lt hkl];simp[Box.b,hq])
     refine Or.inl ?_;(conv=>whnf)
     rw[ruleI_dup (r:=r.b) hA ⟨q.b,hqm,he⟩]
     rfl
   . rename_i he
     refine⟨k+1,by omega,⟨by omega,fun j x hj hx=>?_⟩,?_⟩
     . by_cases hjk:j=k
       . subst hjk;rw[hq] at hx;cases hx;exact he
       . exact hall j x (by omega) hx
     . (conv=>whnf)
       rfl
 obtain rfl:k=i:=by omega
 have hno:¬ ∃ s ∈ b.b.rules.take k,s.prio=r.b.prio:=by
  rintro⟨s,hs,h⟩
  obtain⟨j,hj⟩:=List.getElem?_of_mem hs
  have hjl:j<k:=by have:=(List.getElem?_eq_some_iff.1 hj).1;rw[List.length_take] at this;omega
  rw[List.getElem?_take_of_lt hjl] at hj
  simp only[Box.b,List.getElem?_map,Option.map_eq_some_iff] at hj
  obtain⟨y,hy,rfl⟩:=hj
  exact hall j y hjl hy h
 (try (conv=>whnf));repeat' (first|refine Ok.seq ?_|((first|refine Ok.region tok ?_|refine Ok.cond ?_|refine Ok.skip ?_|refine Ok.exit ?_|refine Ok.ret ?_);conv=>whnf)|(refine Or.inl ?_;(conv=>whnf);(repeat (refine aI ?_;conv=>whnf));refine⟨_,hck,rfl,?_⟩;conv=>whnf)|(refine Or.inl ?_;(conv=>whnf);(repeat (refine aI ?_;conv=>whnf));refine⟨_,sides_at r.frm.l b.ins.l b.outs.l rfl rfl rfl,rfl,?_⟩;conv=>whnf)|(refine Or.inl ?_;(conv=>whnf);(repeat (refine aI ?_;conv=>whnf));refine⟨_,sides_at r.dst.l b.outs.l b.ins.l rfl rfl rfl,rfl,?_⟩;conv=>whnf)|(refine Or.inr (Or.inl ?_);(conv=>whnf);(repeat (refine aI ?_;conv=>whnf));refine⟨_,hWs , ?_⟩;rintro _ _ ⟨⟨w,rfl⟩,rfl⟩<;>(conv=>whnf))|(refine bI ?_ ?_<;>intro<;>(conv=>whnf)<;>(try (exfalso;omega)))|fail)
 . rename_i h3
   refine Or.inl ?_;(conv=>whnf)
   rw[ruleI_from (b:=b.b) (r:=r.b) hA hno h3]
   rfl
 . rename_i h3 h4
   refine Or.inl ?_;(conv=>whnf)
   rw[ruleI_match (b:=b.b) (r:=r.b) hA hno h3 h4]
   rfl
 . rename_i h3 h4 h5
   have h4:¬ chkE (fds cf.b.fields) (nds r.b.mtch) ≠ 0:=h4
   refine Or.inl ?_;(conv=>whnf)
   rw[ruleI_sets (b:=b.b) (r:=r.b) hA hno h3 h4 h5]
   rfl
 . rename_i h3 h4 h5 h6
   have h4:¬ chkE (fds cf.b.fields) (nds r.b.mtch) ≠ 0:=h4
   refine Or.inl ?_;(conv=>whnf)
   rw[ruleI_outs (b:=b.b) (r:=r.b) hA hno h3 h4 h5 (by show 4<r.dst.l.length;omega)]
   rfl
 . rename_i h3 h4 h5 h6
   have h4:¬ chkE (fds cf.b.fields) (nds r.b.mtch) ≠ 0:=h4
   refine Or.inl ?_;(conv=>whnf)
   rw[ruleI_to (b:=b.b) (r:=r.b) hA hno h3 h4 h5 (by show ¬ 4<r.dst.l.length;omega)]
   rfl
end Go.Proofs.YtcglkonooeddfaaGreatDoor
namespace Go.Proofs.YtcglkonooeddfaaGreatDoor
open Go Go.Vx
set_option maxHeartbeats 4000000 in
theorem digit_at(n:Nat)(hn:n<=9):FSpec Tryz.prog T 190 [.i .i64 (n:Nat)] (fun d _=>d = .s [UInt8.ofNat (48+n)]):=by
 have h1:[[D.i IntKind.u8 (IntKind.u8.wrap (48+(n:Int)))]].take 1=[UInt8.ofNat (48+n)].map bcell:=by
  rw[show IntKind.u8.wrap (48+(n:Int))=48+(n:Int) by rw[IntKind.wrap_u8];omega]
  have:(UInt8.ofNat (48+n)).toNat=48+n:=by rw[UInt8.toNat_ofNat'];omega
  simp[bcell,this]
  omega
 refine FSpec.of_ok tok Tryz.func190 rfl Tryz.call190 (by simp) ?_
 (try (conv=>whnf));repeat' (first|(refine⟨_,h1,?_⟩;conv=>whnf)|refine Ok.seq ?_|((first|refine Ok.region tok ?_|refine Ok.ret ?_|refine nI ?_|refine aJ ?_|refine num_any ?_);conv=>whnf)|fail)
 refine Or.inl ?_;(conv=>whnf)
 rfl
theorem itoa_pos(u:Nat):Lib.itoa (u:Int)=Lib.decDigits u:=by unfold Lib.itoa;rw[if_neg (by omega)];simp
theorem itoa_neg{u:Nat}(h:1<=u):Lib.itoa (-(u:Int))=45 :: Lib.decDigits u:=by unfold Lib.itoa;rw[if_pos (by omega)];simp
theorem dec_small{u:Nat}(h:u<10):Lib.decDigits u=[UInt8.ofNat (48+u)]:=by rw[Lib.decDigits,dif_pos h]
theorem dec_big{u:Nat}(h:¬ u<10):Lib.decDigits u=Lib.decDigits (u / 10)++[UInt8.ofNat (48+u % 10)]:=by rw[Lib.decDigits,dif_neg h]
set_option maxHeartbeats 8000000 in
theorem decimal_at:∀ (k:Nat) (n:Int),n.natAbs<=k->-9223372036854775808<=n->n<=9223372036854775807->FSpec Tryz.prog T 132 [.i .i64 n] (fun d _=>d = .s (Lib.itoa n)):=by
 intro k
 induction k with
 | zero=>
  intro n hk h0 h1
  obtain rfl:n=0:=by omega
  have hd:=digit_at 0 (by omega)
  refine FSpec.of_ok tok Tryz.func132 rfl Tryz.call132 (by simp) ?_
  (try (conv=>whnf));repeat' (first|refine Ok.seq ?_|((first|refine Ok.region tok ?_|refine Ok.cond ?_|refine Ok.skip ?_|refine Ok.ret ?_);conv=>whnf)|(refine Or.inl ?_;(conv=>whnf);(repeat (refine aI ?_;conv=>whnf));refine⟨_,hd,rfl,?_⟩;conv=>whnf)|(refine bI ?_ ?_<;>intro<;>(conv=>whnf)<;>(try (exfalso;omega)))|fail)
  refine Or.inl ?_;(conv=>whnf)
  rw[show (0:Int)=((0:Nat):Int) from rfl,itoa_pos,dec_small (by omega)]
  rfl
 | succ k ih=>
  intro n hk h0 h1
  refine FSpec.of_ok tok Tryz.func132 rfl Tryz.call132 (by simp) ?_
  by_cases hn:n<0
  . obtain⟨u,hu⟩:∃ u:Nat,n=-(u:Int):=⟨n.natAbs,by omega⟩
    have hq:n.tdiv 10=-((u / 10:Nat):Int):=by rw[hu,Int.neg_tdiv];rfl
    have hr:n.tmod 10=-((u % 10:Nat):Int):=by rw[hu,Int.neg_tmod];rfl
    by_cases hs:u<10
    . have hd:=digit_at u (by omega)
      rw[show ((u:Nat):Int)=0 - n by omega] at hd
      (try (conv=>whnf));repeat' (first|refine Ok.seq ?_|((first|refine Ok.region tok ?_|refine Ok.cond ?_|refine Ok.ret ?_|refine nI ?_);conv=>whnf)|(refine Or.inl ?_;(conv=>whnf);(repeat (refine aI ?_;conv=>whnf));refine⟨_,hd,rfl,?_⟩;conv=>whnf)|(refine bI ?_ ?_<;>intro<;>(conv=>whnf)<;>(try (exfalso;omega)))|(refine aJ ?_;conv=>whnf)|fail)
      refine Or.inl ?_;(conv=>whnf)
      rw[hu,itoa_neg (by omega),dec_small hs]
      rfl
    . have hd:=digit_at (u % 10) (by omega)
      have hi:=ih (n.tdiv 10) (by omega) (by omega) (by omega)
      have hil:=Lib.itoa_length_le (n.tdiv 10) (by omega) (by omega)
      rw[show ((u % 10:Nat):Int)=0 - n.tmod 10 by omega] at hd
      (try (conv=>whnf));repeat' (first|refine Ok.seq ?_|((first|refine Ok.region tok ?_|refine Ok.cond ?_|refine Ok.skip ?_|refine Ok.ret ?_|refine nI ?_);conv=>whnf)|(refine Or.inl ?_;(conv=>whnf);(repeat (refine aI ?_;conv=>whnf));refine⟨_,hd,rfl,?_⟩;conv=>whnf)|(refine Or.inl ?_;(conv=>whnf);(repeat (refine aI ?_;conv=>whnf));refine⟨_,hi,rfl,?_⟩;conv=>whnf)|(refine bI ?_ ?_<;>intro<;>(conv=>whnf)<;>(try (exfalso;omega)))|((first|refine aJ ?_|refine num_any ?_);conv=>whnf)|fail)
      refine Or.inl ?_;(conv=>whnf)
      rw[hq,itoa_neg (by omega),hu,itoa_neg (by omega),dec_big hs]
      rfl
  . obtain⟨u,hu⟩:∃ u:Nat,n=(u:Int):=⟨n.toNat,by omega⟩
    have hq:n.tdiv 10=((u / 10:Nat):Int):=by rw[hu];rfl
    have hr:n.tmod 10=((u % 10:Nat):Int):=by rw[hu];rfl
    by_cases hs:u<10
    . have hd:=digit_at u (by omega)
      rw[show ((u:Nat):Int)=n by omega] at hd
      (try (conv=>whnf));repeat' (first|refine Ok.seq ?_|((first|refine Ok.region tok ?_|refine Ok.cond ?_|refine Ok.skip ?_|refine Ok.ret ?_);conv=>whnf)|(refine Or.inl ?_;(conv=>whnf);(repeat (refine aI ?_;conv=>whnf));refine⟨_,hd,rfl,?_⟩;conv=>whnf)|(refine bI ?_ ?_<;>intro<;>(conv=>whnf)<;>(try (exfalso;omega)))|fail)
      refine Or.inl ?_;(conv=>whnf)
      rw[hu,itoa_pos,dec_small hs]
      rfl
    . have hd:=digit_at (u % 10) (by omega)
      have hi:=ih (n.tdiv 10) (by omega) (by omega) (by omega)
      have hil:=Lib.itoa_length_le (n.tdiv 10) (by omega) (by omega)
      rw[show ((u % 10:Nat):Int)=n.tmod 10 by omega] at hd
      (try (conv=>whnf));repeat' (first|refine Ok.seq ?_|((first|refine Ok.region tok ?_|refine Ok.cond ?_|refine Ok.skip ?_|refine Ok.ret ?_|refine nI ?_);conv=>whnf)|(refine Or.inl ?_;(conv=>whnf);(repeat (refine aI ?_;conv=>whnf));refine⟨_,hd,rfl,?_⟩;conv=>whnf)|(refine Or.inl ?_;(conv=>whnf);(repeat (refine aI ?_;conv=>whnf));refine⟨_,hi,rfl,?_⟩;conv=>whnf)|(refine bI ?_ ?_<;>intro<;>(conv=>whnf)<;>(try (exfalso;omega)))|((first|refine aJ ?_|refine num_any ?_);conv=>whnf)|fail)
      refine Or.inl ?_;(conv=>whnf)
      rw[hq,itoa_pos,hu,itoa_pos,dec_big hs]
      rfl
end Go.Proofs.YtcglkonooeddfaaGreatDoor
namespace Go.Proofs.YtcglkonooeddfaaGreatDoor
open Go Go.Vx
set_option maxRecDepth 100000 in
set_option maxHeartbeats 16000000 in
theorem rbox_at(cf:Config)(hf:cf.fields.l.length<=1048576)(hh:HeadOk cf.b)(b:Box)(hbo:b.Ok)(hbt:b.Tx) :
    FSpec Tryz.prog T 71 [.agg cf.row,.agg b.row] (fun d _=>d = .tup [.i .i64 (doesE cf.b [] b.b).1,.s (doesE cf.b [] b.b).2]):=by
 obtain⟨ps,hps⟩:∃ ps,ps=b.ins.l++b.outs.l:=⟨_,rfl⟩
 have hboth:=both_at b hbo.ins hbo.outs
 rw[<- hps] at hboth
 have hml:(ps.map srow).length=ps.length:=by simp
 have hta:(ps.map srow).take ps.length=ps.map srow:=List.take_of_length_le (by simp)
 have hbn:b.name.length<=1048576:=hbt.name
 have l3:(b.guards.l.map Line.row).length=b.guards.l.length:=by simp
 have l4:(b.rules.l.map Rule.row).length=b.rules.l.length:=by simp
 have l5:(b.owns.l.map Pfx.row).length=b.owns.l.length:=by simp
 have l6:(b.routes.l.map Pfx.row).length=b.routes.l.length:=by simp
 have b3:=hbo.guards
 have b4:=hbo.rules
 have b5:=hbo.owns
 have b6:=hbo.routes
 refine FSpec.of_ok tok Tryz.func71 rfl Tryz.call71 (by simp) ?_
 (try (conv=>whnf));repeat' (first|refine Ok.seq ?_|(refine Ok.region tok ?_;conv=>whnf)|refine Ok.block ?_|fail)
 refine Ok.loopU [2,3] [6] 0 2 (fun (k:Nat)=>[.i .i64 (k:Nat)]) (fun _ b=>b) (fun _ r=>r) (fun (k:Nat)=>k<=b.guards.l.length/\firstE (guardE cf.b b.b) [] b.b.guards=firstE (guardE cf.b b.b) (b.b.guards.take k) (b.b.guards.drop k)) (fun (k:Nat)=>b.guards.l.length - k) (0) (⟨Nat.zero_le _,rfl⟩) ?_;(conv=>whnf);refine⟨by ((conv=>whnf);first|rfl|(simp[envCat, List.take_of_length_le, SI.row, Node.row, Pfx.row, Link.row, srow, Line.row, Rule.row, Box.row, Slc.row, Config.row];done)|(simp[envCat, List.take_of_length_le, SI.row, Node.row, Pfx.row, Link.row, srow, Line.row, Rule.row, Box.row, Slc.row, Config.row];rw[IntKind.wrap_i64];omega)),?_⟩
 rintro k ⟨hk,hfe⟩
 (conv=>whnf)
 by_cases hkl:k<b.guards.l.length
 . obtain⟨x,hx⟩:∃ x,b.guards.l[k]? = some x:=⟨_,List.getElem?_eq_getElem hkl⟩
   have hxI:b.guards.l[((k:Nat):Int).toNat]? = some x:=hx
   have hxb:b.b.guards[k]? = some x.b:=by simp[Box.b,hx]
   have hxo:=hbo.line x (List.mem_of_getElem? hx)
   have hxt:=hbt.guards x (List.mem_of_getElem? hx)
   have hxp:x.port.length<=1048576:=hxt.port
   have hs:=plc_neg ps x.port
   have hxR:(b.guards.l.map Line.row)[((k:Nat):Int).toNat]? = some x.row:=by rw[List.getElem?_map,hxI];rfl
   have hxm:=hxo.mtch
   have hck:=rechk_at (fds cf.fields.l) cf.fields.room (nds x.mtch.l) x.mtch.room (by rw[fds_len];omega) (by simp[nds];omega) (nds_ok hxt.mtch)
   rw[fds_row,nds_row] at hck
   (try (conv=>whnf));repeat' (first|refine Ok.seq ?_|((first|refine Ok.region tok ?_|refine Ok.region_plan (id:=5) tok follows [(0,1,[]),(0,8,[1]),(3,8,[7,6,5]),(7,8,[]),(1,8,[])] [.q 0,.q 2,.q 3,.q 4,.q 5,.q 6,.q 7,.l 1,.l 8,.q 9] (by kernel_rfl) ?_|refine Ok.region_draw tok follows (by kernel_rfl) ?_|refine Ok.cond ?_);conv=>whnf)|refine Ok.block ?_|((first|refine Ok.skip ?_|refine Ok.ret ?_|refine nI ?_|refine ix _ (by assumption) ?_|refine⟨_,by assumption,?_⟩);conv=>whnf)|(refine Or.inl ?_;(conv=>whnf);(repeat (refine aI ?_;conv=>whnf));refine⟨_,place_at ps x.port hta,rfl,?_⟩;conv=>whnf)|(refine Or.inr (Or.inr (Or.inl ?_));(conv=>whnf);(repeat (refine aI ?_;conv=>whnf));refine⟨_,hboth,?_⟩;rintro _ _ ⟨rfl,rfl⟩<;>(refine And.intro (by simp[gRowsP, grounds, D.ground, SI.row, Node.row, Pfx.row, Link.row, srow, Line.row, Rule.row, Box.row, Slc.row, Config.row]) ?_;conv=>whnf))|(refine bI ?_ ?_<;>intro<;>(conv=>whnf)<;>(try (exfalso;omega)))|(refine aJ ?_;conv=>whnf)|fail)
   . rename_i hp
     have hp:x.b.port ∉ b.b.ins++b.b.outs:=fun h=>hs.1 hp (hps ▸ h)
     rw[firstE_bad hxb (by rw[guardE_unk hp];simp),guardE_unk hp] at hfe
     refine Or.inl ?_;(conv=>whnf)
     rw[show doesE cf.b [] b.b=orE _ _ from rfl,hfe,orE_l _ (by simp)]
     rfl
   . rename_i hp hm
     have hp:x.b.port ∈ b.b.ins++b.b.outs:=by
      have h2:x.port ∈ ps:=Classical.not_not.1 fun h=>hp (hs.2 h)
      rw[hps] at h2;exact h2
     rw[firstE_bad hxb (by rw[guardE_bad hp hm];simp),guardE_bad hp hm] at hfe
     refine Or.inl ?_;(conv=>whnf)
     rw[show doesE cf.b [] b.b=orE _ _ from rfl,hfe,orE_l _ (by simp)]
     rfl
   . rename_i hp hm
     have hp:x.b.port ∈ b.b.ins++b.b.outs:=by
      have h2:x.port ∈ ps:=Classical.not_not.1 fun h=>hp (hs.2 h)
      rw[hps] at h2;exact h2
     have hm:¬ chkE (fds cf.b.fields) (nds x.b.mtch) ≠ 0:=hm
     rw[firstE_ok hxb (by rw[guardE_ok hp hm])] at hfe
     refine⟨k+1,by omega,⟨by omega,hfe⟩,?_⟩
     (conv=>whnf)
     rfl
 obtain rfl:k=b.guards.l.length:=by omega
 rw[firstE_nil (by simp[Box.b])] at hfe
 (try (conv=>whnf));repeat' (first|refine Ok.seq ?_|((first|refine Ok.region tok ?_|refine Ok.cond ?_);conv=>whnf)|refine Ok.block ?_|(refine Ok.exit ?_;conv=>whnf)|(refine bI ?_ ?_<;>intro<;>(conv=>whnf)<;>(try (exfalso;omega)))|fail)
 refine Ok.loopU [2,3] [9] 0 2 (fun (k:Nat)=>[.i .i64 (k:Nat)]) (fun _ b=>b) (fun _ r=>r) (fun (k:Nat)=>k<=b.rules.l.length/\firstE (ruleE cf.b b.b) [] b.b.rules=firstE (ruleE cf.b b.b) (b.b.rules.take k) (b.b.rules.drop k)) (fun (k:Nat)=>b.rules.l.length - k) (0) (⟨Nat.zero_le _,rfl⟩) ?_;(conv=>whnf);refine⟨by ((conv=>whnf);first|rfl|(simp[envCat, List.take_of_length_le, SI.row, Node.row, Pfx.row, Link.row, srow, Line.row, Rule.row, Box.row, Slc.row, Config.row];done)|(simp[envCat, List.take_of_length_le, SI.row, Node.row, Pfx.row, Link.row, srow, Line.row, Rule.row, Box.row, Slc.row, Config.row];rw[IntKind.wrap_i64];omega)),?_⟩
 rintro k ⟨hk,hfe1⟩
 (conv=>whnf)
 by_cases hkl:k<b.rules.l.length
 . obtain⟨x,hx⟩:∃ x,b.rules.l[k]? = some x:=⟨_,List.getElem?_eq_getElem hkl⟩
   have hxI:b.rules.l[((k:Nat):Int).toNat]? = some x:=hx
   have hxb:b.b.rules[k]? = some x.b:=by simp[Box.b,hx]
   have hxR:(b.rules.l.map Rule.row)[((k:Nat):Int).toNat]? = some x.row:=by rw[List.getElem?_map,hxI];rfl
   have hxo:=hbo.rule x (List.mem_of_getElem? hx)
   have hxt:=hbt.rules x (List.mem_of_getElem? hx)
   have hit:=Lib.itoa_length_le x.prio hxt.prio.1 hxt.prio.2
   have hsp:=rrule_at cf hf hh b k x hx b4 hxo hxt
   (try (conv=>whnf));repeat' (first|refine Ok.seq ?_|((first|refine Ok.region tok ?_|refine Ok.region_draw tok follows (by kernel_rfl) ?_|refine Ok.cond ?_);conv=>whnf)|refine Ok.block ?_|((first|refine Ok.skip ?_|refine Ok.ret ?_|refine nI ?_|refine ix _ (by assumption) ?_);conv=>whnf)|(refine Or.inl ?_;(conv=>whnf);(repeat (refine aI ?_;conv=>whnf));refine⟨_,hsp,rfl,?_⟩;conv=>whnf)|(refine⟨_,decimal_at _ x.prio (Nat.le_refl _) hxt.prio.1 hxt.prio.2,rfl,?_⟩;conv=>whnf)|(refine bI ?_ ?_<;>intro<;>(conv=>whnf)<;>(try (exfalso;omega)))|(refine aJ ?_;conv=>whnf)|fail)
   . rename_i he
     have ht:=(told_split (f:=ruleE cf.b b.b) (t:=b.b.name++[32,114,117,108,101,32]++Lib.itoa x.prio) hxb rfl).1 he
     rw[ht] at hfe1
     refine Or.inl ?_;(conv=>whnf)
     rw[show doesE cf.b [] b.b=orE (firstE (guardE cf.b b.b) [] b.b.guards) (orE (firstE (ruleE cf.b b.b) [] b.b.rules) (orE (firstE (ownE cf.b b.b) [] b.b.owns) (firstE (routE cf.b b.b) [] b.b.routes))) from rfl,hfe,orE_r _ rfl,hfe1,orE_l _ he]
     rfl
   . rename_i he
     have ht:=(told_split (f:=ruleE cf.b b.b) (t:=b.b.name++[32,114,117,108,101,32]++Lib.itoa x.prio) hxb rfl).2 (Classical.not_not.1 he)
     rw[ht] at hfe1
     refine⟨k+1,by omega,⟨by omega,hfe1⟩,?_⟩
     (conv=>whnf)
     rfl
 obtain rfl:k=b.rules.l.length:=by omega
 rw[firstE_nil (by simp[Box.b])] at hfe1
 (try (conv=>whnf));repeat' (first|refine Ok.seq ?_|((first|refine Ok.region tok ?_|refine Ok.cond ?_);conv=>whnf)|refine Ok.block ?_|(refine Ok.exit ?_;conv=>whnf)|(refine bI ?_ ?_<;>intro<;>(conv=>whnf)<;>(try (exfalso;omega)))|fail)
 refine Ok.loopU [2,3] [11] 0 2 (fun (k:Nat)=>[.i .i64 (k:Nat)]) (fun _ b=>b) (fun _ r=>r) (fun (k:Nat)=>k<=b.owns.l.length/\firstE (ownE cf.b b.b) [] b.b.owns=firstE (ownE cf.b b.b) (b.b.owns.take k) (b.b.owns.drop k)) (fun (k:Nat)=>b.owns.l.length - k) (0) (⟨Nat.zero_le _,rfl⟩) ?_;(conv=>whnf);refine⟨by ((conv=>whnf);first|rfl|(simp[envCat, List.take_of_length_le, SI.row, Node.row, Pfx.row, Link.row, srow, Line.row, Rule.row, Box.row, Slc.row, Config.row];done)|(simp[envCat, List.take_of_length_le, SI.row, Node.row, Pfx.row, Link.row, srow, Line.row, Rule.row, Box.row, Slc.row, Config.row];rw[IntKind.wrap_i64];omega)),?_⟩
 rintro k ⟨hk,hfe2⟩
 (conv=>whnf)
 by_cases hkl:k<b.owns.l.length
 . obtain⟨x,hx⟩:∃ x,b.owns.l[k]? = some x:=⟨_,List.getElem?_eq_getElem hkl⟩
   have hxI:b.owns.l[((k:Nat):Int).toNat]? = some x:=hx
   have hxb:b.b.owns[k]? = some x:=by simp[Box.b,hx]
   have hxR:(b.owns.l.map Pfx.row)[((k:Nat):Int).toNat]? = some x.row:=by rw[List.getElem?_map,hxI];rfl
   have hsp:=rprefix_at cf hf hh b b.owns.l k x hx b5 (r:=b.owns.room) rfl
   (try (conv=>whnf));repeat' (first|refine Ok.seq ?_|((first|refine Ok.region tok ?_|refine Ok.region_draw tok follows (by kernel_rfl) ?_|refine Ok.cond ?_);conv=>whnf)|refine Ok.block ?_|((first|refine Ok.skip ?_|refine Ok.ret ?_|refine nI ?_);conv=>whnf)|(refine Or.inl ?_;(conv=>whnf);(repeat (refine aI ?_;conv=>whnf));refine⟨_,hsp,rfl,?_⟩;conv=>whnf)|(refine bI ?_ ?_<;>intro<;>(conv=>whnf)<;>(try (exfalso;omega)))|(refine aJ ?_;conv=>whnf)|fail)
   . rename_i he
     have ht:=(told_split (f:=ownE cf.b b.b) (t:=b.b.name++[32,111,119,110]) hxb rfl).1 he
     rw[ht] at hfe2
     refine Or.inl ?_;(conv=>whnf)
     rw[show doesE cf.b [] b.b=orE (firstE (guardE cf.b b.b) [] b.b.guards) (orE (firstE (ruleE cf.b b.b) [] b.b.rules) (orE (firstE (ownE cf.b b.b) [] b.b.owns) (firstE (routE cf.b b.b) [] b.b.routes))) from rfl,hfe,orE_r _ rfl,hfe1,orE_r _ rfl,hfe2,orE_l _ he]
     rfl
   . rename_i he
     have ht:=(told_split (f:=ownE cf.b b.b) (t:=b.b.name++[32,111,119,110]) hxb rfl).2 (Classical.not_not.1 he)
     rw[ht] at hfe2
     refine⟨k+1,by omega,⟨by omega,hfe2⟩,?_⟩
     (conv=>whnf)
     rfl
 obtain rfl:k=b.owns.l.length:=by omega
 rw[firstE_nil (by simp[Box.b])] at hfe2
 (try (conv=>whnf));repeat' (first|refine Ok.seq ?_|((first|refine Ok.region tok ?_|refine Ok.cond ?_);conv=>whnf)|refine Ok.block ?_|(refine Ok.exit ?_;conv=>whnf)|(refine bI ?_ ?_<;>intro<;>(conv=>whnf)<;>(try (exfalso;omega)))|fail)
 refine Ok.loopU [2,3] [13] 0 2 (fun (k:Nat)=>[.i .i64 (k:Nat)]) (fun _ b=>b) (fun _ r=>r) (fun (k:Nat)=>k<=b.routes.l.length/\firstE (routE cf.b b.b) [] b.b.routes=firstE (routE cf.b b.b) (b.b.routes.take k) (b.b.routes.drop k)) (fun (k:Nat)=>b.routes.l.length - k) (0) (⟨Nat.zero_le _,rfl⟩) ?_;(conv=>whnf);refine⟨by ((conv=>whnf);first|rfl|(simp[envCat, List.take_of_length_le, SI.row, Node.row, Pfx.row, Link.row, srow, Line.row, Rule.row, Box.row, Slc.row, Config.row];done)|(simp[envCat, List.take_of_length_le, SI.row, Node.row, Pfx.row, Link.row, srow, Line.row, Rule.row, Box.row, Slc.row, Config.row];rw[IntKind.wrap_i64];omega)),?_⟩
 rintro k ⟨hk,hfe3⟩
 (conv=>whnf)
 by_cases hkl:k<b.routes.l.length
 . obtain⟨x,hx⟩:∃ x,b.routes.l[k]? = some x:=⟨_,List.getElem?_eq_getElem hkl⟩
   have hxI:b.routes.l[((k:Nat):Int).toNat]? = some x:=hx
   have hxb:b.b.routes[k]? = some x:=by simp[Box.b,hx]
   have hxR:(b.routes.l.map Pfx.row)[((k:Nat):Int).toNat]? = some x.row:=by rw[List.getElem?_map,hxI];rfl
   have hsp:=rprefix_at cf hf hh b b.routes.l k x hx b6 (r:=b.routes.room) rfl
   (try (conv=>whnf));repeat' (first|refine Ok.seq ?_|((first|refine Ok.region tok ?_|refine Ok.region_draw tok follows (by kernel_rfl) ?_|refine Ok.cond ?_);conv=>whnf)|refine Ok.block ?_|((first|refine Ok.skip ?_|refine Ok.ret ?_|refine nI ?_);conv=>whnf)|(refine Or.inl ?_;(conv=>whnf);(repeat (refine aI ?_;conv=>whnf));refine⟨_,hsp,rfl,?_⟩;conv=>whnf)|(refine bI ?_ ?_<;>intro<;>(conv=>whnf)<;>(try (exfalso;omega)))|(refine aJ ?_;conv=>whnf)|fail)
   . rename_i he
     have ht:=(told_split (f:=routE cf.b b.b) (t:=b.b.name++[32,114,111,117,116,101]) hxb rfl).1 he
     rw[ht] at hfe3
     refine Or.inl ?_;(conv=>whnf)
     rw[show doesE cf.b [] b.b=orE (firstE (guardE cf.b b.b) [] b.b.guards) (orE (firstE (ruleE cf.b b.b) [] b.b.rules) (orE (firstE (ownE cf.b b.b) [] b.b.owns) (firstE (routE cf.b b.b) [] b.b.routes))) from rfl,hfe,orE_r _ rfl,hfe1,orE_r _ rfl,hfe2,orE_r _ rfl,hfe3]
     rfl
   . rename_i he
     have ht:=(told_split (f:=routE cf.b b.b) (t:=b.b.name++[32,114,111,117,116,101]) hxb rfl).2 (Classical.not_not.1 he)
     rw[ht] at hfe3
     refine⟨k+1,by omega,⟨by omega,hfe3⟩,?_⟩
     (conv=>whnf)
     rfl
 obtain rfl:k=b.routes.l.length:=by omega
 rw[firstE_nil (by simp[Box.b])] at hfe3
 (try (conv=>whnf));repeat' (first|refine Ok.seq ?_|((first|refine Ok.region tok ?_|refine Ok.cond ?_|refine Ok.exit ?_|refine Ok.ret ?_);conv=>whnf)|(refine bI ?_ ?_<;>intro<;>(conv=>whnf)<;>(try (exfalso;omega)))|fail)
 refine Or.inl ?_;(conv=>whnf)
 rw[show doesE cf.b [] b.b=orE (firstE (guardE cf.b b.b) [] b.b.guards) (orE (firstE (ruleE cf.b b.b) [] b.b.rules) (orE (firstE (ownE cf.b b.b) [] b.b.owns) (firstE (routE cf.b b.b) [] b.b.routes))) from rfl,hfe,orE_r _ rfl,hfe1,orE_r _ rfl,hfe2,orE_r _ rfl,hfe3]
 rfl
end Go.Proofs.YtcglkonooeddfaaGreatDoor
namespace Go.Proofs.YtcglkonooeddfaaGreatDoor
open Go Go.Vx
theorem full_tt(c:Config)(hc:c.Ok)(ht:c.Tx)(hn:(fullIn c.b).length<=1000) :
    FSpec Tryz.prog T 134 [.agg c.row,.b True] (fun d rows=>rows=[some (9,(fullIn c.b).map srow)]/\d = .own 0 (fullIn c.b).length):=by
 have:=full_at c hc True (tx_names ht) (by rw[fullY_tt];exact hn)
 rw[fullY_tt] at this
 exact this
theorem full_ff(c:Config)(hc:c.Ok)(ht:c.Tx)(hn:(fullOut c.b).length<=1000) :
    FSpec Tryz.prog T 134 [.agg c.row,.b False] (fun d rows=>rows=[some (9,(fullOut c.b).map srow)]/\d = .own 0 (fullOut c.b).length):=by
 have:=full_at c hc False (tx_names ht) (by rw[fullY_ff];exact hn)
 rw[fullY_ff] at this
 exact this
theorem fullX_len(bs:List BoxB):(fullInL bs).length<=nPorts bs/\(fullOutL bs).length<=nPorts bs:=by
 induction bs with
 | nil=>exact⟨Nat.le_refl _,Nat.le_refl _⟩
 | cons b bs ih=>
  simp only[fullInL,fullOutL,nPorts,List.flatMap_cons,List.length_append,List.length_map,List.map_cons,List.sum_cons] at ih ⊢
  omega
set_option maxRecDepth 100000 in
set_option maxHeartbeats 16000000 in
theorem rlinks_at(c:Config)(hc:c.Ok)(ht:c.Tx)(hcn:(countO c.b).1=0) :
    FSpec Tryz.prog T 72 [.agg c.row] (fun d _=>d = .tup [.i .i64 (linkO c.b).1,.s (linkO c.b).2]):=by
 have hll:(c.links.l.map Link.row).length=c.links.l.length:=by simp
 have hL:=hc.links
 obtain⟨hx1,hx2⟩:=fullX_len c.b.boxes
 have hp:=(count_ok hcn).2.1
 have hfi:=full_tt c hc ht (by show (fullInL c.b.boxes).length<=1000;omega)
 have hfo:=full_ff c hc ht (by show (fullOutL c.b.boxes).length<=1000;omega)
 obtain⟨I,hI⟩:∃ I,I=fullIn c.b:=⟨_,rfl⟩
 obtain⟨U,hU⟩:∃ U,U=fullOut c.b:=⟨_,rfl⟩
 rw[<- hI] at hfi
 rw[<- hU] at hfo
 have hIm:(I.map srow).length=I.length:=by simp
 have hUm:(U.map srow).length=U.length:=by simp
 have hIt:(I.map srow).take I.length=I.map srow:=List.take_of_length_le (by simp)
 have hUt:(U.map srow).take U.length=U.map srow:=List.take_of_length_le (by simp)
 refine FSpec.of_ok tok Tryz.func72 rfl Tryz.call72 (by simp) ?_
 (try (conv=>whnf));repeat' (first|refine Ok.seq ?_|(refine Ok.region tok ?_;conv=>whnf)|refine Ok.block ?_|(refine Or.inr (Or.inr (Or.inr (Or.inl ?_)));(conv=>whnf);(repeat (refine aI ?_;conv=>whnf));refine⟨_,hfi,?_⟩;rintro _ _ ⟨rfl,rfl⟩<;>(refine And.intro (by simp[gRowsP, grounds, D.ground, SI.row, Node.row, Pfx.row, Link.row, srow, Line.row, Rule.row, Box.row, Slc.row, Config.row]) ?_;conv=>whnf))|(refine Or.inr (Or.inr (Or.inr (Or.inl ?_)));(conv=>whnf);(repeat (refine aI ?_;conv=>whnf));refine⟨_,hfo,?_⟩;rintro _ _ ⟨rfl,rfl⟩<;>(refine And.intro (by simp[gRowsP, grounds, D.ground, SI.row, Node.row, Pfx.row, Link.row, srow, Line.row, Rule.row, Box.row, Slc.row, Config.row]) ?_;conv=>whnf))|fail)
 refine Ok.loopU [1,4,5] [6] 2 1 (fun (k:Nat)=>[.i .i64 (k:Nat)]) (fun _ b=>b) (fun _ r=>r) (fun (k:Nat)=>k<=c.links.l.length/\linkO c.b=firstE (linkE c.b) (c.links.l.take k) (c.links.l.drop k)) (fun (k:Nat)=>c.links.l.length - k) (0) (⟨Nat.zero_le _,rfl⟩) ?_;(conv=>whnf);refine⟨by ((conv=>whnf);first|rfl|(simp[envCat, List.take_of_length_le, SI.row, Node.row, Pfx.row, Link.row, srow, Line.row, Rule.row, Box.row, Slc.row, Config.row];done)|(simp[envCat, List.take_of_length_le, SI.row, Node.row, Pfx.row, Link.row, srow, Line.row, Rule.row, Box.row, Slc.row, Config.row];rw[IntKind.wrap_i64];omega)),?_⟩
 rintro k ⟨hk,hO⟩
 (conv=>whnf)
 by_cases hlt:k<c.links.l.length
 . obtain⟨x,hx⟩:∃ x,c.links.l[k]? = some x:=⟨_,List.getElem?_eq_getElem hlt⟩
   have hxI:c.links.l[((k:Nat):Int).toNat]? = some x:=hx
   have hxr:(c.links.l.map Link.row)[((k:Nat):Int).toNat]? = some x.row:=by rw[List.getElem?_map,hxI];rfl
   have hdr:linkO c.b=if (linkE c.b (c.links.l.take k) x).1 ≠ 0 then linkE c.b (c.links.l.take k) x else firstE (linkE c.b) (c.links.l.take (k+1)) (c.links.l.drop (k+1)):=by rw[hO,firstE_split hx]
   have s1:=(sides_at [x.frm] U I (show [[D.s x.frm]].take 1=[x.frm].map srow from rfl) hUt hIt (r1:=[[D.s x.frm]].drop 1) (r2:=(U.map srow).drop U.length) (r3:=(I.map srow).drop I.length)).int0
   have s2:=(sides_at [x.dst] I U (show [[D.s x.dst]].take 1=[x.dst].map srow from rfl) hIt hUt (r1:=[[D.s x.dst]].drop 1) (r2:=(I.map srow).drop I.length) (r3:=(U.map srow).drop U.length)).int0
   (try (conv=>whnf));repeat' (first|refine Ok.seq ?_|((first|refine Ok.region tok ?_|refine Ok.region_draw tok follows (by kernel_rfl) ?_|refine Ok.cond ?_);conv=>whnf)|refine Ok.block ?_|((first|refine Ok.skip ?_|refine Ok.ret ?_|refine ix _ (by assumption) ?_);conv=>whnf)|(refine Or.inr (Or.inr (Or.inr (Or.inl ?_)));(conv=>whnf);(repeat (refine aI ?_;conv=>whnf));refine⟨_,s1,?_⟩;rintro _ _ ⟨rfl,rfl⟩<;>(refine And.intro (by simp[gRowsP, grounds, D.ground, SI.row, Node.row, Pfx.row, Link.row, srow, Line.row, Rule.row, Box.row, Slc.row, Config.row]) ?_;conv=>whnf))|(refine Or.inr (Or.inr (Or.inr (Or.inl ?_)));(conv=>whnf);(repeat (refine aI ?_;conv=>whnf));refine⟨_,s2,?_⟩;rintro _ _ ⟨rfl,rfl⟩<;>(refine And.intro (by simp[gRowsP, grounds, D.ground, SI.row, Node.row, Pfx.row, Link.row, srow, Line.row, Rule.row, Box.row, Slc.row, Config.row]) ?_;conv=>whnf))|(refine bI ?_ ?_<;>intro<;>(conv=>whnf)<;>(try (exfalso;omega)))|fail)
   . rename_i h1
     rw[hI,hU] at h1
     refine Or.inl ?_;(conv=>whnf)
     rw[hdr,linkE_frm h1,if_pos h1,hI,hU]
     rfl
   . rename_i h1 h2
     rw[hI,hU] at h1 h2
     refine Or.inl ?_;(conv=>whnf)
     rw[hdr,linkE_to h1 h2,if_pos h2,hI,hU]
     rfl
   . rename_i h1 h2 h3
     rw[hI,hU] at h1 h2
     refine Or.inl ?_;(conv=>whnf)
     rw[hdr,linkE_cost h1 h2 (by omega)]
     rfl
   . rename_i h1 h2 h3 h4
     rw[hI,hU] at h1 h2
     refine Or.inl ?_;(conv=>whnf)
     rw[hdr,linkE_cost h1 h2 (by omega)]
     rfl
   rename_i h1 h2 h3 h4
   rw[hI,hU] at h1 h2
   have h34:¬ (x.cost<1\/9999<x.cost):=by omega
   refine Ok.loopU [1,4,5,6,7] [9] 2 2 (fun (j:Nat)=>[.i .i64 (j:Nat)]) (fun _ b=>b) (fun _ r=>r) (fun (j:Nat)=>j<=k/\∀ (m:Nat) y,m<j->c.links.l[m]? = some y->y.frm ≠ x.frm) (fun (j:Nat)=>k - j) (0) (⟨Nat.zero_le _,fun m y hm=>absurd hm (by omega)⟩) ?_;(conv=>whnf);refine⟨by ((conv=>whnf);first|rfl|(simp[envCat, List.take_of_length_le, SI.row, Node.row, Pfx.row, Link.row, srow, Line.row, Rule.row, Box.row, Slc.row, Config.row];done)|(simp[envCat, List.take_of_length_le, SI.row, Node.row, Pfx.row, Link.row, srow, Line.row, Rule.row, Box.row, Slc.row, Config.row];rw[IntKind.wrap_i64];omega)),?_⟩
   rintro j ⟨hj,hall⟩
   (conv=>whnf)
   by_cases hjk:j<k
   . obtain⟨y,hy⟩:∃ y,c.links.l[j]? = some y:=⟨_,List.getElem?_eq_getElem (by omega)⟩
     have hyI:c.links.l[((j:Nat):Int).toNat]? = some y:=hy
     have hyr:(c.links.l.map Link.row)[((j:Nat):Int).toNat]? = some y.row:=by rw[List.getElem?_map,hyI];rfl
     have hym:y ∈ c.links.l.take k:=List.mem_of_getElem? (i:=j) (by rw[List.getElem?_take_of_lt hjk];exact hy)
     (try (conv=>whnf));repeat' (first|refine Ok.seq ?_|((first|refine Ok.region tok ?_|refine Ok.region_draw tok follows (by kernel_rfl) ?_|refine Ok.cond ?_);conv=>whnf)|refine Ok.block ?_|((first|refine Ok.skip ?_|refine Ok.ret ?_|refine nI ?_|refine ix _ (by assumption) ?_);conv=>whnf)|(refine bI ?_ ?_<;>intro<;>(conv=>whnf)<;>(try (exfalso;omega)))|fail)
     . rename_i he
       have hE:=linkE_dbl (c:=c.b) (x:=x) h1 h2 h34 ⟨y,hym,he⟩
       refine Or.inl ?_;(conv=>whnf)
       rw[hdr,hE]
       rfl
     . rename_i he
       refine⟨j+1,by omega,⟨by omega,fun m z hm hz=>?_⟩,?_⟩
       . by_cases hmj:m=j
         . subst hmj;rw[hy] at hz;cases hz;exact he
         . exact hall m z (by omega) hz
       . (conv=>whnf)
         rfl
   obtain rfl:j=k:=by omega
   have hno:¬ ∃ y ∈ c.links.l.take j,y.frm=x.frm:=by
    rintro⟨y,hy,h⟩
    obtain⟨m,hm⟩:=List.getElem?_of_mem hy
    have hmj:m<j:=by have:=(List.getElem?_eq_some_iff.1 hm).1;rw[List.length_take] at this;omega
    rw[List.getElem?_take_of_lt hmj] at hm
    exact hall m y hmj hm h
   have hE:=linkE_ok (c:=c.b) (x:=x) h1 h2 h34 hno
   (try (conv=>whnf));repeat' (first|refine Ok.seq ?_|((first|refine Ok.region tok ?_|refine Ok.cond ?_|refine Ok.exit ?_|refine nI ?_);conv=>whnf)|(refine bI ?_ ?_<;>intro<;>(conv=>whnf)<;>(try (exfalso;omega)))|fail)
   refine⟨j+1,by omega,⟨by omega,by rw[hdr,hE];rfl⟩,?_⟩
   (conv=>whnf)
   rfl
 . obtain rfl:k=c.links.l.length:=by omega
   rw[firstE_nil (by simp)] at hO
   (try (conv=>whnf));repeat' (first|refine Ok.seq ?_|((first|refine Ok.region tok ?_|refine Ok.cond ?_|refine Ok.exit ?_|refine Ok.ret ?_);conv=>whnf)|(refine bI ?_ ?_<;>intro<;>(conv=>whnf)<;>(try (exfalso;omega)))|fail)
   all_goals first
    | (exfalso;omega)
    | (refine Or.inl ?_;(conv=>whnf)
       rw[hO]
       rfl)
end Go.Proofs.YtcglkonooeddfaaGreatDoor
namespace Go.Proofs.YtcglkonooeddfaaGreatDoor
open Go Go.Vx
set_option maxRecDepth 100000 in
set_option maxHeartbeats 16000000 in
theorem rslices_at(c:Config)(hc:c.Ok)(ht:c.Tx)(hcn:(countO c.b).1=0) :
    FSpec Tryz.prog T 73 [.agg c.row] (fun d _=>d = .tup [.i .i64 (sliceO c.b).1,.s (sliceO c.b).2]):=by
 have hll:(c.slices.l.map Slc.row).length=c.slices.l.length:=by simp
 have hL:=hc.slices
 obtain⟨hx1,hx2⟩:=fullX_len c.b.boxes
 have hp:=(count_ok hcn).2.1
 have hfi:=full_tt c hc ht (by show (fullInL c.b.boxes).length<=1000;omega)
 have hfo:=full_ff c hc ht (by show (fullOutL c.b.boxes).length<=1000;omega)
 obtain⟨I,hI⟩:∃ I,I=fullIn c.b:=⟨_,rfl⟩
 obtain⟨U,hU⟩:∃ U,U=fullOut c.b:=⟨_,rfl⟩
 rw[<- hI] at hfi
 rw[<- hU] at hfo
 have hIm:(I.map srow).length=I.length:=by simp
 have hUm:(U.map srow).length=U.length:=by simp
 have hIt:(I.map srow).take I.length=I.map srow:=List.take_of_length_le (by simp)
 have hUt:(U.map srow).take U.length=U.map srow:=List.take_of_length_le (by simp)
 refine FSpec.of_ok tok Tryz.func73 rfl Tryz.call73 (by simp) ?_
 (try (conv=>whnf));repeat' (first|refine Ok.seq ?_|(refine Ok.region tok ?_;conv=>whnf)|refine Ok.block ?_|fail)
 refine Ok.loopU [1] [4] 0 1 (fun (i:Nat)=>[.i .i64 (i:Nat)]) (fun _ b=>b) (fun _ r=>r) (fun (i:Nat)=>i<=c.slices.l.length/\sliceO c.b=firstE (sliceE c.b) (c.b.slices.take i) (c.b.slices.drop i)) (fun (i:Nat)=>c.slices.l.length - i) (0) (⟨Nat.zero_le _,rfl⟩) ?_;(conv=>whnf);refine⟨by ((conv=>whnf);first|rfl|(simp[envCat, List.take_of_length_le, SI.row, Node.row, Pfx.row, Link.row, srow, Line.row, Rule.row, Box.row, Slc.row, Config.row];done)|(simp[envCat, List.take_of_length_le, SI.row, Node.row, Pfx.row, Link.row, srow, Line.row, Rule.row, Box.row, Slc.row, Config.row];rw[IntKind.wrap_i64];omega)),?_⟩
 rintro i ⟨hi,hfe⟩
 (conv=>whnf)
 by_cases hil:i<c.slices.l.length
 . obtain⟨b,hb⟩:∃ b,c.slices.l[i]? = some b:=⟨_,List.getElem?_eq_getElem hil⟩
   have hbI:c.slices.l[((i:Nat):Int).toNat]? = some b:=hb
   have hbr:(c.slices.l.map Slc.row)[((i:Nat):Int).toNat]? = some b.row:=by rw[List.getElem?_map,hbI];rfl
   have hbb:c.b.slices[i]? = some b.b:=by simp[Config.b,hb]
   have hbx:=hc.slc b (List.mem_of_getElem? hb)
   have hbt:=ht.slices b (List.mem_of_getElem? hb)
   have hbp:=hbx.ports
   have hbw:=hbx.whr
   have hcf:=hc.fields
   have hpl:(b.ports.l.map srow).length=b.ports.l.length:=by simp
   have hck:=rechk_at (fds c.fields.l) c.fields.room (nds b.whr.l) b.whr.room (by rw[fds_len];omega) (by simp[nds];omega) (nds_ok hbt.whr)
   rw[fds_row,nds_row] at hck
   (try (conv=>whnf));repeat' (first|refine Ok.seq ?_|((first|refine Ok.region tok ?_|refine Ok.region_draw tok follows (by kernel_rfl) ?_|refine Ok.cond ?_);conv=>whnf)|refine Ok.block ?_|((first|refine Ok.skip ?_|refine Ok.ret ?_|refine ix _ (by assumption) ?_);conv=>whnf)|(refine Or.inl ?_;(conv=>whnf);(repeat (refine aI ?_;conv=>whnf));refine⟨_,r6name_at b.name,rfl,?_⟩;conv=>whnf)|(refine bI ?_ ?_<;>intro<;>(conv=>whnf)<;>(try (exfalso;omega)))|fail)
   . rename_i hx
     refine Or.inl ?_;(conv=>whnf)
     rw[hfe,firstE_bad hbb (by rw[sliceE_bad hx];simp),sliceE_bad hx]
     rfl
   rename_i hx
   have hx:=Classical.not_not.1 hx
   refine Ok.loopU [1,4,5] [7] 0 2 (fun (k:Nat)=>[.i .i64 (k:Nat)]) (fun _ b=>b) (fun _ r=>r) (fun (k:Nat)=>k<=i/\∀ (j:Nat) x,j<k->c.slices.l[j]? = some x->x.name ≠ b.name) (fun (k:Nat)=>i - k) (0) (⟨Nat.zero_le _,fun j x hj=>absurd hj (by omega)⟩) ?_;(conv=>whnf);refine⟨by ((conv=>whnf);first|rfl|(simp[envCat, List.take_of_length_le, SI.row, Node.row, Pfx.row, Link.row, srow, Line.row, Rule.row, Box.row, Slc.row, Config.row];done)|(simp[envCat, List.take_of_length_le, SI.row, Node.row, Pfx.row, Link.row, srow, Line.row, Rule.row, Box.row, Slc.row, Config.row];rw[IntKind.wrap_i64];omega)),?_⟩
   rintro k ⟨hk,hall⟩
   (conv=>whnf)
   by_cases hki:k<i
   . obtain⟨x,hxk⟩:∃ x,c.slices.l[k]? = some x:=⟨_,List.getElem?_eq_getElem (by omega)⟩
     have hxI:c.slices.l[((k:Nat):Int).toNat]? = some x:=hxk
     have hxr:(c.slices.l.map Slc.row)[((k:Nat):Int).toNat]? = some x.row:=by rw[List.getElem?_map,hxI];rfl
     (try (conv=>whnf));repeat' (first|refine Ok.seq ?_|((first|refine Ok.region tok ?_|refine Ok.region_draw tok follows (by kernel_rfl) ?_|refine Ok.cond ?_);conv=>whnf)|refine Ok.block ?_|((first|refine Ok.skip ?_|refine Ok.ret ?_|refine nI ?_|refine ix _ (by assumption) ?_);conv=>whnf)|(refine bI ?_ ?_<;>intro<;>(conv=>whnf)<;>(try (exfalso;omega)))|fail)
     . rename_i he
       have hm:b.b.name ∈ (c.b.slices.take i).map SlcB.name:=List.mem_map.2 ⟨x.b,List.mem_of_getElem? (i:=k) (by rw[List.getElem?_take_of_lt hki];simp[Config.b,hxk]),he⟩
       refine Or.inl ?_;(conv=>whnf)
       rw[hfe,firstE_bad hbb (by rw[sliceE_dbl hx hm];simp),sliceE_dbl hx hm]
       rfl
     . rename_i he
       refine⟨k+1,by omega,⟨by omega,fun j x2 hj hx2=>?_⟩,?_⟩
       . by_cases hjk:j=k
         . subst hjk;rw[hxk] at hx2;cases hx2;exact he
         . exact hall j x2 (by omega) hx2
       . (conv=>whnf)
         rfl
   obtain rfl:k=i:=by omega
   have hm:b.b.name ∉ (c.b.slices.take k).map SlcB.name:=by
    intro hm
    obtain⟨x,hxm,e⟩:=List.mem_map.1 hm
    obtain⟨j,hj⟩:=List.getElem?_of_mem hxm
    have hjk:j<k:=by have:=(List.getElem?_eq_some_iff.1 hj).1;rw[List.length_take] at this;omega
    rw[List.getElem?_take_of_lt hjk] at hj
    simp only[Config.b,List.getElem?_map,Option.map_eq_some_iff] at hj
    obtain⟨y,hy,rfl⟩:=hj
    exact hall j y hjk hy e
   rw[firstE_split hbb,sliceE_ok hx hm] at hfe
   change sliceO c.b=if (orE (firstE (sportE c.b) [] b.ports.l) (if chkE (fds c.fields.l) (nds b.whr.l) ≠ 0 then (77,b.name) else (0,[]))).1 ≠ 0 then orE (firstE (sportE c.b) [] b.ports.l) (if chkE (fds c.fields.l) (nds b.whr.l) ≠ 0 then (77,b.name) else (0,[])) else _ at hfe
   (try (conv=>whnf));repeat' (first|refine Ok.seq ?_|((first|refine Ok.region tok ?_|refine Ok.cond ?_);conv=>whnf)|refine Ok.block ?_|(refine Ok.exit ?_;conv=>whnf)|(refine bI ?_ ?_<;>intro<;>(conv=>whnf)<;>(try (exfalso;omega)))|fail)
   refine Ok.loopU [1,4,5] [8] 0 2 (fun (j:Nat)=>[.i .i64 (j:Nat)]) (fun _ b=>b) (fun _ r=>r) (fun (j:Nat)=>j<=b.ports.l.length/\firstE (sportE c.b) [] b.ports.l=firstE (sportE c.b) (b.ports.l.take j) (b.ports.l.drop j)) (fun (j:Nat)=>b.ports.l.length - j) (0) (⟨Nat.zero_le _,rfl⟩) ?_;(conv=>whnf);refine⟨by ((conv=>whnf);first|rfl|(simp[envCat, List.take_of_length_le, SI.row, Node.row, Pfx.row, Link.row, srow, Line.row, Rule.row, Box.row, Slc.row, Config.row];done)|(simp[envCat, List.take_of_length_le, SI.row, Node.row, Pfx.row, Link.row, srow, Line.row, Rule.row, Box.row, Slc.row, Config.row];rw[IntKind.wrap_i64];omega)),?_⟩
   rintro j ⟨hj,hfe2⟩
   (conv=>whnf)
   by_cases hjl:j<b.ports.l.length
   . obtain⟨s,hs⟩:∃ s,b.ports.l[j]? = some s:=⟨_,List.getElem?_eq_getElem hjl⟩
     have hsI:b.ports.l[((j:Nat):Int).toNat]? = some s:=hs
     have hsr:(b.ports.l.map srow)[((j:Nat):Int).toNat]? = some (srow s):=by rw[List.getElem?_map,hsI];rfl
     have p1:=plc_neg I s
     have p2:=plc_neg U s
     have p3:=plc_take (i:=j) (List.mem_of_getElem? hs)
     (try (conv=>whnf));repeat' (first|refine Ok.seq ?_|((first|refine Ok.region tok ?_|refine Ok.region_plan (id:=16) tok follows [(0,1,[]),(0,7,[1]),(3,7,[6,5]),(6,7,[]),(1,7,[]),(0,11,[9,7,1]),(3,11,[9,7,6,5]),(6,11,[9,7]),(1,11,[9,7]),(7,11,[9]),(10,11,[]),(0,17,[9,7,1]),(3,17,[9,7,6,5]),(6,17,[9,7]),(1,17,[9,7]),(7,17,[9]),(10,17,[11]),(13,17,[16,15]),(16,17,[]),(11,17,[])] [.q 0,.q 2,.q 3,.q 4,.q 5,.q 6,.l 1,.l 7,.q 8,.q 9,.q 10,.q 12,.q 13,.q 14,.q 15,.q 16,.l 11,.l 17,.q 18,.q 19] (by kernel_rfl) ?_|refine Ok.region_draw tok follows (by kernel_rfl) ?_|refine Ok.cond ?_);conv=>whnf)|refine Ok.block ?_|((first|refine Ok.skip ?_|refine Ok.ret ?_|refine nI ?_|refine ix _ (by assumption) ?_);conv=>whnf)|(refine Or.inl ?_;(conv=>whnf);(repeat (refine aI ?_;conv=>whnf));refine⟨_,place_at I s hIt,rfl,?_⟩;conv=>whnf)|(refine Or.inl ?_;(conv=>whnf);(repeat (refine aI ?_;conv=>whnf));refine⟨_,place_at U s hUt,rfl,?_⟩;conv=>whnf)|(refine⟨_,place_at b.ports.l s rfl,rfl,?_⟩;conv=>whnf)|(refine Or.inr (Or.inr (Or.inl ?_));(conv=>whnf);(repeat (refine aI ?_;conv=>whnf));refine⟨_,hfi,?_⟩;rintro _ _ ⟨rfl,rfl⟩<;>(refine And.intro (by simp[gRowsP, grounds, D.ground, SI.row, Node.row, Pfx.row, Link.row, srow, Line.row, Rule.row, Box.row, Slc.row, Config.row]) ?_;conv=>whnf))|(refine Or.inr (Or.inr (Or.inl ?_));(conv=>whnf);(repeat (refine aI ?_;conv=>whnf));refine⟨_,hfo,?_⟩;rintro _ _ ⟨rfl,rfl⟩<;>(refine And.intro (by simp[gRowsP, grounds, D.ground, SI.row, Node.row, Pfx.row, Link.row, srow, Line.row, Rule.row, Box.row, Slc.row, Config.row]) ?_;conv=>whnf))|(refine bI ?_ ?_<;>intro<;>(conv=>whnf)<;>(try (exfalso;omega)))|fail)
     all_goals first
      | (have hu:s ∉ fullIn c.b/\s ∉ fullOut c.b:=⟨by rw[<- hI];exact p1.1 (by omega),by rw[<- hU];exact p2.1 (by omega)⟩
         rw[firstE_bad hs (by rw[sportE_unk hu];simp),sportE_unk hu] at hfe2
         rw[hfe2] at hfe
         refine Or.inl ?_;(conv=>whnf)
         rw[hfe]
         rfl)
      | (have hu:¬ (s ∉ fullIn c.b/\s ∉ fullOut c.b):=fun h=>by
           rw[<- hI,<- hU] at h
           have q1:=p1.2 h.1
           have q2:=p2.2 h.2
           omega
         have hp:=p3.1 (by omega)
         rw[firstE_bad hs (by rw[sportE_dbl hu hp];simp),sportE_dbl hu hp] at hfe2
         rw[hfe2] at hfe
         refine Or.inl ?_;(conv=>whnf)
         rw[hfe]
         rfl)
      | (have hu:¬ (s ∉ fullIn c.b/\s ∉ fullOut c.b):=fun h=>by
           rw[<- hI,<- hU] at h
           have q1:=p1.2 h.1
           have q2:=p2.2 h.2
           omega
         have hp:s ∉ b.ports.l.take j:=fun h=>by have:=p3.2 h;omega
         refine⟨j+1,by omega,⟨by omega,by rw[hfe2,firstE_ok hs (by rw[sportE_ok hu hp])]⟩,?_⟩
         (conv=>whnf)
         rfl)
   . obtain rfl:j=b.ports.l.length:=by omega
     rw[firstE_nil (Nat.le_refl _)] at hfe2
     rw[hfe2] at hfe
     (try (conv=>whnf));repeat' (first|refine Ok.seq ?_|((first|refine Ok.region tok ?_|refine Ok.region_draw tok follows (by kernel_rfl) ?_|refine Ok.cond ?_|refine Ok.skip ?_|refine Ok.exit ?_|refine Ok.ret ?_|refine nI ?_);conv=>whnf)|(refine Or.inl ?_;(conv=>whnf);(repeat (refine aI ?_;conv=>whnf));refine⟨_,hck,rfl,?_⟩;conv=>whnf)|(refine bI ?_ ?_<;>intro<;>(conv=>whnf)<;>(try (exfalso;omega)))|fail)
     . rename_i hz
       rw[if_pos hz] at hfe
       refine Or.inl ?_;(conv=>whnf)
       rw[hfe]
       rfl
     . rename_i hz
       rw[if_neg hz,if_neg (by simp[orE])] at hfe
       refine⟨k+1,by omega,⟨by omega,hfe⟩,?_⟩
       (conv=>whnf)
       rfl
 . obtain rfl:i=c.slices.l.length:=by omega
   rw[firstE_nil (by simp[Config.b])] at hfe
   (try (conv=>whnf));repeat' (first|refine Ok.seq ?_|((first|refine Ok.region tok ?_|refine Ok.cond ?_|refine Ok.exit ?_|refine Ok.ret ?_);conv=>whnf)|(refine bI ?_ ?_<;>intro<;>(conv=>whnf)<;>(try (exfalso;omega)))|fail)
   all_goals first
    | (exfalso;omega)
    | (refine Or.inl ?_;(conv=>whnf)
       rw[hfe]
       rfl)
end Go.Proofs.YtcglkonooeddfaaGreatDoor
namespace Go.Proofs.YtcglkonooeddfaaGreatDoor
open Go Go.Vx
theorem orE_zero{a b:Er}(h:(orE a b).1=0):orE a b=b/\b.1=0:=by
 by_cases ha:a.1=0
 . rw[orE_ok ha] at h ⊢;exact⟨rfl,h⟩
 . rw[orE_bad ha] at h;exact absurd h ha
theorem doesE_zero{c:ConfigB}{b:BoxB}(h:(doesE c [] b).1=0):doesE c [] b=(0,[]):=by
 unfold doesE at h ⊢
 obtain⟨e1,h1⟩:=orE_zero h
 obtain⟨e2,h2⟩:=orE_zero h1
 obtain⟨e3,h3⟩:=orE_zero h2
 rw[e1,e2,e3]
 exact firstE_emp h3
set_option maxRecDepth 100000 in
set_option maxHeartbeats 16000000 in
theorem rCheck_at(c:Config)(hc:c.Ok)(ht:c.Tx) :
    FSpec Tryz.prog T 34 [.agg c.row] (fun d _=>d = .tup [.i .i64 (checkO c.b).1,.s (checkO c.b).2]):=by
 have p0:=rhead_at c hc.fields
 have p1:=rcounts_at c hc
 have p2:=rnames_at c hc (tx_names ht)
 have hbl:(c.boxes.l.map Box.row).length=c.boxes.l.length:=by simp
 have hcb:=hc.boxes
 refine FSpec.of_ok tok Tryz.func34 rfl Tryz.call34 (by simp) ?_
 by_cases h0:¬ (headO c.b).1=0
 . have hE:checkO c.b=headO c.b:=by unfold checkO;rw[orE_bad h0]
   (try (conv=>whnf));repeat' (first|refine Ok.seq ?_|((first|refine Ok.region tok ?_|refine Ok.cond ?_);conv=>whnf)|refine Ok.block ?_|(refine Ok.skip ?_;conv=>whnf)|(refine Or.inl ?_;(conv=>whnf);(repeat (refine aI ?_;conv=>whnf));refine⟨_,p0,rfl,?_⟩;conv=>whnf)|(refine bI ?_ ?_<;>intro<;>(conv=>whnf)<;>(try (exfalso;omega)))|fail)
   all_goals first
    | (exfalso;omega)
    | skip
   refine Ok.loopU [1] [4,5,6] 0 1 (fun (i:Nat)=>[.i .i64 (headO c.b).1,.s (headO c.b).2,.i .i64 (i:Nat)]) (fun _ b=>b) (fun _ r=>r) (fun (i:Nat)=>i=0) (fun (i:Nat)=>0) (0) (rfl) ?_;(conv=>whnf);refine⟨by ((conv=>whnf);first|rfl|(simp[envCat, List.take_of_length_le, SI.row, Node.row, Pfx.row, Link.row, srow, Line.row, Rule.row, Box.row, Slc.row, Config.row];done)|(simp[envCat, List.take_of_length_le, SI.row, Node.row, Pfx.row, Link.row, srow, Line.row, Rule.row, Box.row, Slc.row, Config.row];rw[IntKind.wrap_i64];omega)),?_⟩
   rintro i rfl
   (try (conv=>whnf));repeat' (first|refine Ok.seq ?_|((first|refine Ok.region tok ?_|refine Ok.cond ?_|refine Ok.skip ?_|refine Ok.exit ?_|refine Ok.ret ?_);conv=>whnf)|(refine bI ?_ ?_<;>intro<;>(conv=>whnf)<;>(try (exfalso;omega)))|fail)
   all_goals first
    | (exfalso;omega)
    | (refine Or.inl ?_;(conv=>whnf)
       rw[hE]
       rfl)
 have h0:=Classical.not_not.1 h0
 by_cases h1:¬ (countO c.b).1=0
 . have hE:checkO c.b=countO c.b:=by unfold checkO;rw[orE_ok h0,orE_bad h1]
   (try (conv=>whnf));repeat' (first|refine Ok.seq ?_|((first|refine Ok.region tok ?_|refine Ok.cond ?_);conv=>whnf)|refine Ok.block ?_|(refine Ok.skip ?_;conv=>whnf)|(refine Or.inl ?_;(conv=>whnf);(repeat (refine aI ?_;conv=>whnf));refine⟨_,p0,rfl,?_⟩;conv=>whnf)|(refine Or.inl ?_;(conv=>whnf);(repeat (refine aI ?_;conv=>whnf));refine⟨_,p1,rfl,?_⟩;conv=>whnf)|(refine bI ?_ ?_<;>intro<;>(conv=>whnf)<;>(try (exfalso;omega)))|fail)
   all_goals first
    | (exfalso;omega)
    | skip
   refine Ok.loopU [1] [4,5,6] 0 1 (fun (i:Nat)=>[.i .i64 (countO c.b).1,.s (countO c.b).2,.i .i64 (i:Nat)]) (fun _ b=>b) (fun _ r=>r) (fun (i:Nat)=>i=0) (fun (i:Nat)=>0) (0) (rfl) ?_;(conv=>whnf);refine⟨by ((conv=>whnf);first|rfl|(simp[envCat, List.take_of_length_le, SI.row, Node.row, Pfx.row, Link.row, srow, Line.row, Rule.row, Box.row, Slc.row, Config.row];done)|(simp[envCat, List.take_of_length_le, SI.row, Node.row, Pfx.row, Link.row, srow, Line.row, Rule.row, Box.row, Slc.row, Config.row];rw[IntKind.wrap_i64];omega)),?_⟩
   rintro i rfl
   (try (conv=>whnf));repeat' (first|refine Ok.seq ?_|((first|refine Ok.region tok ?_|refine Ok.cond ?_|refine Ok.skip ?_|refine Ok.exit ?_|refine Ok.ret ?_);conv=>whnf)|(refine bI ?_ ?_<;>intro<;>(conv=>whnf)<;>(try (exfalso;omega)))|fail)
   all_goals first
    | (exfalso;omega)
    | (refine Or.inl ?_;(conv=>whnf)
       rw[hE]
       rfl)
 have h1:=Classical.not_not.1 h1
 by_cases h2:¬ (nameO c.b).1=0
 . have hE:checkO c.b=nameO c.b:=by unfold checkO;rw[orE_ok h0,orE_ok h1,orE_bad h2]
   (try (conv=>whnf));repeat' (first|refine Ok.seq ?_|((first|refine Ok.region tok ?_|refine Ok.cond ?_);conv=>whnf)|refine Ok.block ?_|(refine Or.inl ?_;(conv=>whnf);(repeat (refine aI ?_;conv=>whnf));refine⟨_,p0,rfl,?_⟩;conv=>whnf)|(refine Or.inl ?_;(conv=>whnf);(repeat (refine aI ?_;conv=>whnf));refine⟨_,p1,rfl,?_⟩;conv=>whnf)|(refine Or.inl ?_;(conv=>whnf);(repeat (refine aI ?_;conv=>whnf));refine⟨_,p2,rfl,?_⟩;conv=>whnf)|(refine bI ?_ ?_<;>intro<;>(conv=>whnf)<;>(try (exfalso;omega)))|fail)
   all_goals first
    | (exfalso;omega)
    | skip
   refine Ok.loopU [1] [4,5,6] 0 1 (fun (i:Nat)=>[.i .i64 (nameO c.b).1,.s (nameO c.b).2,.i .i64 (i:Nat)]) (fun _ b=>b) (fun _ r=>r) (fun (i:Nat)=>i=0) (fun (i:Nat)=>0) (0) (rfl) ?_;(conv=>whnf);refine⟨by ((conv=>whnf);first|rfl|(simp[envCat, List.take_of_length_le, SI.row, Node.row, Pfx.row, Link.row, srow, Line.row, Rule.row, Box.row, Slc.row, Config.row];done)|(simp[envCat, List.take_of_length_le, SI.row, Node.row, Pfx.row, Link.row, srow, Line.row, Rule.row, Box.row, Slc.row, Config.row];rw[IntKind.wrap_i64];omega)),?_⟩
   rintro i rfl
   (try (conv=>whnf));repeat' (first|refine Ok.seq ?_|((first|refine Ok.region tok ?_|refine Ok.cond ?_|refine Ok.skip ?_|refine Ok.exit ?_|refine Ok.ret ?_);conv=>whnf)|(refine bI ?_ ?_<;>intro<;>(conv=>whnf)<;>(try (exfalso;omega)))|fail)
   all_goals first
    | (exfalso;omega)
    | (refine Or.inl ?_;(conv=>whnf)
       rw[hE]
       rfl)
 have h2:=Classical.not_not.1 h2
 have h2e:nameO c.b=(0,[]):=firstE_emp h2
 have p4:=rlinks_at c hc ht h1
 have p5:=rslices_at c hc ht h1
 have hE:checkO c.b=orE (deedO c.b) (orE (linkO c.b) (sliceO c.b)):=by unfold checkO;rw[orE_ok h0,orE_ok h1,orE_ok h2]
 rw[h2e] at p2
 (try (conv=>whnf));repeat' (first|refine Ok.seq ?_|((first|refine Ok.region tok ?_|refine Ok.cond ?_);conv=>whnf)|refine Ok.block ?_|(refine Or.inl ?_;(conv=>whnf);(repeat (refine aI ?_;conv=>whnf));refine⟨_,p0,rfl,?_⟩;conv=>whnf)|(refine Or.inl ?_;(conv=>whnf);(repeat (refine aI ?_;conv=>whnf));refine⟨_,p1,rfl,?_⟩;conv=>whnf)|(refine Or.inl ?_;(conv=>whnf);(repeat (refine aI ?_;conv=>whnf));refine⟨_,p2,rfl,?_⟩;conv=>whnf)|(refine bI ?_ ?_<;>intro<;>(conv=>whnf)<;>(try (exfalso;omega)))|fail)
 all_goals first
  | (exfalso;omega)
  | skip
 refine Ok.loopU [1] [4,5,6] 0 1 (fun (x:Nat × Er)=>[.i .i64 x.2.1,.s x.2.2,.i .i64 (x.1:Nat)]) (fun _ b=>b) (fun _ r=>r) (fun (x:Nat × Er)=>x.1<=c.boxes.l.length/\(x.2.1=0->deedO c.b=firstE (doesE c.b) (c.b.boxes.take x.1) (c.b.boxes.drop x.1)/\x.2=(0,[]))/\(x.2.1 ≠ 0->deedO c.b=x.2)) (fun (x:Nat × Er)=>(c.boxes.l.length - x.1)) ((0,((0:Int),[]))) (⟨Nat.zero_le _,fun _=>⟨rfl,rfl⟩,fun h=>absurd rfl h⟩) ?_;(conv=>whnf);refine⟨by ((conv=>whnf);first|rfl|(simp[envCat, List.take_of_length_le, SI.row, Node.row, Pfx.row, Link.row, srow, Line.row, Rule.row, Box.row, Slc.row, Config.row];done)|(simp[envCat, List.take_of_length_le, SI.row, Node.row, Pfx.row, Link.row, srow, Line.row, Rule.row, Box.row, Slc.row, Config.row];rw[IntKind.wrap_i64];omega)),?_⟩
 rintro⟨i,e,t⟩ ⟨hi,hz,hnz⟩
 dsimp only at hi hz hnz ⊢
 (conv=>whnf)
 by_cases he:e=0
 . obtain⟨hfe,het⟩:=hz he
   cases het
   by_cases hil:i<c.boxes.l.length
   . obtain⟨b,hb⟩:∃ b,c.boxes.l[i]? = some b:=⟨_,List.getElem?_eq_getElem hil⟩
     have hbI:c.boxes.l[((i:Nat):Int).toNat]? = some b:=hb
     have hbr:(c.boxes.l.map Box.row)[((i:Nat):Int).toNat]? = some b.row:=by rw[List.getElem?_map,hbI];rfl
     have hbb:c.b.boxes[i]? = some b.b:=by simp[Config.b,hb]
     have hbx:=hc.box b (List.mem_of_getElem? hb)
     have hbt:=ht.boxes b (List.mem_of_getElem? hb)
     have hsp:=rbox_at c hc.fields (head_ok h0) b hbx hbt
     have hdf:doesE c.b (c.b.boxes.take i) b.b=doesE c.b [] b.b:=rfl
     (try (conv=>whnf));repeat' (first|refine Ok.seq ?_|((first|refine Ok.region tok ?_|refine Ok.region_plan (id:=9) tok follows [(0,6,[]),(2,6,[5,4]),(5,6,[])] [.q 0,.q 1,.q 2,.q 3,.q 4,.q 5,.l 6,.q 7,.q 8,.q 9,.q 10,.q 11] (by kernel_rfl) ?_|refine Ok.cond ?_);conv=>whnf)|refine Ok.block ?_|((first|refine Ok.skip ?_|refine nI ?_|refine ix _ (by assumption) ?_);conv=>whnf)|(refine Or.inl ?_;(conv=>whnf);(repeat (refine aI ?_;conv=>whnf));refine⟨_,hsp,rfl,?_⟩;conv=>whnf)|(refine bI ?_ ?_<;>intro<;>(conv=>whnf)<;>(try (exfalso;omega)))|fail)
     refine⟨(i+1,doesE c.b [] b.b),by dsimp only;omega,⟨by dsimp only;omega,fun h=>⟨?_,?_⟩,fun h=>?_⟩,?_⟩
     . rw[hfe,firstE_ok hbb (by rw[hdf];exact h)]
     . exact doesE_zero h
     . rw[hfe,firstE_bad hbb (by rw[hdf];exact h),hdf]
     . (conv=>whnf)
       rfl
   . obtain rfl:i=c.boxes.l.length:=by omega
     rw[firstE_nil (by simp[Config.b])] at hfe
     rw[hfe,orE_ok rfl] at hE
     (try (conv=>whnf));repeat' (first|refine Ok.seq ?_|((first|refine Ok.region tok ?_|refine Ok.cond ?_|refine Ok.skip ?_|refine Ok.exit ?_|refine Ok.ret ?_);conv=>whnf)|(refine Or.inl ?_;(conv=>whnf);(repeat (refine aI ?_;conv=>whnf));refine⟨_,p4,rfl,?_⟩;conv=>whnf)|(refine Or.inl ?_;(conv=>whnf);(repeat (refine aI ?_;conv=>whnf));refine⟨_,p5,rfl,?_⟩;conv=>whnf)|(refine bI ?_ ?_<;>intro<;>(conv=>whnf)<;>(try (exfalso;omega)))|fail)
     . rename_i hk
       rw[orE_ok hk] at hE
       refine Or.inl ?_;(conv=>whnf)
       rw[hE]
       rfl
     . rename_i hk
       rw[orE_bad hk] at hE
       refine Or.inl ?_;(conv=>whnf)
       rw[hE]
       rfl
 . have hd:=hnz he
   rw[hd,orE_bad he] at hE
   (try (conv=>whnf));repeat' (first|refine Ok.seq ?_|((first|refine Ok.region tok ?_|refine Ok.cond ?_|refine Ok.skip ?_|refine Ok.exit ?_|refine Ok.ret ?_);conv=>whnf)|(refine bI ?_ ?_<;>intro<;>(conv=>whnf)<;>(try (exfalso;omega)))|fail)
   all_goals first
    | (exfalso;omega)
    | (refine Or.inl ?_;(conv=>whnf)
       rw[hE]
       rfl)
end Go.Proofs.YtcglkonooeddfaaGreatDoor
namespace Go.Proofs.YtcglkonooeddfaaGreatDoor
open Go Go.Vx Go.RowKit Go.Shelf Go.Proofs
theorem text_of{P:Program}{T:Tab}{f:FuncId}{ds:List D}{l:List UInt8}(hcall:∀ args w,(callFunc f args).run P w = .ok (.enter f args) w)
    (h:∀ (V:Vw) (w:World) (args:Array Value),VOk V w->args.size=ds.length->(∀ (j:Nat) v d,args[j]? = some v->ds[j]? = some d->RI (szOf T) V v d)->Calls P f args w fun q w'=>
     q = .returned (.string ⟨l.toArray⟩)/\Below w.heap.size w w') :
    FSpec P T f ds fun d _=>d = .s l:=by
 refine⟨hcall,fun V w args hV hl hR=>(h V w args hV hl hR).mono ?_⟩
 rintro q w' ⟨rfl,hb⟩
 exact⟨V,[],[],_,_,rfl,rfl,.imm _ _ (.s l),hb,fun _ _ h=>h,hV.ext hb,fun _ _=>rfl,rfl,by simp,by simp,by simp⟩
theorem below_gr(w:World)(n:Nat)(os:Array Obj):Below w.heap.size w (Sort.grow (w.drewN n) os):=by
 have h:(w.drewN n).heap=w.heap:=rfl
 refine⟨rfl,rfl,rfl,?_,fun k hk=>?_⟩
 . show w.heap.size<=(w.heap++os).size
   simp
 . show (w.heap++os)[k]? = _
   rw[Array.getElem?_append_left hk]
theorem pow10_gt{w:World}(h:GT w):Lib.TabIs Tryz.prog w "internal/strconv.uint64pow10" .u64 Lib.pow10Tab:=by
 obtain⟨_,a,b,hw⟩:=h 5 _ rfl
 unfold Lib.TabIs World.var?
 rw[show Tryz.prog.globalNamed "internal/strconv.uint64pow10" = some 5 from by kernel_rfl]
 simp only[Option.bind_some,hw]
 rfl
theorem itoa_ok:ItoaOk:=by
 intro n h0 h1
 refine text_of Tryz.call193 fun V w args hV hl hR=>?_
 have hl1:args.size=1:=hl
 have h2:args[0]? = some args[0]:=Array.getElem?_eq_getElem (by omega)
 have h3:args=#[.int .i64 n]:=by
  have:=int_arg (hR 0 _ _ h2 rfl)
  rw[this] at h2
  apply Array.ext'
  apply List.ext_getElem?
  intro i
  match i with
  | 0=>simpa using h2
  | i+1=>simp;omega
 subst h3
 refine (Any.strconv_Itoa Tryz.vxItoa n h0 h1 w (pow10_gt hV.1.2)).mono ?_
 rintro e w' ⟨rfl,k,os,rfl⟩
 exact⟨rfl,below_gr w k os⟩
end Go.Proofs.YtcglkonooeddfaaGreatDoor
namespace Go.Proofs.YtcglkonooeddfaaGreatDoor
open Go Go.Vx
set_option maxRecDepth 100000 in
set_option maxHeartbeats 16000000 in
theorem word_ok:WordOk:=by
 intro l r S r2 hch hS
 obtain⟨hlay,hl12⟩:=chk_lay hch
 have hSl:(S.map SI.row).length=S.length:=by simp
 have hll:(l.map frow).length=l.length:=by simp
 have hrc:=check_at l r (by omega)
 have hw:=wid_le hlay
 have hrw:=width_at l r (by omega) hlay
 have hxs:=xrep_at (wid l) (by omega)
 have hxl:(xsT (wid l)).length=wid l:=by simp[xsT]
 rw[show chkO l=(0,(chkO l).2) from by rw[<- hch]] at hrc
 refine FSpec.of_ok tok Tryz.func257 rfl Tryz.call257 (by simp) ?_
 by_cases h12:12<S.length
 . (try (conv=>whnf));repeat' (first|refine Ok.seq ?_|((first|refine Ok.region tok ?_|refine Ok.cond ?_|refine Ok.ret ?_);conv=>whnf)|(refine bI ?_ ?_<;>intro<;>(conv=>whnf)<;>(try (exfalso;omega)))|fail)
   all_goals first
    | (exfalso;omega)
    | (refine Or.inl ?_;(conv=>whnf)
       exact⟨⟨_,by rw[wordI_long h12];rfl⟩,rfl⟩)
 (try (conv=>whnf));repeat' (first|refine Ok.seq ?_|((first|refine Ok.region tok ?_|refine Ok.cond ?_);conv=>whnf)|refine Ok.block ?_|(refine Ok.skip ?_;conv=>whnf)|(refine Or.inl ?_;(conv=>whnf);(repeat (refine aI ?_;conv=>whnf));refine⟨_,hrc,rfl,?_⟩;conv=>whnf)|(refine Or.inl ?_;(conv=>whnf);(repeat (refine aI ?_;conv=>whnf));refine⟨_,hrw,rfl,?_⟩;conv=>whnf)|(refine Or.inl ?_;(conv=>whnf);(repeat (refine aI ?_;conv=>whnf));refine⟨_,hxs,rfl,?_⟩;conv=>whnf)|(refine bI ?_ ?_<;>intro<;>(conv=>whnf)<;>(try (exfalso;omega)))|(refine aJ ?_;conv=>whnf)|fail)
 all_goals first
  | (exfalso;omega)
  | skip
 have hwI:=wordI_ok h12 hch
 rw[hxl]
 refine Ok.loopU [0,1,8,35,36] [37] 1 0 (fun (x:Nat × Str)=>[.i .i64 (x.1:Nat)]) (fun _ b=>b) (fun (x:Nat × Str) (_:Vx.Rows)=>[some (Nat.add 5 BIG,x.2.map bcell)]) (fun (x:Nat × Str)=>x.1<=S.length/\x.2.length=wid l/\wordI l S=(firstE (setE l) (S.take x.1) (S.drop x.1)).1) (fun (x:Nat × Str)=>S.length - x.1) ((0,xsT (wid l))) (⟨Nat.zero_le _,hxl,hwI⟩) ?_;(conv=>whnf);refine⟨by ((conv=>whnf);first|rfl|(simp[envCat, List.take_of_length_le, SI.row, Node.row, Pfx.row, Link.row, srow, Line.row, Rule.row, Box.row, Slc.row, Config.row, frow, bcell];done)|(simp[envCat, List.take_of_length_le, SI.row, Node.row, Pfx.row, Link.row, srow, Line.row, Rule.row, Box.row, Slc.row, Config.row, frow, bcell];rw[IntKind.wrap_i64];omega)),?_⟩
 rintro⟨i,w⟩ ⟨hi,hwl,hfe⟩
 dsimp only at hi hwl hfe ⊢
 have hwb:(w.map bcell).length=wid l:=by rw[List.length_map,hwl]
 (conv=>whnf)
 by_cases hil:i<S.length
 . obtain⟨s,hs⟩:∃ s,S[i]? = some s:=⟨_,List.getElem?_eq_getElem hil⟩
   have hsI:S[((i:Nat):Int).toNat]? = some s:=hs
   have hsR:(S.map SI.row)[((i:Nat):Int).toNat]? = some s.row:=by rw[List.getElem?_map,hsI];rfl
   have htp:=find_at l r s.s (by omega)
   by_cases hu:findI s.s l 0<0
   . rw[firstE_bad hs (by rw[setE_unk hu];simp),setE_unk hu] at hfe
     (try (conv=>whnf));repeat' (first|refine Ok.seq ?_|((first|refine Ok.region tok ?_|refine Ok.cond ?_);conv=>whnf)|refine Ok.block ?_|((first|refine Ok.skip ?_|refine Ok.ret ?_|refine ix _ (by assumption) ?_);conv=>whnf)|(refine Or.inl ?_;(conv=>whnf);(repeat (refine aI ?_;conv=>whnf));refine⟨_,htp,rfl,?_⟩;conv=>whnf)|(refine bI ?_ ?_<;>intro<;>(conv=>whnf)<;>(try (exfalso;omega)))|fail)
     all_goals first
      | (exfalso;omega)
      | (refine Or.inl ?_;(conv=>whnf)
         exact⟨⟨_,by rw[hfe];rfl⟩,rfl⟩)
   obtain⟨k,hk⟩:∃ k:Nat,findI s.s l 0=k:=⟨(findI s.s l 0).toNat,by omega⟩
   have hkl:k<l.length:=by have:=(findI_ge s.s l 0).2.2;omega
   obtain⟨f,hf⟩:∃ f,l[k]? = some f:=⟨_,List.getElem?_eq_getElem hkl⟩
   have hfI:l[((k:Nat):Int).toNat]? = some f:=hf
   have hfR:(l.map frow)[((k:Nat):Int).toNat]? = some (frow f):=by rw[List.getElem?_map,hfI];rfl
   have hfb:=hlay f (List.mem_of_getElem? hf)
   rw[hk] at htp
   have hws:=widd_split hf
   have hmt:((S.map SI.row++r2).take i).drop 0=(S.take i).map SI.row:=by rw[List.drop_zero,List.take_append_of_le_length (by omega),List.map_take]
   have hml:((S.take i).map SI.row).length=i:=by simp;omega
   (try (conv=>whnf));repeat' (first|refine Ok.seq ?_|((first|refine Ok.region tok ?_|refine Ok.cond ?_);conv=>whnf)|refine Ok.block ?_|((first|refine Ok.skip ?_|refine ix _ (by assumption) ?_);conv=>whnf)|(refine Or.inl ?_;(conv=>whnf);(repeat (refine aI ?_;conv=>whnf));refine⟨_,htp,rfl,?_⟩;conv=>whnf)|(refine⟨_,_,rfl,rfl,?_⟩;conv=>whnf)|(refine bI ?_ ?_<;>intro<;>(conv=>whnf)<;>(try (exfalso;omega)))|(refine aJ ?_;conv=>whnf)|fail)
   have hnu:¬ findI s.s l 0<0:=hu
   have hml2:(((S.map SI.row++r2).take i).drop 0).length=i:=by rw[hmt,hml]
   refine Ok.loopU [0,1,8,10,11,35,36,37,50,51] [52] 1 1 (fun (j:Nat)=>[.i .i64 (j:Nat)]) (fun _ b=>b) (fun _ r=>r) (fun (j:Nat)=>j<=i/\∀ (m:Nat) q,m<j->S[m]? = some q->q.s ≠ s.s) (fun (j:Nat)=>i - j) (0) (⟨Nat.zero_le _,fun m q hm=>absurd hm (by omega)⟩) ?_;(conv=>whnf);refine⟨by ((conv=>whnf);first|rfl|(simp[envCat, List.take_of_length_le, SI.row, Node.row, Pfx.row, Link.row, srow, Line.row, Rule.row, Box.row, Slc.row, Config.row, frow, bcell];done)|(simp[envCat, List.take_of_length_le, SI.row, Node.row, Pfx.row, Link.row, srow, Line.row, Rule.row, Box.row, Slc.row, Config.row, frow, bcell];rw[IntKind.wrap_i64];omega)),?_⟩
   rintro j ⟨hj,hall⟩
   (conv=>whnf)
   by_cases hji:j<i
   . obtain⟨q,hq⟩:∃ q,S[j]? = some q:=⟨_,List.getElem?_eq_getElem (by omega)⟩
     have hqI:S[((j:Nat):Int).toNat]? = some q:=hq
     have hqR:(((S.map SI.row++r2).take i).drop 0)[((j:Nat):Int).toNat]? = some q.row:=by
      rw[hmt]
      show ((S.take i).map SI.row)[j]? = _
      rw[List.getElem?_map,List.getElem?_take_of_lt hji,hq]
      rfl
     have hqm:q ∈ S.take i:=List.mem_of_getElem? (i:=j) (by rw[List.getElem?_take_of_lt hji];exact hq)
     (try (conv=>whnf));repeat' (first|refine Ok.seq ?_|((first|refine Ok.region tok ?_|refine Ok.cond ?_);conv=>whnf)|refine Ok.block ?_|((first|refine Ok.skip ?_|refine Ok.ret ?_|refine nI ?_|refine⟨_,by assumption,?_⟩);conv=>whnf)|(refine bI ?_ ?_<;>intro<;>(conv=>whnf)<;>(try (exfalso;omega)))|(refine aJ ?_;conv=>whnf)|fail)
     . rename_i he
       rw[firstE_bad hs (by rw[setE_dup hnu ⟨q,hqm,he⟩];simp),setE_dup hnu ⟨q,hqm,he⟩] at hfe
       refine Or.inl ?_;(conv=>whnf)
       exact⟨⟨_,by rw[hfe];rfl⟩,rfl⟩
     . rename_i he
       refine⟨j+1,by omega,⟨by omega,fun m x hm hx=>?_⟩,?_⟩
       . by_cases hmj:m=j
         . subst hmj;rw[hq] at hx;cases hx;exact he
         . exact hall m x (by omega) hx
       . (conv=>whnf)
         rfl
   obtain rfl:j=i:=by omega
   have hno:¬ ∃ t ∈ S.take j,t.s=s.s:=by
    rintro⟨q,hq,h⟩
    obtain⟨m,hm⟩:=List.getElem?_of_mem hq
    have hmj:m<j:=by have:=(List.getElem?_eq_some_iff.1 hm).1;rw[List.length_take] at this;omega
    rw[List.getElem?_take_of_lt hmj] at hm
    exact hall m q hmj hm h
   have hfb2:((l[(findI s.s l 0).toNat]?).getD ⟨[],0⟩).bits=f.bits:=by rw[hk,hfI];rfl
   obtain⟨B,hB⟩:∃ B:Nat,f.bits=B:=⟨f.bits.toNat,by omega⟩
   have hBt:f.bits.toNat=B:=by omega
   have htop:=top_at B (by omega)
   rw[<- hB] at htop
   have htw:(0:Int)<tw B:=by have:=tw_pos B;omega
   have htw2:=tw62 (k:=B) (by omega)
   by_cases hv:s.n<0\/(tw B:Int) - 1<s.n
   . have hb:=setE_val hnu hno (by rw[hfb2,hBt];exact hv)
     rw[firstE_bad hs (by rw[hb];simp),hb] at hfe
     (try (conv=>whnf));repeat' (first|refine Ok.seq ?_|((first|refine Ok.region tok ?_|refine Ok.region_draw tok follows (by kernel_rfl) ?_|refine Ok.cond ?_|refine Ok.exit ?_|refine Ok.ret ?_|refine ix _ (by assumption) ?_|refine⟨_,by assumption,?_⟩);conv=>whnf)|(refine bI ?_ ?_<;>intro<;>(conv=>whnf)<;>(try (exfalso;omega)))|(refine aJ ?_;conv=>whnf)|fail)
     all_goals first
      | (exfalso;omega)
      | (refine Or.inl ?_;(conv=>whnf)
         exact⟨⟨_,by rw[hfe];rfl⟩,rfl⟩)
   have hok:=setE_ok hnu hno (by rw[hfb2,hBt];exact hv)
   rw[firstE_ok hs (by rw[hok])] at hfe
   obtain⟨v,hvn⟩:∃ v:Nat,s.n=v:=⟨s.n.toNat,by omega⟩
   have hdg:=binary_at v B B (by omega) (by omega) (by omega)
   have hbl:=binT_len v B B
   rw[<- hB,<- hvn] at hdg
   have hws':wid (l.take k)+B<=wid l:=by omega
   have hmk:((l.map frow++r).take k).drop 0=(l.take k).map frow:=by rw[List.drop_zero,List.take_append_of_le_length (by omega),List.map_take]
   have hwd:=width_at (l.take k) ((l.map frow++r).drop k) (by rw[List.length_take];omega) (fun x hx=>hlay x (List.mem_of_mem_take hx))
   rw[<- hmk] at hwd
   (try (conv=>whnf));repeat' (first|refine Ok.seq ?_|((first|refine Ok.region tok ?_|refine Ok.region_plan (id:=22) tok follows [(7,10,[]),(4,10,[]),(7,11,[10]),(4,11,[5]),(10,11,[])] [.q 0,.q 1,.q 2,.q 3,.q 6,.q 7,.q 8,.q 9,.l 4,.q 5,.l 10,.l 11] (by kernel_rfl) ?_|refine Ok.region_draw tok follows (by kernel_rfl) ?_|refine Ok.cond ?_|refine Ok.skip ?_|refine Ok.exit ?_|refine nI ?_|refine ix _ (by assumption) ?_|refine⟨_,by assumption,?_⟩);conv=>whnf)|(refine Or.inl ?_;(conv=>whnf);(repeat (refine aI ?_;conv=>whnf));refine⟨_,hdg,rfl,?_⟩;conv=>whnf)|(refine Or.inl ?_;(conv=>whnf);(repeat (refine aI ?_;conv=>whnf));refine⟨_,hwd,rfl,?_⟩;conv=>whnf)|(refine⟨_,_,rfl,rfl,?_⟩;conv=>whnf)|(refine bI ?_ ?_<;>intro<;>(conv=>whnf)<;>(try (exfalso;omega)))|((first|refine aJ ?_|refine⟨_,rfl,?_⟩);conv=>whnf)|fail)
   refine⟨(j+1,w.take (wid (l.take k))++binT v B B++w.drop (wid (l.take k)+(binT v B B).length)),by dsimp only;omega,⟨by dsimp only;omega,by simp;omega,hfe⟩,?_⟩
   dsimp only
   rw[List.map_append,List.map_append,List.map_take,List.map_drop]
   (conv=>whnf)
   rfl
 . obtain rfl:i=S.length:=by omega
   rw[firstE_nil (by simp)] at hfe
   (try (conv=>whnf));repeat' (first|(refine⟨w,by rw[List.take_of_length_le (by omega)],?_⟩;conv=>whnf)|refine Ok.seq ?_|((first|refine Ok.region tok ?_|refine Ok.cond ?_|refine Ok.exit ?_|refine Ok.ret ?_);conv=>whnf)|(refine bI ?_ ?_<;>intro<;>(conv=>whnf)<;>(try (exfalso;omega)))|(refine aJ ?_;conv=>whnf)|fail)
   all_goals first
    | (exfalso;omega)
    | (refine Or.inl ?_;(conv=>whnf)
       exact⟨⟨_,by rw[hfe];rfl⟩,rfl⟩)
end Go.Proofs.YtcglkonooeddfaaGreatDoor
namespace Go.Proofs.YtcglkonooeddfaaGreatDoor
open Go Go.Vx
theorem lineR_ok{x:Line}(h:x.Ok):(lineR x).Ok:=⟨h.mtch⟩
theorem ruleR_ok{x:Rule}(h:x.Ok):(ruleR x).Ok:=⟨h.frm,h.mtch,h.sets,h.dst⟩
theorem boxR_ok{x:Box}(h:x.Ok):(boxR x).Ok:=by
 refine⟨h.ins,h.outs,by simpa[boxR] using h.guards,by simpa[boxR] using h.rules,h.owns,h.routes,fun g hg=>?_,fun r hr=>?_⟩
 . obtain⟨y,hy,rfl⟩:=List.mem_map.1 hg
   exact lineR_ok (h.line y hy)
 . obtain⟨y,hy,rfl⟩:=List.mem_map.1 hr
   exact ruleR_ok (h.rule y hy)
theorem configR_ok{c:Config}(h:c.Ok):(configR c).Ok:=by
 refine⟨h.fields,by simpa[configR] using h.boxes,h.links,by simpa[configR] using h.slices,fun b hb=>?_,fun s hs=>?_⟩
 . obtain⟨y,hy,rfl⟩:=List.mem_map.1 hb
   exact boxR_ok (h.box y hy)
 . obtain⟨y,hy,rfl⟩:=List.mem_map.1 hs
   exact⟨(h.slc y hy).ports,(h.slc y hy).whr⟩
theorem boxR_tx{x:Box}(h:x.Tx):(boxR x).Tx:=by
 refine⟨h.name,h.ins,h.outs,fun g hg=>?_,fun r hr=>?_,h.owns,h.routes⟩
 . obtain⟨y,hy,rfl⟩:=List.mem_map.1 hg
   exact⟨(h.guards y hy).port,(h.guards y hy).mtch⟩
 . obtain⟨y,hy,rfl⟩:=List.mem_map.1 hr
   have:=h.rules y hy
   exact⟨this.prio,this.frm,this.mtch,this.sets,this.dst⟩
theorem configR_tx{c:Config}(h:c.Tx):(configR c).Tx:=by
 refine⟨h.title,h.fields,h.routing,fun b hb=>?_,h.links,fun s hs=>?_⟩
 . obtain⟨y,hy,rfl⟩:=List.mem_map.1 hb
   exact boxR_tx (h.boxes y hy)
 . obtain⟨y,hy,rfl⟩:=List.mem_map.1 hs
   exact⟨(h.slices y hy).name,(h.slices y hy).ports,(h.slices y hy).whr⟩
theorem munum_at(n:Int):FSpec Tryz.prog T 27 [.i .i64 n] (fun d _=>d = .i .i64 n):=by
 refine FSpec.of_ok tok Tryz.func27 rfl Tryz.call27 (by simp) ?_
 (try (conv=>whnf));repeat' (first|refine Ok.seq ?_|((first|refine Ok.region tok ?_|refine Ok.ret ?_);conv=>whnf)|fail)
 refine Or.inl ?_;(conv=>whnf)
 rfl
set_option maxHeartbeats 4000000 in
theorem muntouched_b(c:Config)(hc:c.Ok):FSpec Tryz.prog T 23 [.agg (configR c).row,.agg (configK c).row,.agg c.row] (fun d _=>d = .b True):=by
 have h1:=(Marked_at (configR c) (configK c) (mark_ok c hc)).tt trivial
 have h2:=(Equal_at (configR c) c hc.fields (by simpa[configR] using hc.boxes)).tt (by rw[configR_b];exact equalP_refl _ _)
 generalize configR c=g at h1 h2 ⊢
 generalize configK c=k at h1 ⊢
 refine FSpec.of_ok tok Tryz.func23 rfl Tryz.call23 (by simp) ?_
 (try (conv=>whnf));repeat' (first|refine Ok.seq ?_|((first|refine Ok.region tok ?_|refine Ok.ret ?_);conv=>whnf)|(refine Or.inl ?_;(conv=>whnf);(repeat (refine aI ?_;conv=>whnf));refine⟨_,h1,rfl,?_⟩;conv=>whnf)|(refine Or.inl ?_;(conv=>whnf);(repeat (refine aI ?_;conv=>whnf));refine⟨_,h2,rfl,?_⟩;conv=>whnf)|fail)
 refine Or.inl ?_;(conv=>whnf)
 rfl
theorem muntouched_at(c:Config)(hc:c.Ok):FSpec Tryz.prog T 23 [.agg (configR c).row,.agg (configK c).row,.agg c.row] (fun d _=>d = .tt):=(muntouched_b c hc).tt trivial
end Go.Proofs.YtcglkonooeddfaaGreatDoor
namespace Go.Proofs.YtcglkonooeddfaaGreatDoor
open Go Go.Vx
def tinyB:Box:=⟨[82],⟨[[97]],[]⟩,⟨[[98]],[]⟩,⟨[],[]⟩,⟨[],[]⟩,⟨[],[]⟩,⟨[],[]⟩⟩
def tinyC:Config:=⟨[],⟨[⟨[102],1⟩],[]⟩,[],False,⟨[tinyB],[]⟩,⟨[⟨[82,46,98],[82,46,97],3⟩],[]⟩,⟨[],[]⟩⟩
def noC0:Config:=⟨[],⟨[],[]⟩,[],False,⟨[],[]⟩,⟨[],[]⟩,⟨[],[]⟩⟩
theorem sok0{s:Str}(h:s.length<=9):SOk s:=by unfold SOk;omega
theorem iok0{n:Int}(h:0<=n/\n<=9):IOk n:=by unfold IOk;omega
theorem noC0_ok:noC0.Ok:=⟨by decide,by decide,by decide,by decide,fun b hb=>(by cases hb),fun s hs=>(by cases hs)⟩
theorem noC0_tx:noC0.Tx:=⟨sok0 (by decide),fun x h=>(by cases h),sok0 (by decide),fun x h=>(by cases h),fun x h=>(by cases h),fun x h=>(by cases h)⟩
theorem noC0_check:checkO noC0.b=(70,[]):=by
 have h:headO noC0.b=(70,[]):=by
  unfold headO
  rw[if_neg (by decide)]
  exact if_pos (Or.inr rfl)
 unfold checkO
 rw[orE_bad (by rw[h];decide),h]
theorem tinyC_ok:tinyC.Ok:=by
 refine⟨by decide,by decide,by decide,by decide,fun b hb=>?_,fun s hs=>(by cases hs)⟩
 rw[List.mem_singleton.1 hb]
 exact⟨by decide,by decide,by decide,by decide,by decide,by decide,fun g hg=>(by cases hg),fun r hr=>(by cases hr)⟩
theorem tinyC_tx:tinyC.Tx:=by
 refine⟨sok0 (by decide),fun x h=>?_,sok0 (by decide),fun x h=>?_,fun x h=>?_,fun x h=>(by cases h)⟩
 . rw[List.mem_singleton.1 h];exact⟨sok0 (by decide),iok0 (by decide)⟩
 . rw[List.mem_singleton.1 h]
   exact⟨sok0 (by decide),fun y hy=>by rw[List.mem_singleton.1 hy];exact sok0 (by decide),fun y hy=>by rw[List.mem_singleton.1 hy];exact sok0 (by decide),fun x h=>(by cases h),fun x h=>(by cases h),fun x h=>(by cases h),fun x h=>(by cases h)⟩
 . rw[List.mem_singleton.1 h];exact⟨sok0 (by decide),sok0 (by decide),iok0 (by decide)⟩
theorem name_one{b:UInt8}(hb:nameAt 0 b):NameP [b]:=by
 refine⟨by simp,by simp,fun i x h=>?_⟩
 cases i with
 | zero=>simp at h;subst h;exact hb
 | succ i=>simp at h
theorem rsv_long{s:Str}(h:Rsv s):2<=s.length:=by
 have:∀ x ∈ resvL,2<=x.length:=by decide
 exact this s h
theorem mname_one{b:UInt8}(hb:nameAt 0 b):MName [b]:=⟨name_one hb,fun h=>by have:=rsv_long h;simp at this⟩
theorem tiny_chk:chkO [⟨[102],1⟩]=(0,0):=by
 rw[chkO_of (by decide) (by decide),chkFrom_ok]
 . rfl
 . rintro (h|h|h|⟨g,hg,_⟩|h|h|h)
   . exact h (name_one (by left;unfold Ltr;decide))
   . simp at h
   . simp at h
   . simp at hg
   . simp at h
   . simp at h
   . simp at h
theorem tiny_head:headO tinyC.b=(0,[]):=by
 unfold headO
 have h1:fds tinyC.b.fields=[⟨[102],1⟩]:=rfl
 rw[if_neg (by decide),h1,tiny_chk,if_neg (by rintro (h|h)<;>simp[tinyC,Config.b] at h),if_neg (by simp)]
 have h2:firstE resvE [] tinyC.b.fields=(0,[]):=by
  show (if (resvE [] ⟨[102],1⟩).1 ≠ 0 then _ else (0,[]))=_
  rw[if_neg]
  unfold resvE
  rw[if_neg (fun h=>by have:=rsv_long h;simp at this)]
  simp
 rw[h2,orE_ok rfl,if_neg]
 rintro (⟨h,_⟩|⟨h,_⟩)
 . exact h rfl
 . exact h
theorem tiny_count:countO tinyC.b=(0,[]):=by
 rw[countO_if]
 simp[tinyC,tinyB,Config.b,Box.b,nPorts,nLines,nRules,nRoutes]
theorem firstE_one{α:Type}{f:List α->α->Er}{x:α}(h:f [] x=(0,[])):firstE f [] [x]=(0,[]):=by
 show (if (f [] x).1 ≠ 0 then f [] x else (0,[]))=_
 rw[h,if_neg (by simp)]
theorem firstE_two{α:Type}{f:List α->α->Er}{x y:α}(h:f [] x=(0,[]))(h2:f [x] y=(0,[])):firstE f [] [x,y]=(0,[]):=by
 show (if (f [] x).1 ≠ 0 then f [] x else if (f [x] y).1 ≠ 0 then f [x] y else (0,[]))=_
 rw[h,h2,if_neg (by simp),if_neg (by simp)]
theorem tiny_name:nameO tinyC.b=(0,[]):=by
 refine firstE_one ?_
 rw[boxE_ok (mname_one (by left;unfold Ltr;decide)) (by simp)]
 exact firstE_two (portE_ok (mname_one (by left;unfold Ltr;decide)) (by simp)) (portE_ok (mname_one (by left;unfold Ltr;decide)) (by simp))
theorem tiny_deed:deedO tinyC.b=(0,[]):=by
 refine firstE_one ?_
 show orE (0,[]) (orE (0,[]) (orE (0,[]) (0,[])))=_
 rw[orE_ok rfl,orE_ok rfl,orE_ok rfl]
theorem tiny_link:linkO tinyC.b=(0,[]):=by
 refine firstE_one ?_
 have h1:fullOut tinyC.b=[[82,46,98]]:=rfl
 have h2:fullIn tinyC.b=[[82,46,97]]:=rfl
 refine linkE_ok ?_ ?_ (by decide) (by rintro⟨y,hy,_⟩;cases hy)
 . rw[h1,h2,sidesI_one,sideE_ok (by simp) (by simp)];simp
 . rw[h1,h2,sidesI_one,sideE_ok (by simp) (by simp)];simp
theorem tiny_check:checkO tinyC.b=(0,[]):=by
 unfold checkO
 rw[tiny_head,tiny_count,tiny_name,tiny_deed,tiny_link,orE_ok rfl,orE_ok rfl,orE_ok rfl,orE_ok rfl,orE_ok rfl]
 rfl
theorem tiny_find:findP tinyC.b [82,46,98]=1:=by
 unfold findP
 rw[if_neg (by rw[tiny_check];simp),if_pos (by decide)]
 decide
set_option maxRecDepth 100000 in
set_option maxHeartbeats 4000000 in
theorem tiny_at:FSpec Tryz.prog T 54 [] (fun d rows=>rows=[]/\d = .agg tinyC.row):=by
 refine FSpec.of_ok tok Tryz.func54 rfl Tryz.call54 (by simp) ?_
 (try (conv=>whnf));repeat' (first|refine Ok.seq ?_|((first|refine Ok.region tok ?_|refine Ok.ret ?_);conv=>whnf)|fail)
 refine Or.inl ?_;(conv=>whnf)
 exact⟨rfl,rfl⟩
end Go.Proofs.YtcglkonooeddfaaGreatDoor
namespace Go.Proofs.YtcglkonooeddfaaGreatDoor
open Go Go.Vx
theorem mfind_q(c:Config)(hc:c.Ok)(ht:c.Tx)(s:Str):FSpec Tryz.prog T 28 [.agg c.row,.s s] (fun d _=>d = .i .i64 (findP c.b s)):=
 FSpecH.nil ((mFind_at word_ok itoa_ok c hc ht s).mono fun _ _ _ h=>h.1.1)
set_option maxHeartbeats 8000000 in
theorem mknown_b:FSpec Tryz.prog T 24 [] (fun d _=>d = .b True):=by
 have k1:=mcheck_at word_ok itoa_ok noC0 noC0_ok noC0_tx
 have k2:=mcheck_at word_ok itoa_ok tinyC tinyC_ok tinyC_tx
 have k3:=mfind_q tinyC tinyC_ok tinyC_tx [82,46,98]
 rw[noC0_check] at k1
 rw[tiny_check] at k2
 rw[tiny_find] at k3
 refine FSpec.of_ok tok Tryz.func24 rfl Tryz.call24 (by simp) ?_
 (try (conv=>whnf));repeat' (first|refine Ok.seq ?_|((first|refine Ok.region tok ?_|refine Ok.ret ?_);conv=>whnf)|(refine Or.inl ?_;(conv=>whnf);(repeat (refine aI ?_;conv=>whnf));refine⟨_,k1,rfl,?_⟩;conv=>whnf)|(refine Or.inl ?_;(conv=>whnf);(repeat (refine aI ?_;conv=>whnf));refine⟨_,k2,rfl,?_⟩;conv=>whnf)|(refine Or.inl ?_;(conv=>whnf);(repeat (refine aI ?_;conv=>whnf));refine⟨_,k3,rfl,?_⟩;conv=>whnf)|(refine Or.inl ?_;(conv=>whnf);(repeat (refine aI ?_;conv=>whnf));refine⟨_,munum_at 70,rfl,?_⟩;conv=>whnf)|(refine Or.inl ?_;(conv=>whnf);(repeat (refine aI ?_;conv=>whnf));refine⟨_,munum_at 0,rfl,?_⟩;conv=>whnf)|(refine Or.inr (Or.inl ?_);(conv=>whnf);(repeat (refine aI ?_;conv=>whnf));refine⟨_,tiny_at,?_⟩;rintro _ _ ⟨rfl,rfl⟩<;>(conv=>whnf))|(refine bI ?_ ?_<;>intro<;>(conv=>whnf)<;>(try (exfalso;omega)))|fail)
 all_goals first
  | exact absurd rfl (by assumption)
  | (refine Or.inl ?_;(conv=>whnf)
     exact congrArg D.b (propext ⟨fun _=>trivial,fun _=>rfl⟩))
theorem mknown_at:FSpec Tryz.prog T 24 [] (fun d _=>d = .tt):=mknown_b.tt trivial
end Go.Proofs.YtcglkonooeddfaaGreatDoor
namespace Go.Proofs.YtcglkonooeddfaaGreatDoor
open Go Go.Vx
structure Prt where
 name:Str
 box:Nat
 inn:Prop
 dst:Int
def Prt.row(x:Prt):List D:=[.s x.name,.i .i64 (x.box:Nat),.b x.inn,.i .i64 x.dst]
def prtB(n:Nat)(b:BoxB):List Prt:=(b.ins.map fun s=>⟨dot b.name s,n,True,-1⟩)++(b.outs.map fun s=>⟨dot b.name s,n,False,-1⟩)
def prtsN:Nat->List BoxB->List Prt
 | _,[]=>[]
 | n,b :: bs=>prtB n b++prtsN (n+1) bs
theorem prtB_len(n:Nat)(b:BoxB):(prtB n b).length=b.ins.length+b.outs.length:=by simp[prtB]
theorem prtsN_app(n:Nat)(l m:List BoxB):prtsN n (l++m)=prtsN n l++prtsN (n+l.length) m:=by
 induction l generalizing n with
 | nil=>simp[prtsN]
 | cons b l ih=>simp[prtsN,ih];congr 1;omega
theorem prtsN_len(n:Nat)(l:List BoxB):(prtsN n l).length=nPorts l:=by
 induction l generalizing n with
 | nil=>rfl
 | cons b l ih=>
  simp only[prtsN,List.length_append,prtB_len,ih,nPorts,List.map_cons,List.sum_cons]
theorem prtsN_names(n:Nat)(l:List BoxB):(prtsN n l).map Prt.name=fullsL l:=by
 induction l generalizing n with
 | nil=>rfl
 | cons b l ih=>
  rw[fullsL_cons,prtsN,List.map_append,ih]
  simp[prtB,Function.comp_def]
theorem prtB_at(n:Nat)(b:BoxB){k:Nat}{s:Str}(h:(b.ins++b.outs)[k]? = some s):(prtB n b)[k]? = some ⟨dot b.name s,n,k<b.ins.length,-1⟩:=by
 unfold prtB
 by_cases hk:k<b.ins.length
 . rw[List.getElem?_append_left (by simpa using hk)]
   rw[List.getElem?_append_left hk] at h
   rw[List.getElem?_map,h]
   have:(k<b.ins.length)=True:=propext ⟨fun _=>trivial,fun _=>hk⟩
   rw[this]
   rfl
 . rw[List.getElem?_append_right (by simp;omega)]
   rw[List.getElem?_append_right (by omega)] at h
   have:(k<b.ins.length)=False:=propext ⟨fun h=>hk h,fun h=>h.elim⟩
   simp[h,this]
set_option maxRecDepth 100000 in
set_option maxHeartbeats 8000000 in
theorem rnumbered_at(c:Config)(hc:c.Ok)(htx:∀ b ∈ c.boxes.l,b.name.length<=1048576/\(∀ s ∈ b.ins.l,s.length<=1048576)/\∀ s ∈ b.outs.l,s.length<=1048576)(hn:nPorts c.b.boxes<=1000) :
    FSpec Tryz.prog T 81 [.agg c.row] (fun d rows=>rows=[some (89,(prtsN 0 c.b.boxes).map Prt.row)]/\d = .own 0 (prtsN 0 c.b.boxes).length):=by
 have hcb:=hc.boxes
 have hbl:(c.boxes.l.map Box.row).length=c.boxes.l.length:=by simp
 have hcl:c.b.boxes.length=c.boxes.l.length:=by simp[Config.b]
 refine FSpec.of_ok tok Tryz.func81 rfl Tryz.call81 (by simp) ?_
 (try (conv=>whnf));repeat' (first|refine Ok.seq ?_|(refine Ok.region tok ?_;conv=>whnf)|refine Ok.block ?_|fail)
 refine Ok.ghost 3 89 rfl ?_
 (conv=>whnf)
 refine Ok.loopU [1] [3,4] 1 1 (fun (i:Nat)=>[.own 0 (prtsN 0 (c.b.boxes.take i)).length,.i .i64 (i:Nat)]) (fun (i:Nat) (_:List (List D))=>[c.row]) (fun (i:Nat) (_:Vx.Rows)=>[some (89,(prtsN 0 (c.b.boxes.take i)).map Prt.row)]) (fun (i:Nat)=>i<=c.boxes.l.length) (fun (i:Nat)=>c.boxes.l.length - i) (0) (Nat.zero_le _) ?_;(conv=>whnf);refine⟨by ((conv=>whnf);first|rfl|(simp[envCat, List.take_of_length_le, SI.row, Node.row, Pfx.row, Link.row, srow, Line.row, Rule.row, Box.row, Slc.row, Config.row, Prt.row];done)|(simp[envCat, List.take_of_length_le, SI.row, Node.row, Pfx.row, Link.row, srow, Line.row, Rule.row, Box.row, Slc.row, Config.row, Prt.row];rw[IntKind.wrap_i64];omega)),?_⟩
 rintro i hi
 have hfm:((prtsN 0 (c.b.boxes.take i)).map Prt.row).length=(prtsN 0 (c.b.boxes.take i)).length:=by simp
 have hle:∀ j,(prtsN 0 (c.b.boxes.take j)).length<=1000:=fun j=>by
  have:=prtsN_app 0 (c.b.boxes.take j) (c.b.boxes.drop j)
  rw[List.take_append_drop] at this
  have h2:=congrArg List.length this
  rw[prtsN_len,List.length_append] at h2
  omega
 have hlei:=hle i
 have hle1:=hle (i+1)
 (conv=>whnf)
 by_cases hil:i<c.boxes.l.length
 . obtain⟨b,hb⟩:∃ b,c.boxes.l[i]? = some b:=⟨_,List.getElem?_eq_getElem hil⟩
   have hbI:c.boxes.l[((i:Nat):Int).toNat]? = some b:=hb
   have hbr:(c.boxes.l.map Box.row)[((i:Nat):Int).toNat]? = some b.row:=by rw[List.getElem?_map,hbI];rfl
   have hbb:c.b.boxes[i]? = some b.b:=by simp[Config.b,hb]
   have hbx:=hc.box b (List.mem_of_getElem? hb)
   have hbi:=hbx.ins
   have hbo:=hbx.outs
   obtain⟨hbn,hbins,hbouts⟩:=htx b (List.mem_of_getElem? hb)
   have hadd:prtsN 0 (c.b.boxes.take (i+1))=prtsN 0 (c.b.boxes.take i)++prtB i b.b:=by
    rw[List.take_add_one,hbb,prtsN_app,Nat.zero_add,List.length_take,Nat.min_eq_left (by omega)]
    simp[prtsN]
   rw[hadd,List.length_append,prtB_len] at hle1
   obtain⟨ps,hps⟩:∃ ps,ps=b.ins.l++b.outs.l:=⟨_,rfl⟩
   have hboth:=both_at b hbi hbo
   rw[<- hps] at hboth
   have hpl:ps.length=b.ins.l.length+b.outs.l.length:=by rw[hps];simp
   have hple:(prtsN 0 (c.b.boxes.take i)).length+ps.length<=1000:=by rw[hpl];exact hle1
   have hpm:(ps.map srow).length=ps.length:=by simp
   have hbil:(b.ins.l.map srow).length=b.ins.l.length:=by simp
   have hPl:(prtB i b.b).length=ps.length:=by rw[prtB_len,hpl];rfl
   (try (conv=>whnf));repeat' (first|refine Ok.seq ?_|((first|refine Ok.region tok ?_|refine Ok.cond ?_);conv=>whnf)|refine Ok.block ?_|((first|refine Ok.skip ?_|refine ix _ (by assumption) ?_);conv=>whnf)|(refine Or.inr (Or.inr (Or.inr (Or.inl ?_)));(conv=>whnf);(repeat (refine aI ?_;conv=>whnf));refine⟨_,hboth,?_⟩;rintro _ _ ⟨rfl,rfl⟩<;>(refine And.intro (by simp[gRowsP, grounds, D.ground, SI.row, Node.row, Pfx.row, Link.row, srow, Line.row, Rule.row, Box.row, Slc.row, Config.row, Prt.row]) ?_;conv=>whnf))|(refine bI ?_ ?_<;>intro<;>(conv=>whnf)<;>(try (exfalso;omega)))|fail)
   refine Ok.loopU [1,4,5,6] [3,7] 2 2 (fun (k:Nat)=>[.own 0 ((prtsN 0 (c.b.boxes.take i)).length+k),.i .i64 (k:Nat)]) (fun (k:Nat) (_:List (List D))=>[c.row,b.row]) (fun (k:Nat) (_:Vx.Rows)=>[some (89,(prtsN 0 (c.b.boxes.take i)++(prtB i b.b).take k).map Prt.row),some (9,ps.map srow)]) (fun (k:Nat)=>k<=ps.length) (fun (k:Nat)=>ps.length - k) (0) (Nat.zero_le _) ?_;(conv=>whnf);refine⟨by ((conv=>whnf);first|rfl|(simp[envCat, List.take_of_length_le, SI.row, Node.row, Pfx.row, Link.row, srow, Line.row, Rule.row, Box.row, Slc.row, Config.row, Prt.row];done)|(simp[envCat, List.take_of_length_le, SI.row, Node.row, Pfx.row, Link.row, srow, Line.row, Rule.row, Box.row, Slc.row, Config.row, Prt.row];rw[IntKind.wrap_i64];omega)),?_⟩
   rintro k hk
   have htl:((prtsN 0 (c.b.boxes.take i)++(prtB i b.b).take k).map Prt.row).length=(prtsN 0 (c.b.boxes.take i)).length+k:=by simp;omega
   (conv=>whnf)
   by_cases hkl:k<ps.length
   . obtain⟨s,hs⟩:∃ s,ps[k]? = some s:=⟨_,List.getElem?_eq_getElem hkl⟩
     have hsI:(ps.map srow)[((k:Nat):Int).toNat]? = some (srow s):=by show (ps.map srow)[k]? = _;rw[List.getElem?_map,hs];rfl
     have hsl:s.length<=1048576:=by
      rcases List.mem_append.1 (hps ▸ List.mem_of_getElem? hs) with h|h
      . exact hbins s h
      . exact hbouts s h
     have hp:=prtB_at i b.b (k:=k) (s:=s) (by rw[hps] at hs;exact hs)
     have htk:(prtB i b.b).take (k+1)=(prtB i b.b).take k++[⟨dot b.b.name s,i,k<b.b.ins.length,-1⟩]:=by rw[List.take_add_one,hp];rfl
     (try (conv=>whnf));repeat' (first|refine Ok.seq ?_|((first|refine Ok.region tok ?_|refine Ok.region_plan (id:=10) tok follows [(2,16,[15,8,3]),(7,16,[15,8]),(12,16,[15,14,13]),(2,17,[16,15,8,3]),(7,17,[16,15,8]),(12,17,[16,15,14,13]),(16,17,[])] [.q 0,.q 1,.q 2,.q 3,.q 4,.q 5,.q 6,.q 7,.q 8,.q 9,.q 10,.q 11,.q 12,.q 13,.q 14,.q 15,.l 16,.l 17,.q 18] (by kernel_rfl) ?_|refine Ok.cond ?_);conv=>whnf)|refine Ok.block ?_|((first|refine Ok.skip ?_|refine nI ?_|refine Alt2.l (aI ?_)|refine rd rfl (by assumption) ?_|refine⟨_,.inl ⟨rfl,rfl⟩,?_⟩|refine⟨_,_,rfl,rfl,?_⟩);conv=>whnf)|(refine bI ?_ ?_<;>intro<;>(conv=>whnf)<;>(try (exfalso;omega)))|(refine aJ ?_;conv=>whnf)|fail)
     refine⟨k+1,by omega,by omega,?_⟩
     rw[htk]
     (conv=>whnf);simp[envCat,Prt.row,dot]
     exact⟨by omega,⟨rfl,rfl⟩,rfl,Iff.rfl⟩
   . obtain rfl:k=ps.length:=by omega
     (try (conv=>whnf));repeat' (first|refine Ok.seq ?_|((first|refine Ok.region tok ?_|refine Ok.cond ?_|refine Ok.exit ?_|refine nI ?_);conv=>whnf)|(refine bI ?_ ?_<;>intro<;>(conv=>whnf)<;>(try (exfalso;omega)))|fail)
     refine⟨i+1,by omega,by omega,?_⟩
     rw[hadd]
     (conv=>whnf);simp[envCat]
     exact⟨hPl.symm,List.take_of_length_le (by simp;omega)⟩
 . obtain rfl:i=c.boxes.l.length:=by omega
   have hta:c.b.boxes.take c.boxes.l.length=c.b.boxes:=List.take_of_length_le (by omega)
   rw[hta] at hfm ⊢
   (try (conv=>whnf));repeat' (first|refine Ok.seq ?_|((first|refine Ok.region tok ?_|refine Ok.cond ?_|refine Ok.exit ?_|refine Ok.ret ?_);conv=>whnf)|(refine bI ?_ ?_<;>intro<;>(conv=>whnf)<;>(try (exfalso;omega)))|fail)
   refine Or.inr (Or.inl ?_);(conv=>whnf)
   exact⟨rfl,by simp[oneD]⟩
end Go.Proofs.YtcglkonooeddfaaGreatDoor
namespace Go.Proofs.YtcglkonooeddfaaGreatDoor
open Go Go.Vx
set_option maxHeartbeats 4000000 in
theorem rnumber_at(l:List Prt)(s:Str){rl r:List (List D)}(h:rl=l.map Prt.row):FSpec Tryz.prog T 80 [.lst 89 rl r,.s s] (fun d _=>d = .i .i64 (plc (l.map Prt.name) s)):=by
 subst h
 refine FSpec.of_len Tryz.call80 0 rfl fun hlen=>?_
 have h1:(l.map Prt.row).length=l.length:=by simp
 refine FSpec.of_ok tok Tryz.func80 rfl Tryz.call80 (by simp) ?_
 (try (conv=>whnf));repeat' (first|refine Ok.seq ?_|(refine Ok.region tok ?_;conv=>whnf)|refine Ok.block ?_|fail)
 refine Ok.loopU [0,1] [5] 0 0 (fun (i:Nat)=>[.i .i64 (i:Nat)]) (fun _ b=>b) (fun _ r=>r) (fun (i:Nat)=>i<=l.length/\plc (l.map Prt.name) s=plcF s ((l.map Prt.name).drop i) i) (fun (i:Nat)=>l.length - i) (0) (⟨Nat.zero_le _,rfl⟩) ?_;(conv=>whnf);refine⟨by ((conv=>whnf);first|rfl|(simp[envCat, List.take_of_length_le, SI.row, Node.row, Pfx.row, Link.row, srow, Line.row, Rule.row, Box.row, Slc.row, Config.row, Prt.row];done)|(simp[envCat, List.take_of_length_le, SI.row, Node.row, Pfx.row, Link.row, srow, Line.row, Rule.row, Box.row, Slc.row, Config.row, Prt.row];rw[IntKind.wrap_i64];omega)),?_⟩
 rintro i ⟨hi,hf⟩
 (conv=>whnf)
 by_cases hil:i<l.length
 . obtain⟨c,hc⟩:∃ c,l[i]? = some c:=⟨_,List.getElem?_eq_getElem hil⟩
   have hcI:(l.map Prt.row)[((i:Nat):Int).toNat]? = some c.row:=by show (l.map Prt.row)[i]? = _;rw[List.getElem?_map,hc];rfl
   rw[fdrop_at (x:=c.name) (by rw[List.getElem?_map,hc];rfl)] at hf
   (try (conv=>whnf));repeat' (first|refine Ok.seq ?_|((first|refine Ok.region tok ?_|refine Ok.cond ?_);conv=>whnf)|refine Ok.block ?_|((first|refine Ok.skip ?_|refine Ok.ret ?_|refine nI ?_|refine ix _ (by assumption) ?_);conv=>whnf)|(refine bI ?_ ?_<;>intro<;>(conv=>whnf)<;>(try (exfalso;omega)))|fail)
   all_goals first
    | (exfalso;omega)
    | (rename_i h
       refine Or.inl ?_;(conv=>whnf)
       rw[hf]
       unfold plcF
       rw[if_pos h]
       rfl)
    | (rename_i h
       refine⟨i+1,by omega,⟨by omega,?_⟩,?_⟩
       . rw[hf]
         conv=>lhs;unfold plcF
         rw[if_neg h]
       . (conv=>whnf)
         rfl)
 . have hie:i=l.length:=by omega
   subst hie
   rw[List.drop_eq_nil_of_le (by simp)] at hf
   (try (conv=>whnf));repeat' (first|refine Ok.seq ?_|((first|refine Ok.region tok ?_|refine Ok.cond ?_|refine Ok.exit ?_|refine Ok.ret ?_);conv=>whnf)|(refine bI ?_ ?_<;>intro<;>(conv=>whnf)<;>(try (exfalso;omega)))|fail)
   all_goals first
    | (exfalso;omega)
    | (refine Or.inl ?_;(conv=>whnf)
       rw[hf]
       rfl)
end Go.Proofs.YtcglkonooeddfaaGreatDoor
namespace Go.Proofs.YtcglkonooeddfaaGreatDoor
open Go Go.Vx
theorem plcsN_eq:∀ (n:Nat) (bs:List BoxB),plcsN n bs=(prtsN n bs).map fun x=>(x.box,x.inn)
 | n,[]=>rfl
 | n,b :: bs=>by
  rw[plcsN_cons,prtsN,List.map_append,<- plcsN_eq (n+1) bs]
  simp[prtB,Function.comp_def]
theorem plcs_eq(bs:List BoxB):plcs bs=(prtsN 0 bs).map fun x=>(x.box,x.inn):=plcsN_eq 0 bs
theorem link_known{c:ConfigB}(h:(linkO c).1=0){x:Link}(hx:x ∈ c.links):x.frm ∈ fullsL c.boxes/\x.dst ∈ fullsL c.boxes:=by
 obtain⟨k,hk⟩:=List.getElem?_of_mem hx
 have h1:=firstE_zero h k x hk
 refine⟨Classical.byContradiction fun hn=>?_,Classical.byContradiction fun hn=>?_⟩
 . have hI:x.frm ∉ fullIn c:=fun g=>hn (mem_fulls.2 (.inl g))
   have hU:x.frm ∉ fullOut c:=fun g=>hn (mem_fulls.2 (.inr g))
   have h2:sidesI [x.frm] (fullOut c) (fullIn c)=73:=by rw[sidesI_one,sideE_unk hU hI]
   rw[linkE_frm (by rw[h2];decide),h2] at h1
   cases h1
 . have hI:x.dst ∉ fullIn c:=fun g=>hn (mem_fulls.2 (.inl g))
   have hU:x.dst ∉ fullOut c:=fun g=>hn (mem_fulls.2 (.inr g))
   by_cases hf:sidesI [x.frm] (fullOut c) (fullIn c) ≠ 0
   . rw[linkE_frm hf] at h1
     exact hf h1
   . have h2:sidesI [x.dst] (fullIn c) (fullOut c)=73:=by rw[sidesI_one,sideE_unk hI hU]
     rw[linkE_to hf (by rw[h2];decide),h2] at h1
     cases h1
end Go.Proofs.YtcglkonooeddfaaGreatDoor
namespace Go.Proofs.YtcglkonooeddfaaGreatDoor
open Go Go.Vx
structure Eg where
 frm:Int
 dst:Int
 cost:Int
 out:Int
def Eg.row(e:Eg):List D:=[.i .i64 e.frm,.i .i64 e.dst,.i .i64 e.cost,.i .i64 e.out]
def boxAt(c:ConfigB)(k:Int):Int:=(((prtsN 0 c.boxes)[k.toNat]?).map fun p=>(p.box:Int)).getD 0
def egOf(c:ConfigB)(x:Link):Eg:=⟨boxAt c (plc (fullsL c.boxes) x.frm),boxAt c (plc (fullsL c.boxes) x.dst),x.cost,plc (fullsL c.boxes) x.frm⟩
def lkAt(c:ConfigB)(l:List Link)(k:Int):List Link:=l.filter fun x=>decide (plc (fullsL c.boxes) x.frm=k)
def egAt(c:ConfigB)(l:List Link)(k:Int):List Eg:=(lkAt c l k).map (egOf c)
def egsL(c:ConfigB)(n:Nat):List Eg:=(List.range n).flatMap fun i:Nat=>egAt c c.links (i:Int)
def egsF(c:ConfigB):List Eg:=egsL c (fullsL c.boxes).length
def egLast(c:ConfigB)(l:List Link)(k:Int):Option Eg:=((lkAt c l k).getLast?).map (egOf c)
theorem egsL_succ(c:ConfigB)(n:Nat):egsL c (n+1)=egsL c n++egAt c c.links n:=by simp[egsL,List.range_succ]
theorem lkAt_succ{c:ConfigB}{l:List Link}{i:Nat}{x:Link}(h:l[i]? = some x)(k:Int):lkAt c (l.take (i+1)) k=lkAt c (l.take i) k++if plc (fullsL c.boxes) x.frm=k then [x] else []:=by
 unfold lkAt
 rw[List.take_add_one,h,List.filter_append]
 congr 1
 by_cases hk:plc (fullsL c.boxes) x.frm=k<;>simp[hk]
theorem egAt_succ{c:ConfigB}{l:List Link}{i:Nat}{x:Link}(h:l[i]? = some x)(k:Int):egAt c (l.take (i+1)) k=egAt c (l.take i) k++if plc (fullsL c.boxes) x.frm=k then [egOf c x] else []:=by
 unfold egAt
 rw[lkAt_succ h,List.map_append]
 split<;>rfl
theorem egAt_nil(c:ConfigB)(k:Int):egAt c [] k=[]:=rfl
theorem egLast_succ{c:ConfigB}{l:List Link}{i:Nat}{x:Link}(h:l[i]? = some x)(k:Int):egLast c (l.take (i+1)) k=if k=plc (fullsL c.boxes) x.frm then some (egOf c x) else egLast c (l.take i) k:=by
 unfold egLast
 rw[lkAt_succ h]
 by_cases hk:plc (fullsL c.boxes) x.frm=k
 . rw[if_pos hk,if_pos hk.symm]
   simp
 . rw[if_neg hk,if_neg (fun e=>hk e.symm),List.append_nil]
theorem egAt_len(c:ConfigB)(l:List Link)(k:Int):(egAt c l k).length<=l.length:=by
 unfold egAt lkAt
 rw[List.length_map]
 exact List.length_filter_le _ _
theorem egsL_len{c:ConfigB}(h:c.links.length<=48):∀ n:Nat,(egsL c n).length<=n*48
 | 0=>by simp[egsL]
 | n+1=>by
  rw[egsL_succ,List.length_append]
  have h1:=egAt_len c c.links n
  have h2:=egsL_len h n
  omega
theorem link_frm{c:ConfigB}(h:(linkO c).1=0){k:Nat}{x:Link}(hx:c.links[k]? = some x):¬ ∃ y ∈ c.links.take k,y.frm=x.frm:=by
 have h1:=firstE_zero h k x hx
 intro hy
 by_cases e1:sidesI [x.frm] (fullOut c) (fullIn c) ≠ 0
 . rw[linkE_frm e1] at h1;exact e1 h1
 by_cases e2:sidesI [x.dst] (fullIn c) (fullOut c) ≠ 0
 . rw[linkE_to e1 e2] at h1;exact e2 h1
 by_cases e3:x.cost<1\/9999<x.cost
 . rw[linkE_cost e1 e2 e3] at h1;cases h1
 . rw[linkE_dbl e1 e2 e3 hy] at h1;cases h1
theorem link_pair{c:ConfigB}(h:(linkO c).1=0):c.links.Pairwise fun x y=>plc (fullsL c.boxes) x.frm ≠ plc (fullsL c.boxes) y.frm:=by
 rw[List.pairwise_iff_getElem]
 intro i j hi hj hij he
 have hx:c.links[i]? = some c.links[i]:=List.getElem?_eq_getElem hi
 have hy:c.links[j]? = some c.links[j]:=List.getElem?_eq_getElem hj
 refine link_frm h hy ⟨c.links[i],?_,?_⟩
 . refine List.mem_of_getElem? (i:=i) ?_
   rw[List.getElem?_take_of_lt hij,hx]
 . obtain⟨_,h1⟩:=plc_at (link_known h (List.mem_of_getElem? hx)).1
   obtain⟨_,h2⟩:=plc_at (link_known h (List.mem_of_getElem? hy)).1
   rw[he,h2] at h1
   exact (Option.some.inj h1).symm
theorem egAt_last{c:ConfigB}(h:(linkO c).1=0)(k:Int):egAt c c.links k=(egLast c c.links k).toList:=by
 unfold egAt egLast
 have h1:(lkAt c c.links k).Pairwise fun x y=>plc (fullsL c.boxes) x.frm ≠ plc (fullsL c.boxes) y.frm:=(link_pair h).filter _
 have h2:∀ x ∈ lkAt c c.links k,plc (fullsL c.boxes) x.frm=k:=fun x hx=>by simpa using (List.mem_filter.1 hx).2
 generalize lkAt c c.links k=l at h1 h2
 match l with
 | []=>rfl
 | [x]=>rfl
 | x :: y :: l=>exact absurd ((h2 x (by simp)).trans (h2 y (by simp)).symm) ((List.pairwise_cons.1 h1).1 y (by simp))
end Go.Proofs.YtcglkonooeddfaaGreatDoor
namespace Go.Proofs.YtcglkonooeddfaaGreatDoor
open Go Go.Vx
def fE(o:Option Eg):D:=.agg (o.getD ⟨0,0,0,0⟩).row
theorem mtIE:MTy Tryz.prog 161 (D.i .i64) fE:=by
 refine⟨⟨3,97,Tryz.underlying161,keyI Tryz.underlying3,fun w=>?_⟩,fun o=>rfl⟩
 kernel_rfl
theorem boxAt_of{c:ConfigB}{s:Str}(hs:s ∈ fullsL c.boxes):∃ p:Prt,(prtsN 0 c.boxes)[(plc (fullsL c.boxes) s).toNat]? = some p/\boxAt c (plc (fullsL c.boxes) s)=(p.box:Int):=by
 have h2:=plc_lt (fullsL c.boxes) s
 have h1:=(plc_at hs).1
 have hl:(prtsN 0 c.boxes).length=(fullsL c.boxes).length:=by rw[<- prtsN_names 0,List.length_map]
 have hk:(plc (fullsL c.boxes) s).toNat<(prtsN 0 c.boxes).length:=by omega
 refine⟨_,List.getElem?_eq_getElem hk,?_⟩
 unfold boxAt
 rw[List.getElem?_eq_getElem hk]
 rfl
set_option maxRecDepth 100000 in
set_option maxHeartbeats 16000000 in
theorem medges_ok(c:Config)(hc:c.Ok)(ht:c.Tx)(h0:(checkO c.b).1=0) :
    FSpecH Tryz.prog T [] 41 [.agg c.row] (fun d rows M=>(d = .tup [.own 0 (egsF c.b).length,.i .i64 0]/\rows=[some (97,(egsF c.b).map Eg.row)])/\M=[]):=by
 have hck:=mcheck_at word_ok itoa_ok c hc ht
 rw[h0] at hck
 obtain⟨_,h1,h2,_,h4,_⟩:=check_parts h0
 have hpn:(fullsL c.b.boxes).length<=48:=by rw[fullsL_len];exact (count_ok h1).2.1
 have hlk:=(count_ok h1).2.2.1
 have hnum:=numbered_at c hc (tx_names ht) (by omega)
 have hpr:((plcs c.b.boxes).map plRow).length=(plcs c.b.boxes).length:=by simp
 have hll:(c.links.l.map Link.row).length=c.links.l.length:=by simp
 have hL:=hc.links
 have hpl:(plcs c.b.boxes).length=(fullsL c.b.boxes).length:=by rw[plcs_eq,List.length_map,<- prtsN_names 0,List.length_map]
 refine FSpecH.of_ok0 tok Tryz.func41 rfl Tryz.call41 (by simp) ?_
 (try (conv=>whnf));repeat' (first|(refine⟨_,_,_,_,_,mtIE,fun _ _=>?_⟩;conv=>whnf)|(refine Or.inr (Or.inl ?_);(conv=>whnf);(repeat (refine aI ?_;conv=>whnf));refine⟨_,hnum , ?_⟩;rintro _ _ _ ⟨gn,lst,cn,rfl,rfl,rfl,hnm,hwf,hky⟩<;>(conv=>whnf))|refine OkM.seq ?_|((first|refine OkM.region tok ?_|refine OkM.cond ?_);conv=>whnf)|refine OkM.block ?_|(refine OkM.skip ?_;conv=>whnf)|(refine Or.inl ?_;(conv=>whnf);refine Or.inl ?_;(conv=>whnf);(repeat (refine aI ?_;conv=>whnf));refine⟨_,hck,rfl,?_⟩;conv=>whnf)|(refine bI ?_ ?_<;>intro<;>(conv=>whnf)<;>(try (exfalso;omega)))|fail)
 rename_i gb hgb
 have hN:NumOk c.b lst:=⟨fulls_nodup h2,hnm,hky⟩
 have hat:∀ s,s ∈ fullsL c.b.boxes->∃ p:Prt,((plcs c.b.boxes).map plRow)[((lk lst s).getD 0).toNat]? = some (plRow (p.box,p.inn))/\boxAt c.b (plc (fullsL c.b.boxes) s)=(p.box:Int)/\(lk lst s).getD 0=plc (fullsL c.b.boxes) s/\0<=(lk lst s).getD 0/\(lk lst s).getD 0<((plcs c.b.boxes).length:Nat):=by
  intro s hs
  obtain⟨_,_,e1,_⟩:=hN.some hs
  obtain⟨p,hp,hb⟩:=boxAt_of hs
  obtain⟨g0,_⟩:=plc_at hs
  have g2:=plc_lt (fullsL c.b.boxes) s
  rw[e1]
  simp only[Option.getD_some]
  refine⟨p,?_,hb,trivial,g0,by omega⟩
  rw[plcs_eq,List.map_map,List.getElem?_map,hp]
  rfl
 refine OkM.loopU [6,7,8,32,33] [34] 1 1 (fun (x:Nat × List (Int × Eg × Nat) × Nat)=>[.i .i64 (x.1:Nat)]) (fun (x:Nat × List (Int × Eg × Nat) × Nat) (_:List (List D))=>[c.row]) (fun (x:Nat × List (Int × Eg × Nat) × Nat) (_:Vx.Rows)=>[some (160,(plcs c.b.boxes).map plRow)]) (fun (x:Nat × List (Int × Eg × Nat) × Nat)=>[(gb,mObj (D.i .i64) fE x.2.1 x.2.2),(gn,mObj D.s fI lst cn)]) (fun (x:Nat × List (Int × Eg × Nat) × Nat)=>x.1<=c.links.l.length/\∀ k,lk x.2.1 k=egLast c.b (c.b.links.take x.1) k) (fun (x:Nat × List (Int × Eg × Nat) × Nat)=>c.links.l.length - x.1) ((0,[],0)) (⟨Nat.zero_le _,fun k=>rfl⟩) (by first|exact .refl _|exact .cons _ (.refl _)|exact List.nil_sublist _) ?_;(conv=>whnf);refine⟨by ((conv=>whnf);first|rfl|(simp[envCat, List.take_of_length_le, SI.row, Node.row, Pfx.row, Link.row, srow, Line.row, Rule.row, Box.row, Slc.row, Config.row, plRow, Eg.row];done)|(simp[envCat, List.take_of_length_le, SI.row, Node.row, Pfx.row, Link.row, srow, Line.row, Rule.row, Box.row, Slc.row, Config.row, plRow, Eg.row];rw[IntKind.wrap_i64];omega)),?_⟩
 rintro⟨n,lb,cb⟩ ⟨hn,hlb⟩
 dsimp only at hn hlb ⊢
 (conv=>whnf)
 by_cases hlt:n<c.links.l.length
 . obtain⟨x,hx⟩:∃ x,c.links.l[n]? = some x:=⟨_,List.getElem?_eq_getElem hlt⟩
   have hxI:c.links.l[((n:Nat):Int).toNat]? = some x:=hx
   have hxr:(c.links.l.map Link.row)[((n:Nat):Int).toNat]? = some x.row:=by rw[List.getElem?_map,hxI];rfl
   obtain⟨hxf,hxt⟩:=link_known h4 (List.mem_of_getElem? hx)
   obtain⟨p,f1,f2,f3,f4,f5⟩:=hat x.frm hxf
   obtain⟨q,t1,t2,t3,t4,t5⟩:=hat x.dst hxt
   have heg:D.agg [.i .i64 (p.box:Nat),.i .i64 (q.box:Nat),.i .i64 x.cost,.i .i64 ((lk lst x.frm).getD 0)]=fE (some (egOf c.b x)):=by
    unfold fE egOf Eg.row
    simp only[Option.getD_some,f2,f3,t2]
   (try (conv=>whnf));repeat' (first|((first|refine⟨_,_,_,_,_,_,_,0,_,egOf c.b x,mtIE,rfl,rfl,heg,?_⟩|refine⟨_,_,_,_,_,_,_,_,mtSI,(by first|exact .head _|exact .tail _ (.head _)|exact .tail _ (.tail _ (.head _))|exact .tail _ (.tail _ (.tail _ (.head _)))|exact List.mem_append_left _ (by assumption)),rfl,?_⟩);conv=>whnf)|refine OkM.seq ?_|((first|refine OkM.region tok ?_|refine OkM.region_tree (id:=9) tok follows [(2,3,[]),(6,7,[])] (.q 0 (.q 1 (.q 2 (.q 4 (.q 5 (.q 6 (.alt 3 (.q 8 (.l 7 (.q 9 .nil))) (.alt 7 (.l 3 (.q 8 (.q 9 .nil))) .nil)))))))) (by kernel_rfl) ?_|refine OkM.region_tree (id:=10) tok follows [(6,16,[]),(11,16,[]),(13,16,[])] (.q 0 (.q 1 (.q 2 (.q 3 (.q 4 (.q 5 (.q 6 (.q 7 (.q 8 (.q 9 (.q 10 (.q 11 (.q 12 (.q 13 (.q 14 (.q 15 (.l 16 .nil))))))))))))))))) (by kernel_rfl) ?_|refine OkM.cond ?_);conv=>whnf)|refine OkM.block ?_|((first|refine OkM.skip ?_|refine nI ?_|refine ix _ (by assumption) ?_|refine⟨_,by assumption,?_⟩);conv=>whnf)|(refine bI ?_ ?_<;>intro<;>(conv=>whnf)<;>(try (exfalso;omega)))|(refine aJ ?_;conv=>whnf)|(exact True.intro)|(refine And.intro ?_ ?_<;>(conv=>whnf))|fail)
   all_goals
    refine⟨(n+1,(mput lb cb ((lk lst x.frm).getD 0) (egOf c.b x)).1,(mput lb cb ((lk lst x.frm).getD 0) (egOf c.b x)).2),by dsimp only;omega,⟨by dsimp only;omega,fun k=>?_⟩,List.Sublist.refl _,?_⟩
    . dsimp only
      rw[mput_lk,egLast_succ (l:=c.b.links) (x:=x) hx k,hlb,f3]
    . (conv=>whnf)
      rfl
 . obtain rfl:n=c.links.l.length:=by omega
   have htl:c.b.links.take c.links.l.length=c.b.links:=List.take_of_length_le (Nat.le_refl _)
   rw[htl] at hlb
   (try (conv=>whnf));repeat' (first|refine OkM.seq ?_|((first|refine OkM.region tok ?_|refine OkM.cond ?_);conv=>whnf)|refine OkM.block ?_|(refine OkM.exit ?_;conv=>whnf)|(refine bI ?_ ?_<;>intro<;>(conv=>whnf)<;>(try (exfalso;omega)))|fail)
   refine OkM.ghost 13 97 rfl ?_
   (conv=>whnf)
   have hel:∀ k:Nat,k<=(plcs c.b.boxes).length->(egsL c.b k).length<=2304:=fun k hk=>by have:=egsL_len (c:=c.b) hlk k;omega
   refine OkM.loopU [8,64] [13,65] 2 1 (fun (k:Nat)=>[.own 1 (egsL c.b k).length,.i .i64 (k:Nat)]) (fun (k:Nat) (_:List (List D))=>[c.row]) (fun (k:Nat) (_:Vx.Rows)=>[some (160,(plcs c.b.boxes).map plRow),some (97,(egsL c.b k).map Eg.row)]) (fun (k:Nat)=>[(gb,mObj (D.i .i64) fE lb cb),(gn,mObj D.s fI lst cn)]) (fun (k:Nat)=>k<=(plcs c.b.boxes).length) (fun (k:Nat)=>(plcs c.b.boxes).length - k) (0) (Nat.zero_le _) (by first|exact .refl _|exact .cons _ (.refl _)|exact List.nil_sublist _) ?_;(conv=>whnf);refine⟨by ((conv=>whnf);first|rfl|(simp[envCat, List.take_of_length_le, SI.row, Node.row, Pfx.row, Link.row, srow, Line.row, Rule.row, Box.row, Slc.row, Config.row, plRow, Eg.row];done)|(simp[envCat, List.take_of_length_le, SI.row, Node.row, Pfx.row, Link.row, srow, Line.row, Rule.row, Box.row, Slc.row, Config.row, plRow, Eg.row];rw[IntKind.wrap_i64];omega)),?_⟩
   rintro k hk
   (conv=>whnf)
   have hem:((egsL c.b k).map Eg.row).length=(egsL c.b k).length:=by simp
   have hek:=hel k hk
   by_cases hkl:k<(plcs c.b.boxes).length
   . have hlbk:=hlb k
     cases he:egLast c.b c.b.links k with
     | none=>
      rw[he] at hlbk
      have hes:egsL c.b (k+1)=egsL c.b k:=by rw[egsL_succ,egAt_last h4,he];simp
      (try (conv=>whnf));repeat' (first|(refine⟨_,_,_,_,_,_,_,_,mtIE,(by first|exact .head _|exact .tail _ (.head _)|exact .tail _ (.tail _ (.head _))|exact .tail _ (.tail _ (.tail _ (.head _)))|exact List.mem_append_left _ (by assumption)),rfl,?_⟩;conv=>whnf)|refine OkM.seq ?_|((first|refine OkM.region tok ?_|refine OkM.cond ?_);conv=>whnf)|refine OkM.block ?_|((first|refine OkM.skip ?_|refine nI ?_|refine Alt2.l (aI ?_)|refine⟨_,.inl ⟨rfl,rfl⟩,?_⟩|refine⟨_,_,rfl,rfl,?_⟩);conv=>whnf)|(refine bI ?_ ?_<;>intro<;>(conv=>whnf)<;>(try (exfalso;omega)))|(refine aJ ?_;conv=>whnf)|fail)
      all_goals first
       | (exfalso;rename_i hx;rw[hlbk] at hx;cases hx;done)
       | (refine⟨k+1,by omega,by omega,List.Sublist.refl _,?_⟩
          rw[hes]
          (conv=>whnf)
          rfl)
     | some e=>
      rw[he] at hlbk
      have hes:egsL c.b (k+1)=egsL c.b k++[e]:=by rw[egsL_succ,egAt_last h4,he];simp
      (try (conv=>whnf));repeat' (first|(refine⟨_,_,_,_,_,_,_,_,mtIE,(by first|exact .head _|exact .tail _ (.head _)|exact .tail _ (.tail _ (.head _))|exact .tail _ (.tail _ (.tail _ (.head _)))|exact List.mem_append_left _ (by assumption)),rfl,?_⟩;conv=>whnf)|refine OkM.seq ?_|((first|refine OkM.region tok ?_|refine OkM.cond ?_);conv=>whnf)|refine OkM.block ?_|((first|refine OkM.skip ?_|refine nI ?_|refine Alt2.l (aI ?_)|refine⟨_,.inl ⟨rfl,rfl⟩,?_⟩|refine⟨_,_,rfl,rfl,?_⟩);conv=>whnf)|(refine bI ?_ ?_<;>intro<;>(conv=>whnf)<;>(try (exfalso;omega)))|(refine aJ ?_;conv=>whnf)|fail)
      all_goals first
       | (exfalso;rename_i hx;exact hx (by rw[hlbk];rfl))
       | (refine⟨k+1,by omega,by omega,List.Sublist.refl _,?_⟩
          rw[hes,hlbk]
          (conv=>whnf);(first|rfl|simp[envCat, List.take_of_length_le, SI.row, Node.row, Pfx.row, Link.row, srow, Line.row, Rule.row, Box.row, Slc.row, Config.row, plRow, Eg.row])
          done)
   . obtain rfl:k=(plcs c.b.boxes).length:=by omega
     (try (conv=>whnf));repeat' (first|refine OkM.seq ?_|((first|refine OkM.region tok ?_|refine OkM.cond ?_|refine OkM.exit ?_|refine OkM.ret ?_);conv=>whnf)|(refine bI ?_ ?_<;>intro<;>(conv=>whnf)<;>(try (exfalso;omega)))|fail)
     refine Or.inr (Or.inl ?_);(conv=>whnf)
     refine⟨?_,?_⟩<;>(rw[hpl];rfl)
theorem medges_bad(c:Config)(hc:c.Ok)(ht:c.Tx)(h0:(checkO c.b).1 ≠ 0) :
    FSpec Tryz.prog T 41 [.agg c.row] (fun d rows=>d = .tup [.lst 97 [] [],.i .i64 (checkO c.b).1]/\rows=[]):=by
 have hck:=mcheck_at word_ok itoa_ok c hc ht
 refine FSpec.of_ok tok Tryz.func41 rfl Tryz.call41 (by simp) ?_
 (try (conv=>whnf));repeat' (first|refine Ok.seq ?_|((first|refine Ok.region tok ?_|refine Ok.cond ?_|refine Ok.ret ?_);conv=>whnf)|(refine Or.inl ?_;(conv=>whnf);(repeat (refine aI ?_;conv=>whnf));refine⟨_,hck,rfl,?_⟩;conv=>whnf)|(refine bI ?_ ?_<;>intro<;>(conv=>whnf)<;>(try (exfalso;omega)))|fail)
 all_goals first
  | (exact absurd h0 (by assumption))
  | (refine Or.inl ?_;(conv=>whnf)
     exact⟨rfl,rfl⟩)
end Go.Proofs.YtcglkonooeddfaaGreatDoor
namespace Go.Proofs.YtcglkonooeddfaaGreatDoor
open Go Go.Vx
set_option maxRecDepth 100000 in
set_option maxHeartbeats 16000000 in
theorem redges_ok(c:Config)(hc:c.Ok)(ht:c.Tx)(h0:(checkO c.b).1=0) :
    FSpec Tryz.prog T 40 [.agg c.row] (fun d rows=>d = .tup [.own 0 (egsF c.b).length,.i .i64 0]/\rows=[some (97,(egsF c.b).map Eg.row)]):=by
 have hck:=rCheck_at c hc ht
 rw[h0] at hck
 obtain⟨_,h1,h2,_,h4,_⟩:=check_parts h0
 have hpn:nPorts c.b.boxes<=48:=(count_ok h1).2.1
 have hlk:=(count_ok h1).2.2.1
 have hlk2:c.links.l.length<=48:=hlk
 have hnum:=rnumbered_at c hc (tx_names ht) (by omega)
 have hll:(c.links.l.map Link.row).length=c.links.l.length:=by simp
 have hL:=hc.links
 have hnd:=fulls_nodup h2
 obtain⟨P,hP⟩:∃ P,P=prtsN 0 c.b.boxes:=⟨_,rfl⟩
 have hPn:P.map Prt.name=fullsL c.b.boxes:=by rw[hP,prtsN_names]
 have hPl:P.length=(fullsL c.b.boxes).length:=by rw[<- hPn,List.length_map]
 have hPm:(P.map Prt.row).length=P.length:=by simp
 have hfl:=fullsL_len c.b.boxes
 rw[<- hP] at hnum
 refine FSpec.of_ok tok Tryz.func40 rfl Tryz.call40 (by simp) ?_
 (try (conv=>whnf));repeat' (first|refine Ok.seq ?_|((first|refine Ok.region tok ?_|refine Ok.cond ?_);conv=>whnf)|refine Ok.block ?_|(refine Ok.skip ?_;conv=>whnf)|(refine Or.inl ?_;(conv=>whnf);(repeat (refine aI ?_;conv=>whnf));refine⟨_,hck,rfl,?_⟩;conv=>whnf)|(refine Or.inr (Or.inr (Or.inr (Or.inl ?_)));(conv=>whnf);(repeat (refine aI ?_;conv=>whnf));refine⟨_,hnum,?_⟩;rintro _ _ ⟨rfl,rfl⟩<;>(refine And.intro (by simp[gRowsP, grounds, D.ground, SI.row, Node.row, Pfx.row, Link.row, srow, Line.row, Rule.row, Box.row, Slc.row, Config.row, plRow, Prt.row, Eg.row, egAt_nil]) ?_;conv=>whnf))|(refine bI ?_ ?_<;>intro<;>(conv=>whnf)<;>(try (exfalso;omega)))|fail)
 refine Ok.ghost 7 97 rfl ?_
 (conv=>whnf)
 have hta:(P.map Prt.row).take P.length=P.map Prt.row:=List.take_of_length_le (by omega)
 refine Ok.loopU [1,6] [7,8] 2 1 (fun (i:Nat)=>[.own 1 (egsL c.b i).length,.i .i64 (i:Nat)]) (fun (i:Nat) (_:List (List D))=>[c.row]) (fun (i:Nat) (_:Vx.Rows)=>[some (89,P.map Prt.row),some (97,(egsL c.b i).map Eg.row)]) (fun (i:Nat)=>i<=P.length) (fun (i:Nat)=>P.length - i) (0) (Nat.zero_le _) ?_;(conv=>whnf);refine⟨by ((conv=>whnf);first|rfl|(simp[envCat, List.take_of_length_le, SI.row, Node.row, Pfx.row, Link.row, srow, Line.row, Rule.row, Box.row, Slc.row, Config.row, plRow, Prt.row, Eg.row, egAt_nil];done)|(simp[envCat, List.take_of_length_le, SI.row, Node.row, Pfx.row, Link.row, srow, Line.row, Rule.row, Box.row, Slc.row, Config.row, plRow, Prt.row, Eg.row, egAt_nil];rw[IntKind.wrap_i64];omega)),?_⟩
 rintro i hi
 (conv=>whnf)
 have hei:=egsL_len (c:=c.b) hlk i
 by_cases hil:i<P.length
 . obtain⟨p,hp⟩:∃ p,P[i]? = some p:=⟨_,List.getElem?_eq_getElem hil⟩
   have hpr:(P.map Prt.row)[((i:Nat):Int).toNat]? = some p.row:=by show (P.map Prt.row)[i]? = _;rw[List.getElem?_map,hp];rfl
   have hpf:(fullsL c.b.boxes)[i]? = some p.name:=by rw[<- hPn,List.getElem?_map,hp];rfl
   have hpb:boxAt c.b i=(p.box:Int):=by
    unfold boxAt
    rw[<- hP,Int.toNat_natCast,hp]
    rfl
   (try (conv=>whnf));repeat' (first|refine Ok.seq ?_|((first|refine Ok.region tok ?_|refine Ok.cond ?_);conv=>whnf)|refine Ok.block ?_|(refine Ok.skip ?_;conv=>whnf)|(refine bI ?_ ?_<;>intro<;>(conv=>whnf)<;>(try (exfalso;omega)))|fail)
   refine Ok.loopU [1,6,8] [7,9] 2 1 (fun (k:Nat)=>[.own 1 (egsL c.b i++egAt c.b (c.b.links.take k) i).length,.i .i64 (k:Nat)]) (fun (k:Nat) (_:List (List D))=>[c.row]) (fun (k:Nat) (_:Vx.Rows)=>[some (89,P.map Prt.row),some (97,(egsL c.b i++egAt c.b (c.b.links.take k) i).map Eg.row)]) (fun (k:Nat)=>k<=c.links.l.length) (fun (k:Nat)=>c.links.l.length - k) (0) (Nat.zero_le _) ?_;(conv=>whnf);refine⟨by ((conv=>whnf);first|rfl|(simp[envCat, List.take_of_length_le, SI.row, Node.row, Pfx.row, Link.row, srow, Line.row, Rule.row, Box.row, Slc.row, Config.row, plRow, Prt.row, Eg.row, egAt_nil];done)|(simp[envCat, List.take_of_length_le, SI.row, Node.row, Pfx.row, Link.row, srow, Line.row, Rule.row, Box.row, Slc.row, Config.row, plRow, Prt.row, Eg.row, egAt_nil];rw[IntKind.wrap_i64];omega)),?_⟩
   rintro k hk
   (conv=>whnf)
   have hek:=egAt_len c.b (c.b.links.take k) i
   have htl:(c.b.links.take k).length<=c.links.l.length:=by rw[List.length_take];exact Nat.min_le_right _ _
   have hem:((egsL c.b i++egAt c.b (c.b.links.take k) i).map Eg.row).length=(egsL c.b i).length+(egAt c.b (c.b.links.take k) i).length:=by simp
   have hen:(egsL c.b i++egAt c.b (c.b.links.take k) i).length=(egsL c.b i).length+(egAt c.b (c.b.links.take k) i).length:=by simp
   by_cases hkl:k<c.links.l.length
   . obtain⟨x,hx⟩:∃ x,c.links.l[k]? = some x:=⟨_,List.getElem?_eq_getElem hkl⟩
     have hxI:c.links.l[((k:Nat):Int).toNat]? = some x:=hx
     have hxr:(c.links.l.map Link.row)[((k:Nat):Int).toNat]? = some x.row:=by rw[List.getElem?_map,hxI];rfl
     obtain⟨hxf,hxt⟩:=link_known h4 (List.mem_of_getElem? hx)
     obtain⟨q,t1,t2⟩:=boxAt_of hxt
     obtain⟨t3,_⟩:=plc_at hxt
     have t4:=plc_lt (fullsL c.b.boxes) x.dst
     rw[<- hP] at t1
     have hqr:(P.map Prt.row)[(plc (fullsL c.b.boxes) x.dst).toNat]? = some q.row:=by rw[List.getElem?_map,t1];rfl
     have hsu:=egAt_succ (c:=c.b) (l:=c.b.links) (x:=x) hx i
     have hiff:x.frm=p.name ↔ plc (fullsL c.b.boxes) x.frm=(i:Int):=by
      obtain⟨g1,g2⟩:=plc_at hxf
      constructor
      . intro e
        rw[e] at g1 g2 ⊢
        have:=nodup_idx hnd hpf g2
        omega
      . intro e
        rw[e,Int.toNat_natCast,hpf] at g2
        exact (Option.some.inj g2).symm
     have hn2:=(rnumber_at P x.dst hta (r:=(P.map Prt.row).drop P.length)).int0
     rw[hPn] at hn2
     by_cases he:x.frm=p.name
     . have hq:=hiff.1 he
       rw[if_pos hq] at hsu
       have hegx:egOf c.b x=⟨(p.box:Nat),(q.box:Nat),x.cost,(i:Nat)⟩:=by
        unfold egOf
        rw[hq,hpb,t2]
       (try (conv=>whnf));repeat' (first|refine Ok.seq ?_|((first|refine Ok.region tok ?_|refine Ok.region_plan (id:=14) tok follows [(5,19,[18]),(10,19,[18]),(12,19,[18,16,15,14]),(16,19,[18]),(5,20,[19,18]),(10,20,[19,18]),(12,20,[19,18,16,15,14]),(16,20,[19,18]),(19,20,[])] [.q 0,.q 1,.q 2,.q 3,.q 4,.q 5,.q 6,.q 7,.q 8,.q 9,.q 10,.q 11,.q 12,.q 13,.q 14,.q 15,.q 16,.q 17,.q 18,.l 19,.l 20,.q 21] (by kernel_rfl) ?_|refine Ok.region_draw tok follows (by kernel_rfl) ?_|refine Ok.cond ?_);conv=>whnf)|refine Ok.block ?_|((first|refine Ok.skip ?_|refine nI ?_|refine ix _ (by assumption) ?_);conv=>whnf)|(refine Or.inr (Or.inr (Or.inr (Or.inl ?_)));(conv=>whnf);(repeat (refine aI ?_;conv=>whnf));refine⟨_,hn2,?_⟩;rintro _ _ ⟨rfl,rfl⟩<;>(refine And.intro (by simp[gRowsP, grounds, D.ground, SI.row, Node.row, Pfx.row, Link.row, srow, Line.row, Rule.row, Box.row, Slc.row, Config.row, plRow, Prt.row, Eg.row, egAt_nil]) ?_;conv=>whnf))|((first|refine Alt2.l (aI ?_)|refine rd rfl (by assumption) ?_|refine⟨_,.inl ⟨rfl,rfl⟩,?_⟩|refine⟨_,_,rfl,rfl,?_⟩);conv=>whnf)|(refine bI ?_ ?_<;>intro<;>(conv=>whnf)<;>(try (exfalso;omega)))|(refine aJ ?_;conv=>whnf)|fail)
       all_goals first
        | exact absurd he (by assumption)
        | (refine⟨k+1,by omega,by omega,?_⟩
           rw[hsu,hegx]
           (conv=>whnf);(first|rfl|simp[envCat, List.take_of_length_le, SI.row, Node.row, Pfx.row, Link.row, srow, Line.row, Rule.row, Box.row, Slc.row, Config.row, plRow, Prt.row, Eg.row, egAt_nil])
           done)
     . rw[if_neg (fun h=>he (hiff.2 h)),List.append_nil] at hsu
       (try (conv=>whnf));repeat' (first|refine Ok.seq ?_|((first|refine Ok.region tok ?_|refine Ok.region_plan (id:=14) tok follows [(5,19,[18]),(10,19,[18]),(12,19,[18,16,15,14]),(16,19,[18]),(5,20,[19,18]),(10,20,[19,18]),(12,20,[19,18,16,15,14]),(16,20,[19,18]),(19,20,[])] [.q 0,.q 1,.q 2,.q 3,.q 4,.q 5,.q 6,.q 7,.q 8,.q 9,.q 10,.q 11,.q 12,.q 13,.q 14,.q 15,.q 16,.q 17,.q 18,.l 19,.l 20,.q 21] (by kernel_rfl) ?_|refine Ok.region_draw tok follows (by kernel_rfl) ?_|refine Ok.cond ?_);conv=>whnf)|refine Ok.block ?_|((first|refine Ok.skip ?_|refine nI ?_|refine ix _ (by assumption) ?_);conv=>whnf)|(refine Or.inr (Or.inr (Or.inr (Or.inl ?_)));(conv=>whnf);(repeat (refine aI ?_;conv=>whnf));refine⟨_,hn2,?_⟩;rintro _ _ ⟨rfl,rfl⟩<;>(refine And.intro (by simp[gRowsP, grounds, D.ground, SI.row, Node.row, Pfx.row, Link.row, srow, Line.row, Rule.row, Box.row, Slc.row, Config.row, plRow, Prt.row, Eg.row, egAt_nil]) ?_;conv=>whnf))|((first|refine Alt2.l (aI ?_)|refine rd rfl (by assumption) ?_|refine⟨_,.inl ⟨rfl,rfl⟩,?_⟩|refine⟨_,_,rfl,rfl,?_⟩);conv=>whnf)|(refine bI ?_ ?_<;>intro<;>(conv=>whnf)<;>(try (exfalso;omega)))|(refine aJ ?_;conv=>whnf)|fail)
       all_goals first
        | exact absurd (by assumption) he
        | (refine⟨k+1,by omega,by omega,?_⟩
           rw[hsu]
           (conv=>whnf)
           rfl)
   . obtain rfl:k=c.links.l.length:=by omega
     have htk:c.b.links.take c.links.l.length=c.b.links:=List.take_of_length_le (Nat.le_refl _)
     rw[htk,<- egsL_succ]
     (conv=>whnf)
     (try (conv=>whnf));repeat' (first|refine Ok.seq ?_|((first|refine Ok.region tok ?_|refine Ok.cond ?_|refine Ok.exit ?_|refine nI ?_);conv=>whnf)|(refine bI ?_ ?_<;>intro<;>(conv=>whnf)<;>(try (exfalso;omega)))|fail)
     refine⟨i+1,by omega,by omega,?_⟩
     (conv=>whnf)
     rfl
 . obtain rfl:i=P.length:=by omega
   (try (conv=>whnf));repeat' (first|refine Ok.seq ?_|((first|refine Ok.region tok ?_|refine Ok.cond ?_|refine Ok.exit ?_|refine Ok.ret ?_);conv=>whnf)|(refine bI ?_ ?_<;>intro<;>(conv=>whnf)<;>(try (exfalso;omega)))|fail)
   refine Or.inr (Or.inl ?_);(conv=>whnf)
   refine⟨?_,?_⟩<;>(rw[hPl];rfl)
theorem redges_bad(c:Config)(hc:c.Ok)(ht:c.Tx)(h0:(checkO c.b).1 ≠ 0) :
    FSpec Tryz.prog T 40 [.agg c.row] (fun d rows=>d = .tup [.lst 97 [] [],.i .i64 (checkO c.b).1]/\rows=[]):=by
 have hck:=rCheck_at c hc ht
 refine FSpec.of_ok tok Tryz.func40 rfl Tryz.call40 (by simp) ?_
 (try (conv=>whnf));repeat' (first|refine Ok.seq ?_|((first|refine Ok.region tok ?_|refine Ok.cond ?_|refine Ok.ret ?_);conv=>whnf)|(refine Or.inl ?_;(conv=>whnf);(repeat (refine aI ?_;conv=>whnf));refine⟨_,hck,rfl,?_⟩;conv=>whnf)|(refine bI ?_ ?_<;>intro<;>(conv=>whnf)<;>(try (exfalso;omega)))|fail)
 all_goals first
  | (exact absurd h0 (by assumption))
  | (refine Or.inl ?_;(conv=>whnf)
     exact⟨rfl,rfl⟩)
end Go.Proofs.YtcglkonooeddfaaGreatDoor
namespace Go.Proofs.YtcglkonooeddfaaGreatDoor
open Go Go.Vx
def shEdge:List Sh:=[.i .i64,.i .i64,.i .i64,.i .i64]
theorem eqEdge:EqT Tryz.prog 97 shEdge:=EqT.of_b tok (ti:=_) rfl rfl (by kernel_rfl)
theorem take_allE(l:List Eg):(l.map Eg.row).take l.length=l.map Eg.row:=List.take_of_length_le (by simp)
theorem eqRowE(r:Eg):eqDs r.row r.row:=by simp[Eg.row,eqDs,eqD]
set_option maxRecDepth 100000 in
theorem medges_same(l:List Eg){ra sa rb sb:List (List D)}(ha:ra=l.map Eg.row)(hb:rb=l.map Eg.row):FSpec Tryz.prog T 21 [.lst 97 ra sa,.lst 97 rb sb] (fun d _=>d = .tt):=by
 subst ha hb
 refine FSpec.tt (p:=True) ?_ trivial
 refine FSpec.of_len Tryz.call21 0 rfl fun hlen=>?_
 have hml:(l.map Eg.row).length=l.length:=by simp
 refine FSpec.of_ok tok Tryz.func21 rfl Tryz.call21 (by simp) ?_
 (try (conv=>whnf));repeat' (first|refine Ok.seq ?_|((first|refine Ok.region tok ?_|refine Ok.cond ?_);conv=>whnf)|refine Ok.block ?_|(refine Ok.skip ?_;conv=>whnf)|(refine bI ?_ ?_<;>intro<;>(conv=>whnf)<;>(try (exfalso;omega)))|fail)
 refine Ok.loopU [0,1] [5] 0 0 (fun (k:Nat)=>[.i .i64 (k:Nat)]) (fun _ b=>b) (fun _ r=>r) (fun (k:Nat)=>k<=l.length) (fun (k:Nat)=>l.length - k) (0) (Nat.zero_le _) ?_;(conv=>whnf);refine⟨by ((conv=>whnf);first|rfl|(simp[envCat, List.take_of_length_le, SI.row, Node.row, Pfx.row, Link.row, srow, Line.row, Rule.row, Box.row, Slc.row, Config.row, Eg.row];done)|(simp[envCat, List.take_of_length_le, SI.row, Node.row, Pfx.row, Link.row, srow, Line.row, Rule.row, Box.row, Slc.row, Config.row, Eg.row];rw[IntKind.wrap_i64];omega)),?_⟩
 rintro k hk
 (conv=>whnf)
 by_cases hkl:k<l.length
 . obtain⟨x,hx⟩:∃ x,l[k]? = some x:=⟨_,List.getElem?_eq_getElem hkl⟩
   have hxr:(l.map Eg.row)[((k:Nat):Int).toNat]? = some x.row:=by show (l.map Eg.row)[k]? = _;rw[List.getElem?_map,hx];rfl
   (try (conv=>whnf));repeat' (first|(refine⟨_,eqEdge,by kernel_rfl,?_⟩;conv=>whnf)|refine Ok.seq ?_|((first|refine Ok.region tok ?_|refine Ok.region_draw tok follows (by kernel_rfl) ?_|refine Ok.cond ?_);conv=>whnf)|refine Ok.block ?_|((first|refine Ok.skip ?_|refine Ok.ret ?_|refine nI ?_|refine ix _ (by assumption) ?_);conv=>whnf)|(refine bI ?_ ?_<;>intro<;>(conv=>whnf)<;>(try (exfalso;omega)))|fail)
   all_goals first
    | exact absurd (eqRowE x) (by assumption)
    | (refine⟨k+1,by omega,by omega,?_⟩
       (conv=>whnf);(first|rfl|simp[envCat, List.take_of_length_le, SI.row, Node.row, Pfx.row, Link.row, srow, Line.row, Rule.row, Box.row, Slc.row, Config.row, Eg.row])
       done)
 . (try (conv=>whnf));repeat' (first|refine Ok.seq ?_|((first|refine Ok.region tok ?_|refine Ok.cond ?_|refine Ok.exit ?_|refine Ok.ret ?_);conv=>whnf)|(refine bI ?_ ?_<;>intro<;>(conv=>whnf)<;>(try (exfalso;omega)))|fail)
   refine Or.inl ?_;(conv=>whnf)
   rfl
set_option maxHeartbeats 8000000 in
theorem medges_law(c:Config)(hc:c.Ok)(ht:c.Tx):FSpec Tryz.prog T 9 [.agg c.row] (fun d _=>d = .b True):=by
 have r2:=Roomy_at c hc
 have r4:=muntouched_at c hc
 by_cases h0:(checkO c.b).1=0
 . have r1:=redges_ok c hc ht h0
   have r3:=FSpecH.nil ((medges_ok (configR c) (configR_ok hc) (configR_tx ht) (by rw[configR_b];exact h0)).mono fun _ _ _ h=>h.1)
   rw[configR_b] at r3
   generalize configR c=g at r2 r3 r4
   generalize configK c=k at r2 r4
   generalize egsF c.b=l at r1 r3
   have hml:(l.map Eg.row).length=l.length:=by simp
   refine FSpec.of_ok tok Tryz.func9 rfl Tryz.call9 (by simp) ?_
   (try (conv=>whnf));repeat' (first|refine Ok.seq ?_|((first|refine Ok.region tok ?_|refine Ok.ret ?_);conv=>whnf)|(refine Or.inl ?_;(conv=>whnf);(repeat (refine aI ?_;conv=>whnf));refine⟨_,r4,rfl,?_⟩;conv=>whnf)|(refine Or.inl ?_;(conv=>whnf);(repeat (refine aI ?_;conv=>whnf));refine⟨_,munum_at 0,rfl,?_⟩;conv=>whnf)|(refine Or.inl ?_;(conv=>whnf);(repeat (refine aI ?_;conv=>whnf));refine⟨_,medges_same l (take_allE _) (take_allE _),rfl,?_⟩;conv=>whnf)|(refine Or.inl ?_;(conv=>whnf);(repeat (refine aI ?_;conv=>whnf));refine⟨_,mknown_at,rfl,?_⟩;conv=>whnf)|(refine Or.inr (Or.inl ?_);(conv=>whnf);(repeat (refine aI ?_;conv=>whnf));refine⟨_,r2,?_⟩;rintro _ _ ⟨rfl,rfl⟩<;>(conv=>whnf))|(refine Or.inr (Or.inr (Or.inr (Or.inl ?_)));(conv=>whnf);(repeat (refine aI ?_;conv=>whnf));refine⟨_,r1,?_⟩;rintro _ _ ⟨rfl,rfl⟩<;>(refine And.intro (by simp[gRowsP, grounds, D.ground, SI.row, Node.row, Pfx.row, Link.row, srow, Line.row, Rule.row, Box.row, Slc.row, Config.row, Eg.row]) ?_;conv=>whnf))|(refine Or.inr (Or.inr (Or.inr (Or.inl ?_)));(conv=>whnf);(repeat (refine aI ?_;conv=>whnf));refine⟨_,r3,?_⟩;rintro _ _ ⟨rfl,rfl⟩<;>(refine And.intro (by simp[gRowsP, grounds, D.ground, SI.row, Node.row, Pfx.row, Link.row, srow, Line.row, Rule.row, Box.row, Slc.row, Config.row, Eg.row]) ?_;conv=>whnf))|(refine bI ?_ ?_<;>intro<;>(conv=>whnf)<;>(try (exfalso;omega)))|fail)
   all_goals first
    | exact absurd rfl (by assumption)
    | (refine Or.inl ?_;(conv=>whnf)
       rfl)
 . have r1:=redges_bad c hc ht h0
   have r3:=medges_bad (configR c) (configR_ok hc) (configR_tx ht) (by rw[configR_b];exact h0)
   rw[configR_b] at r3
   generalize configR c=g at r2 r3 r4
   generalize configK c=k at r2 r4
   refine FSpec.of_ok tok Tryz.func9 rfl Tryz.call9 (by simp) ?_
   (try (conv=>whnf));repeat' (first|refine Ok.seq ?_|((first|refine Ok.region tok ?_|refine Ok.ret ?_);conv=>whnf)|(refine Or.inl ?_;(conv=>whnf);(repeat (refine aI ?_;conv=>whnf));refine⟨_,r4,rfl,?_⟩;conv=>whnf)|(refine Or.inl ?_;(conv=>whnf);(repeat (refine aI ?_;conv=>whnf));refine⟨_,munum_at (checkO c.b).1,rfl,?_⟩;conv=>whnf)|(refine Or.inl ?_;(conv=>whnf);(repeat (refine aI ?_;conv=>whnf));refine⟨_,medges_same [] rfl rfl,rfl,?_⟩;conv=>whnf)|(refine Or.inl ?_;(conv=>whnf);(repeat (refine aI ?_;conv=>whnf));refine⟨_,mknown_at,rfl,?_⟩;conv=>whnf)|(refine Or.inr (Or.inl ?_);(conv=>whnf);(repeat (refine aI ?_;conv=>whnf));refine⟨_,r1,?_⟩;rintro _ _ ⟨rfl,rfl⟩<;>(conv=>whnf))|(refine Or.inr (Or.inl ?_);(conv=>whnf);(repeat (refine aI ?_;conv=>whnf));refine⟨_,r2,?_⟩;rintro _ _ ⟨rfl,rfl⟩<;>(conv=>whnf))|(refine Or.inr (Or.inl ?_);(conv=>whnf);(repeat (refine aI ?_;conv=>whnf));refine⟨_,r3,?_⟩;rintro _ _ ⟨rfl,rfl⟩<;>(conv=>whnf))|(refine bI ?_ ?_<;>intro<;>(conv=>whnf)<;>(try (exfalso;omega)))|fail)
   all_goals first
    | exact absurd rfl (by assumption)
    | (refine Or.inl ?_;(conv=>whnf)
       rfl)
theorem modelEdges_ats:∃ ls,shapes T 9 [27]=some ls/\∀ xs,TyAs T 1048576 [27] ls xs->FSpec Tryz.prog T 9 xs (fun d _=>d = .b True):=by
 refine⟨_,rfl,fun xs h=>?_⟩
 obtain⟨_,_,rfl,h0,h⟩:=as_cons h
 obtain rfl:=as_nil h
 obtain⟨r0,rfl,g0⟩:=agg_of h0 rfl
 obtain⟨c,rfl,hc,ht⟩:=config_of g0
 exact medges_law c hc ht
end Go.Proofs.YtcglkonooeddfaaGreatDoor
namespace Go.Proofs.YtcglkonooeddfaaGreatDoor
open Go Go.Vx
theorem len4{α:Type}{l:List α}(h:l.length=4):∃ a b c d,l=[a,b,c,d]:=match l,h with|[a,b,c,d],_=>⟨a,b,c,d,rfl⟩
theorem len5{α:Type}{l:List α}(h:l.length=5):∃ a b c d e,l=[a,b,c,d,e]:=match l,h with|[a,b,c,d,e],_=>⟨a,b,c,d,e,rfl⟩
theorem len20{α:Type}{l:List α}(h:l.length=20):∃ v0 v1 v2 v3 v4 v5 v6 v7 v8 v9 v10 v11 v12 v13 v14 v15 v16 v17 v18 v19,l=[v0,v1,v2,v3,v4,v5,v6,v7,v8,v9,v10,v11,v12,v13,v14,v15,v16,v17,v18,v19]:=match l,h with|[v0,v1,v2,v3,v4,v5,v6,v7,v8,v9,v10,v11,v12,v13,v14,v15,v16,v17,v18,v19],_=>⟨v0,v1,v2,v3,v4,v5,v6,v7,v8,v9,v10,v11,v12,v13,v14,v15,v16,v17,v18,v19,rfl⟩
theorem st4{W:World}{fuel:Nat}{cs:List Value}{y:DataW Unit × List MemPlace}{a b c d:Bool}(h:DataW.trod (fun _=>()) Tryz.prog W 0 (fun _=>true) false fuel 347 cs=some y)
    (hy:y.1 = .agg [.lit (.bool a),.lit (.bool b),.lit (.bool c),.lit (.bool d)]):cs=[.bool a,.bool b,.bool c,.bool d]:=by
 obtain⟨xs,n,_,rfl,hl,hlen,hf⟩:=DataW.trod_struct Tryz.underlying347 h
 have hc4:Tryz.prog.cellsOf 347=4:=by kernel_rfl
 have hcb:Tryz.prog.cellsOf 4=1:=by kernel_rfl
 rw[hc4] at hl
 have hx4:xs.length=4:=hlen
 obtain⟨z0,z1,z2,z3,rfl⟩:=len4 hx4
 obtain⟨v0,v1,v2,v3,rfl⟩:=len4 hl
 ·
  simp only[List.map_cons,List.map_nil,DataW.agg.injEq,List.cons.injEq,and_true] at hy
  obtain⟨e0,e1,e2,e3⟩:=hy
  have f0:DataW.trod (fun _=>()) Tryz.prog W 0 (fun _=>true) false n 4 (List.take (Tryz.prog.cellsOf 4) (List.drop 0 [v0,v1,v2,v3]))=some z0:=hf 0 _ rfl
  rw[hcb,show List.take 1 (List.drop 0 [v0,v1,v2,v3])=[v0] from rfl] at f0
  have f1:DataW.trod (fun _=>()) Tryz.prog W 0 (fun _=>true) false n 4 (List.take (Tryz.prog.cellsOf 4) (List.drop 1 [v0,v1,v2,v3]))=some z1:=hf 1 _ rfl
  rw[hcb,show List.take 1 (List.drop 1 [v0,v1,v2,v3])=[v1] from rfl] at f1
  have f2:DataW.trod (fun _=>()) Tryz.prog W 0 (fun _=>true) false n 4 (List.take (Tryz.prog.cellsOf 4) (List.drop 2 [v0,v1,v2,v3]))=some z2:=hf 2 _ rfl
  rw[hcb,show List.take 1 (List.drop 2 [v0,v1,v2,v3])=[v2] from rfl] at f2
  have f3:DataW.trod (fun _=>()) Tryz.prog W 0 (fun _=>true) false n 4 (List.take (Tryz.prog.cellsOf 4) (List.drop 3 [v0,v1,v2,v3]))=some z3:=hf 3 _ rfl
  rw[hcb,show List.take 1 (List.drop 3 [v0,v1,v2,v3])=[v3] from rfl] at f3
  obtain⟨b0,h0,rfl⟩:=DataW.trod_bool Tryz.underlying4 f0
  obtain⟨b1,h1,rfl⟩:=DataW.trod_bool Tryz.underlying4 f1
  obtain⟨b2,h2,rfl⟩:=DataW.trod_bool Tryz.underlying4 f2
  obtain⟨b3,h3,rfl⟩:=DataW.trod_bool Tryz.underlying4 f3
  clear hf h
  simp only[List.cons.injEq,and_true] at h0 h1 h2 h3
  simp only[DataW.lit.injEq,Lit.bool.injEq] at e0 e1 e2 e3
  rw[h0,h1,h2,h3,e0,e1,e2,e3]
theorem used_of{W:World}{fuel:Nat}{cs:List Value}{p:List MemPlace}(h:DataW.trod (fun _=>()) Tryz.prog W 0 (fun _=>true) false fuel 348 cs=some (Rows.laid_reach_field_used,p)) :
    cs=[.bool false,.bool false,.bool false,.bool false,.bool true,.bool false,.bool false,.bool false,.bool true,.bool false,.bool true,.bool false,.bool true,.bool true,.bool false,.bool false,.bool false,.bool false,.bool false,.bool true]:=by
 obtain⟨xs,m,_,hx,hl,hxl,hf⟩:=DataW.trod_array Tryz.underlying348 h
 have hc:Tryz.prog.cellsOf 348=20:=by kernel_rfl
 have hc4:Tryz.prog.cellsOf 347=4:=by kernel_rfl
 rw[hc] at hl
 rw[hc4] at hf
 have hx1:=(Prod.mk.inj hx).1
 unfold Rows.laid_reach_field_used at hx1
 obtain⟨y0,y1,y2,y3,y4,rfl⟩:=len5 hxl
 obtain⟨v0,v1,v2,v3,v4,v5,v6,v7,v8,v9,v10,v11,v12,v13,v14,v15,v16,v17,v18,v19,rfl⟩:=len20 hl
 ·
  simp only[List.map_cons,List.map_nil,DataW.agg.injEq,List.cons.injEq,and_true] at hx1
  obtain⟨e0,e1,e2,e3,e4⟩:=hx1
  have g0:=st4 (hf 0 (by decide)) e0.symm
  have g1:=st4 (hf 1 (by decide)) e1.symm
  have g2:=st4 (hf 2 (by decide)) e2.symm
  have g3:=st4 (hf 3 (by decide)) e3.symm
  have g4:=st4 (hf 4 (by decide)) e4.symm
  simp at g0 g1 g2 g3 g4
  simp[g0,g1,g2,g3,g4]
theorem strs_of{W:World}{fuel:Nat}{cs:List Value}{p:List MemPlace}{n:Nat}{t e:TypeId}{ls:List (List UInt8)}(ht:Tryz.prog.underlying t=some (.array n e))(he:Tryz.prog.underlying e=some .string)(hce:Tryz.prog.cellsOf e=1)(hct:Tryz.prog.cellsOf t=n)
    (h:DataW.trod (fun _=>()) Tryz.prog W 0 (fun _=>true) false fuel t cs=some (.agg (ls.map fun l=>.lit (.string l)),p)):cs=ls.map fun l=>Value.string (bstr l):=by
 obtain⟨xs,m,_,hx,hl,hxl,hf⟩:=DataW.trod_array ht h
 rw[hct] at hl
 rw[hce] at hf
 have hx1:ls.map (fun l=>(DataW.lit (.string l):DataW Unit))=xs.map (·.1):=by injection (Prod.mk.inj hx).1
 have hlen:ls.length=n:=by have:=congrArg List.length hx1;simpa[hxl] using this
 apply List.ext_getElem?
 intro i
 by_cases hi:i<n
 . have h1:=hf i hi
   obtain⟨x,hxi⟩:∃ x,xs[i]? = some x:=⟨_,List.getElem?_eq_getElem (by rw[hxl];exact hi)⟩
   obtain⟨l,hli⟩:∃ l,ls[i]? = some l:=⟨_,List.getElem?_eq_getElem (by rw[hlen];exact hi)⟩
   rw[hxi] at h1
   obtain⟨s,hs,hxs,_⟩:=DataW.trod_string he h1
   have h2:=congrArg (fun l=>l[i]?) hx1
   simp only[List.getElem?_map,hxi,hli,Option.map_some,Option.some.injEq] at h2
   rw[hxs] at h2
   have h3:l=s.data.toList:=by simpa using h2
   have h4:=congrArg (fun l=>l[0]?) hs
   simp only[Nat.mul_one,List.getElem?_take,List.getElem?_drop,Nat.add_zero] at h4
   rw[List.getElem?_map,hli]
   have h5:cs[i]? = some (Value.string s):=by simpa using h4
   rw[h5,h3]
   simp only[Option.map_some,bstr_data]
 . rw[List.getElem?_eq_none (by rw[hl];exact Nat.not_lt.1 hi),List.getElem?_eq_none (by rw[List.length_map,hlen];exact Nat.not_lt.1 hi)]
theorem gl_of_gt{W:World}(h:GT W):GlOk W:=by
 refine⟨fun pp v hp=>?_,h⟩
 unfold glV at hp
 obtain⟨b,o,sp⟩:=pp
 cases sp with
 | some _=>cases hp
 | none=>
  dsimp only at hp
  cases hg:glD b with
  | none=>rw[hg] at hp;cases hp
  | some cs=>
   rw[hg] at hp
   dsimp only at hp
   obtain⟨_,a,c,hw⟩:=h b cs hg
   show W.cell? ⟨b,o,none⟩=some v
   simp only[World.cell?,hw]
   simpa using hp
theorem heap_of{W:World}{name:String}{g:Nat}{cs:Array Value}(hg:Tryz.prog.globalNamed name=some g)(h:W.var? Tryz.prog name=some cs):∃ a b,W.heap[g]? = some (.cells cs a b):=by
 simp only[World.var?,hg,Option.bind_some] at h
 split at h
 . rename_i cs' a b hh
   cases h
   exact⟨a,b,hh⟩
 . cases h
def VarIs(W:World)(name:String)(g:Nat):Prop:=∃ cs:Array Value,W.var? Tryz.prog name=some cs/\∃ ds,glD g=some ds/\cs.toList=ds.map valD
theorem gt_of{W:World}(h0:VarIs W "reach/reachref6.reserved" 0)(h1:VarIs W "reach/field.used" 1)(h5:VarIs W "internal/strconv.uint64pow10" 5):GT W:=by
 have one:∀ name g,Tryz.prog.globalNamed name=some g → VarIs W name g → ∀ cs,glD g=some cs → ∃ a b,W.heap[g]? = some (.cells (cs.map valD).toArray a b):=by
  rintro name g hn ⟨cs,hv,ds,hd,he⟩ cs' hc
  rw[hd] at hc
  cases hc
  obtain⟨a,b,hh⟩:=heap_of hn hv
  exact⟨a,b,by rw[hh,← he]⟩
 intro g cs hg
 match g,hg with
 | 0,hg=>exact⟨by cases hg;simp,one _ 0 (by kernel_rfl) h0 cs hg⟩
 | 1,hg=>exact⟨by cases hg;simp,one _ 1 (by kernel_rfl) h1 cs hg⟩
 | 5,hg=>exact⟨by cases hg;simp,one _ 5 (by kernel_rfl) h5 cs hg⟩
 | 2,hg=>cases hg
 | 3,hg=>cases hg
 | 4,hg=>cases hg
 | n+6,hg=>cases hg
theorem type_of{name:String}{g:Nat}{t t':TypeId}(hg0:Tryz.prog.globalNamed name=some g)(ht0:(Tryz.prog.globals[g]?).map (·.type)=some t){g':Nat}(hg:Tryz.prog.globalNamed name=some g')(ht:(Tryz.prog.globals[g']?).map (·.type)=some t'):g'=g/\t'=t:=by
 obtain rfl:=Option.some.inj (hg0.symm.trans hg)
 exact⟨rfl,(Option.some.inj (ht0.symm.trans ht)).symm⟩
def resvT:List (List UInt8):=[[110,101,116,119,111,114,107],[104,101,97,100,101,114],[114,111,117,116,105,110,103],[115,108,105,109],[98,111,120],[105,110],[111,117,116],[103,117,97,114,100],[112,101,114,109,105,116],[100,101,110,121],[114,117,108,101],[102,114,111,109],[109,97,116,99,104],[115,101,116],[116,111],[100,114,111,112],[111,119,110],[114,111,117,116,101],[108,105,110,107],[99,111,115,116],[115,108,105,99,101],[119,104,101,114,101],[97,110,121],[110,111,110,101],[97,116],[110,111]]
theorem glM{W:World}(h:laidMetH Tryz.prog Rows.modelChecksUptoRow.laid W):GlOk W:=by
 rw[MakeChecks.laidMetH_plain _ _ _ (by kernel_rfl)] at h
 obtain⟨ps,⟨_,_,_,_,_,_,_,_,_,_,⟨_,_,_,_,_,_,_,_,_,_,⟨g5,t5,c5,f5,p5,q5,hg5,ht5,hv5,hd5,⟨_,_,_,_,_,_,_,_,_,_,⟨g0,t0,c0,f0,p0,q0,hg0,ht0,hv0,hd0,⟨g1,t1,c1,f1,p1,q1,hg1,ht1,hv1,hd1,_,_⟩,_⟩,_⟩,_⟩,_⟩,_⟩,_⟩:=h
 obtain⟨rfl,rfl⟩:=type_of (g:=5) (t:=410) (by kernel_rfl) (by kernel_rfl) hg5 ht5
 obtain⟨rfl,rfl⟩:=type_of (g:=0) (t:=301) (by kernel_rfl) (by kernel_rfl) hg0 ht0
 obtain⟨rfl,rfl⟩:=type_of (g:=1) (t:=348) (by kernel_rfl) (by kernel_rfl) hg1 ht1
 refine gl_of_gt (gt_of ⟨c0,hv0,_,rfl,?_⟩ ⟨c1,hv1,_,rfl,?_⟩ ⟨c5,hv5,_,rfl,?_⟩)
 . exact strs_of (ls:=resvT) Tryz.underlying301 Tryz.underlying9 (by kernel_rfl) (by kernel_rfl) hd0
 . exact used_of hd1
 . exact Lib.cells_of_tab (zs:=Lib.pow10Tab) Tryz.underlying410 Tryz.underlying134 (by kernel_rfl) (by kernel_rfl) hd5
end Go.Proofs.YtcglkonooeddfaaGreatDoor
