/- The walks and the plain laws that a law of networks needs, part 5 of 6. -/
import Derived.Test.YtcglkonooeddfaaGreatDoorQGD
import Derived.Lib.ItoaLen
set_option linter.unusedVariables false
set_option linter.unusedSimpArgs false
namespace Go.Proofs.YtcglkonooeddfaaGreatDoor
open Go Go.Vx
set_option maxRecDepth 100000 in
set_option maxHeartbeats 16000000 in
theorem mslices_at(hN:∀ s,FSpec Tryz.prog T 138 [.s s] (fun d _=>d = .b (MName s)))(c:Config)(hc:c.Ok)(ht:c.Tx)(hn:(nameO c.b).1=0)(hcn:(countO c.b).1=0) :
    FSpecH Tryz.prog T [] 79 [.agg c.row] (fun d rows M=>(d = .tup [.i .i64 (sliceO c.b).1,.s (sliceO c.b).2]/\rows=[])/\M=[]):=by
 have hll:(c.slices.l.map Slc.row).length=c.slices.l.length:=by simp
 have hL:=hc.slices
 have hpn:(fullsL c.b.boxes).length<=1000:=by rw[fullsL_len];have:=(count_ok hcn).2.1;omega
 have hnum:=numbered_at c hc (tx_names ht) hpn
 have hpr:((plcs c.b.boxes).map plRow).length=(plcs c.b.boxes).length:=by simp
 refine FSpecH.of_ok0 tok Tryz.func79 rfl Tryz.call79 (by simp) ?_
 (try (conv=>whnf));repeat' (first|(refine⟨_,_,_,_,_,mtSI,fun _ _=>?_⟩;conv=>whnf)|(refine Or.inr (Or.inl ?_);(conv=>whnf);(repeat (refine aI ?_;conv=>whnf));refine⟨_,hnum , ?_⟩;rintro _ _ _ ⟨gn,lst,cn,rfl,rfl,rfl,hnm,hwf,hky⟩<;>(conv=>whnf))|refine OkM.seq ?_|(refine OkM.region tok ?_;conv=>whnf)|refine OkM.block ?_|fail)
 rename_i g hg
 have hNo:NumOk c.b lst:=⟨fulls_nodup hn,hnm,hky⟩
 have hin:∀ p,(lk lst p).isSome=true ↔ ¬ (p ∉ fullIn c.b/\p ∉ fullOut c.b):=fun p=>by
  rw[hNo.some_iff,mem_fulls]
  constructor
  . rintro (h|h) ⟨h1,h2⟩
    . exact h1 h
    . exact h2 h
  . intro h
    by_cases h1:p ∈ fullIn c.b
    . exact Or.inl h1
    . exact Or.inr (Classical.byContradiction fun h2=>h ⟨h1,h2⟩)
 refine OkM.loopU [1,5,6,25,26] [27] 1 1 (fun (x:Nat × List (Str × Int × Nat) × Nat)=>[.i .i64 (x.1:Nat)]) (fun _ b=>b) (fun _ r=>r) (fun (x:Nat × List (Str × Int × Nat) × Nat)=>[(g,mObj D.s fI x.2.1 x.2.2),(gn,mObj D.s fI lst cn)]) (fun (x:Nat × List (Str × Int × Nat) × Nat)=>x.1<=c.slices.l.length/\KMap x.2.1 ((c.b.slices.take x.1).map SlcB.name)/\sliceO c.b=firstE (sliceE c.b) (c.b.slices.take x.1) (c.b.slices.drop x.1)) (fun (x:Nat × List (Str × Int × Nat) × Nat)=>c.slices.l.length - x.1) ((0,[],0)) (⟨Nat.zero_le _,KMap.nil,rfl⟩) (by first|exact .refl _|exact .cons _ (.refl _)|exact List.nil_sublist _) ?_;(conv=>whnf);refine⟨by ((conv=>whnf);first|rfl|(simp[envCat, List.take_of_length_le, SI.row, Node.row, Pfx.row, Link.row, srow, Line.row, Rule.row, Box.row, Slc.row, Config.row, plRow];done)|(simp[envCat, List.take_of_length_le, SI.row, Node.row, Pfx.row, Link.row, srow, Line.row, Rule.row, Box.row, Slc.row, Config.row, plRow];rw[IntKind.wrap_i64];omega)),?_⟩
 rintro⟨i,ls,ck⟩ ⟨hi,hkm,hfe⟩
 dsimp only at hi hkm hfe ⊢
 (conv=>whnf)
 by_cases hil:i<c.slices.l.length
 . obtain⟨b,hb⟩:∃ b,c.slices.l[i]? = some b:=⟨_,List.getElem?_eq_getElem hil⟩
   have hbI:c.slices.l[((i:Nat):Int).toNat]? = some b:=hb
   have hbb:c.b.slices[i]? = some b.b:=by simp[Config.b,hb]
   have htkb:c.b.slices.take (i+1)=c.b.slices.take i++[b.b]:=by rw[List.take_add_one,hbb];rfl
   have hbx:=hc.slc b (List.mem_of_getElem? hb)
   have hbt:=ht.slices b (List.mem_of_getElem? hb)
   have hbp:=hbx.ports
   have hpl:(b.ports.l.map srow).length=b.ports.l.length:=by simp
   have hck:=pcheck_at (fds c.fields.l) c.fields.room (nds b.whr.l) b.whr.room (by rw[fds_len];have:=hc.fields;omega) (by have:=hbx.whr;simp[nds];omega) (nds_ok hbt.whr)
   rw[fds_row,nds_row] at hck
   (try (conv=>whnf));repeat' (first|((first|refine⟨_,_,_,_,_,_,_,_,mtSI,(by first|exact .head _|exact .tail _ (.head _)|exact .tail _ (.tail _ (.head _))|exact .tail _ (.tail _ (.tail _ (.head _)))|exact List.mem_append_left _ (by assumption)),rfl,?_⟩|refine⟨_,_,_,_,_,mtSI,fun _ _=>?_⟩|refine⟨_,_,_,_,_,_,_,0,_,_,mtSI,rfl,rfl,rfl,?_⟩);conv=>whnf)|refine OkM.seq ?_|((first|refine OkM.region tok ?_|refine OkM.of_ok (Ok.region_draw tok follows (by kernel_rfl) ?_)|refine OkM.cond ?_);conv=>whnf)|refine OkM.block ?_|((first|refine OkM.skip ?_|refine OkM.ret ?_|refine ix _ (by assumption) ?_);conv=>whnf)|(refine Or.inl ?_;(conv=>whnf);refine Or.inl ?_;(conv=>whnf);(repeat (refine aI ?_;conv=>whnf));refine⟨_,hN b.name,rfl,?_⟩;conv=>whnf)|(refine bI ?_ ?_<;>intro<;>(conv=>whnf)<;>(try (exfalso;omega)))|fail)
   . rename_i hx
     refine Or.inl ?_;(conv=>whnf)
     refine⟨?_,rfl⟩
     rw[hfe,firstE_bad hbb (by rw[sliceE_bad hx];simp),sliceE_bad hx]
     rfl
   . rename_i hx hy
     have hx:=Classical.not_not.1 hx
     have hm:=(hkm _).1 hy
     refine Or.inl ?_;(conv=>whnf)
     refine⟨?_,rfl⟩
     rw[hfe,firstE_bad hbb (by rw[sliceE_dbl hx hm];simp),sliceE_dbl hx hm]
     rfl
   rename_i hx hy g2 hg2
   have hx:=Classical.not_not.1 hx
   have hm:b.b.name ∉ (c.b.slices.take i).map SlcB.name:=fun h=>hy ((hkm _).2 h)
   rw[firstE_split hbb,sliceE_ok hx hm] at hfe
   refine OkM.loopU [1,5,6,8,11,25,26,27,54,55] [56] 1 2 (fun (y:Nat × List (Str × Int × Nat) × Nat)=>[.i .i64 (y.1:Nat)]) (fun _ b=>b) (fun _ r=>r) (fun (y:Nat × List (Str × Int × Nat) × Nat)=>[(g2,mObj D.s fI y.2.1 y.2.2),(g,mObj D.s fI (mput ls ck b.name i).1 (mput ls ck b.name i).2),(gn,mObj D.s fI lst cn)]) (fun (y:Nat × List (Str × Int × Nat) × Nat)=>y.1<=b.ports.l.length/\KMap y.2.1 (b.ports.l.take y.1)/\firstE (sportE c.b) [] b.ports.l=firstE (sportE c.b) (b.ports.l.take y.1) (b.ports.l.drop y.1)) (fun (y:Nat × List (Str × Int × Nat) × Nat)=>b.ports.l.length - y.1) ((0,[],0)) (⟨Nat.zero_le _,KMap.nil,rfl⟩) (by first|exact .refl _|exact .cons _ (.refl _)|exact List.nil_sublist _) ?_;(conv=>whnf);refine⟨by ((conv=>whnf);first|rfl|(simp[envCat, List.take_of_length_le, SI.row, Node.row, Pfx.row, Link.row, srow, Line.row, Rule.row, Box.row, Slc.row, Config.row, plRow];done)|(simp[envCat, List.take_of_length_le, SI.row, Node.row, Pfx.row, Link.row, srow, Line.row, Rule.row, Box.row, Slc.row, Config.row, plRow];rw[IntKind.wrap_i64];omega)),?_⟩
   rintro⟨j,l2,c2⟩ ⟨hj,hkm2,hfe2⟩
   dsimp only at hj hkm2 hfe2 ⊢
   (conv=>whnf)
   by_cases hjl:j<b.ports.l.length
   . obtain⟨s,hs⟩:∃ s,b.ports.l[j]? = some s:=⟨_,List.getElem?_eq_getElem hjl⟩
     have hsr:(b.ports.l.map srow)[j]? = some (srow s):=by rw[List.getElem?_map,hs];rfl
     have htk:b.ports.l.take (j+1)=b.ports.l.take j++[s]:=by rw[List.take_add_one,hs];rfl
     (try (conv=>whnf));repeat' (first|((first|refine⟨_,_,_,_,_,_,_,_,mtSI,(by first|exact .head _|exact .tail _ (.head _)|exact .tail _ (.tail _ (.head _))|exact .tail _ (.tail _ (.tail _ (.head _)))|exact List.mem_append_left _ (by assumption)),rfl,?_⟩|refine⟨_,_,_,_,_,_,_,0,_,_,mtSI,rfl,rfl,rfl,?_⟩);conv=>whnf)|refine OkM.seq ?_|((first|refine OkM.region tok ?_|refine OkM.cond ?_);conv=>whnf)|refine OkM.block ?_|((first|refine OkM.skip ?_|refine OkM.ret ?_|refine nI ?_|refine ix _ (by assumption) ?_);conv=>whnf)|(refine bI ?_ ?_<;>intro<;>(conv=>whnf)<;>(try (exfalso;omega)))|fail)
     . rename_i hz
       have hu:=Classical.not_not.1 fun h=>hz ((hin s).2 h)
       rw[firstE_bad hs (by rw[sportE_unk hu];simp),sportE_unk hu] at hfe2
       change sliceO c.b=if (orE (firstE (sportE c.b) [] b.ports.l) _).1 ≠ 0 then orE (firstE (sportE c.b) [] b.ports.l) _ else _ at hfe
       rw[hfe2] at hfe
       refine Or.inl ?_;(conv=>whnf)
       refine⟨?_,rfl⟩
       rw[hfe]
       rfl
     . rename_i hz hv
       have hu:=(hin s).1 (Classical.not_not.1 hz)
       have hp:=(hkm2 s).1 hv
       rw[firstE_bad hs (by rw[sportE_dbl hu hp];simp),sportE_dbl hu hp] at hfe2
       change sliceO c.b=if (orE (firstE (sportE c.b) [] b.ports.l) _).1 ≠ 0 then orE (firstE (sportE c.b) [] b.ports.l) _ else _ at hfe
       rw[hfe2] at hfe
       refine Or.inl ?_;(conv=>whnf)
       refine⟨?_,rfl⟩
       rw[hfe]
       rfl
     . rename_i hz hv
       have hu:=(hin s).1 (Classical.not_not.1 hz)
       have hp:s ∉ b.ports.l.take j:=fun h=>hv ((hkm2 s).2 h)
       refine⟨(j+1,(mput l2 c2 s ((lk lst s).getD 0)).1,(mput l2 c2 s ((lk lst s).getD 0)).2),by dsimp only;omega,⟨by dsimp only;omega,by dsimp only;rw[htk];exact hkm2.put c2 s _,?_⟩,.refl _,?_⟩
       . rw[hfe2,firstE_ok hs (by rw[sportE_ok hu hp])]
       . (conv=>whnf)
         rfl
   . obtain rfl:j=b.ports.l.length:=by omega
     rw[firstE_nil (Nat.le_refl _)] at hfe2
     change sliceO c.b=if (orE (firstE (sportE c.b) [] b.ports.l) (if chkE (fds c.fields.l) (nds b.whr.l) ≠ 0 then (77,b.name) else (0,[]))).1 ≠ 0 then orE (firstE (sportE c.b) [] b.ports.l) (if chkE (fds c.fields.l) (nds b.whr.l) ≠ 0 then (77,b.name) else (0,[])) else _ at hfe
     rw[hfe2] at hfe
     (try (conv=>whnf));repeat' (first|refine OkM.seq ?_|((first|refine OkM.region tok ?_|refine OkM.of_ok (Ok.region_draw tok follows (by kernel_rfl) ?_)|refine OkM.cond ?_|refine OkM.skip ?_|refine OkM.exit ?_|refine OkM.ret ?_|refine nI ?_);conv=>whnf)|(refine Or.inl ?_;(conv=>whnf);refine Or.inl ?_;(conv=>whnf);(repeat (refine aI ?_;conv=>whnf));refine⟨_,hck,rfl,?_⟩;conv=>whnf)|(refine bI ?_ ?_<;>intro<;>(conv=>whnf)<;>(try (exfalso;omega)))|fail)
     . rename_i hz
       rw[if_pos hz] at hfe
       refine Or.inl ?_;(conv=>whnf)
       refine⟨?_,rfl⟩
       rw[hfe]
       rfl
     . rename_i hz
       rw[if_neg hz,if_neg (by simp[orE])] at hfe
       refine⟨(i+1,(mput ls ck b.name i).1,(mput ls ck b.name i).2),by dsimp only;omega,⟨by dsimp only;omega,?_,hfe⟩,.cons _ (.refl _),?_⟩
       . dsimp only
         rw[htkb,List.map_append]
         exact hkm.put ck b.name i
       . (conv=>whnf)
         rfl
 . obtain rfl:i=c.slices.l.length:=by omega
   rw[firstE_nil (by simp[Config.b])] at hfe
   (try (conv=>whnf));repeat' (first|refine OkM.seq ?_|((first|refine OkM.region tok ?_|refine OkM.cond ?_|refine OkM.exit ?_|refine OkM.ret ?_);conv=>whnf)|(refine bI ?_ ?_<;>intro<;>(conv=>whnf)<;>(try (exfalso;omega)))|fail)
   all_goals first
    | (exfalso;omega)
    | (refine Or.inl ?_;(conv=>whnf)
       exact⟨by rw[hfe];rfl,rfl⟩)
end Go.Proofs.YtcglkonooeddfaaGreatDoor
namespace Go.Proofs.YtcglkonooeddfaaGreatDoor
open Go Go.Vx
theorem part_of{f:FuncId}{ds:List D}{e:Er}(h:FSpecH Tryz.prog T [] f ds (fun d rows M=>(d = .tup [.i .i64 e.1,.s e.2]/\rows=[])/\M=[])):FSpec Tryz.prog T f ds (fun d _=>d = .tup [.i .i64 e.1,.s e.2]):=
 FSpecH.nil (h.mono fun _ _ _ h=>h.1.1)
theorem orE_bad{a b:Er}(h:a.1 ≠ 0):orE a b=a:=if_pos h
theorem orE_ok{a b:Er}(h:a.1=0):orE a b=b:=if_neg (fun g=>g h)
set_option maxRecDepth 100000 in
set_option maxHeartbeats 16000000 in
theorem mcheck_at(hW:WordOk)(hI:ItoaOk)(c:Config)(hc:c.Ok)(ht:c.Tx) :
    FSpec Tryz.prog T 35 [.agg c.row] (fun d _=>d = .tup [.i .i64 (checkO c.b).1,.s (checkO c.b).2]):=by
 have p0:=mhead_at c hc.fields
 have p1:=mcounts_at c hc
 have p2:=part_of (mnames_at misName_at c hc (tx_names ht))
 have p3:=fun hh hn=>part_of (mdeeds_at hW hI c hc ht hh hn)
 have p4:=fun hn hcn=>part_of (mlinks_at c hc ht hn hcn)
 have p5:=fun hn hcn=>part_of (mslices_at misName_at c hc ht hn hcn)
 refine FSpec.of_ok tok Tryz.func35 rfl Tryz.call35 (by simp) ?_
 (try (conv=>whnf));repeat' (first|refine Ok.seq ?_|(refine Ok.region tok ?_;conv=>whnf)|refine Ok.block ?_|fail)
 refine Ok.loopU [1,8,9] [10] 1 1 (fun (k:Nat)=>[.i .i64 (k:Nat)]) (fun _ b=>b) (fun _ r=>r) (fun (k:Nat)=>k<=6/\(0<k->(headO c.b).1=0)/\(1<k->(countO c.b).1=0)/\(2<k->(nameO c.b).1=0)/\(3<k->(deedO c.b).1=0)/\(4<k->(linkO c.b).1=0)/\(5<k->(sliceO c.b).1=0)) (fun (k:Nat)=>6 - k) (0) (⟨by omega,by omega,by omega,by omega,by omega,by omega,by omega⟩) ?_;(conv=>whnf);refine⟨by ((conv=>whnf);first|rfl|(simp[envCat, List.take_of_length_le, SI.row, Node.row, Pfx.row, Link.row, srow, Line.row, Rule.row, Box.row, Slc.row, Config.row, plRow];done)|(simp[envCat, List.take_of_length_le, SI.row, Node.row, Pfx.row, Link.row, srow, Line.row, Rule.row, Box.row, Slc.row, Config.row, plRow];rw[IntKind.wrap_i64];omega)),?_⟩
 rintro k ⟨hk,h0,h1,h2,h3,h4,h5⟩
 (conv=>whnf)
 obtain rfl|rfl|rfl|rfl|rfl|rfl|rfl:k=0\/k=1\/k=2\/k=3\/k=4\/k=5\/k=6:=by omega
 . have pp:=p0
   (try (conv=>whnf));repeat' (first|refine Ok.seq ?_|((first|refine Ok.region tok ?_|refine Ok.cond ?_);conv=>whnf)|refine Ok.block ?_|((first|refine Ok.skip ?_|refine Ok.ret ?_|refine nI ?_);conv=>whnf)|(refine Or.inl ?_;(conv=>whnf);(repeat (refine aI ?_;conv=>whnf));refine⟨_,pp,rfl,?_⟩;conv=>whnf)|(refine bI ?_ ?_<;>intro<;>(conv=>whnf)<;>(try (exfalso;omega)))|((first|refine aJ ?_|refine⟨_,rfl,?_⟩);conv=>whnf)|fail)
   all_goals first
    | (rename_i hz
       refine Or.inl ?_;(conv=>whnf)
       have:checkO c.b=headO c.b:=by unfold checkO;rw[orE_bad hz]
       rw[this]
       rfl)
    | (rename_i hz
       refine⟨1,by omega,⟨by omega,fun _=>Classical.not_not.1 hz,fun h=>absurd h (by omega),fun h=>absurd h (by omega),fun h=>absurd h (by omega),fun h=>absurd h (by omega),fun h=>absurd h (by omega)⟩,?_⟩
       (conv=>whnf)
       rfl)
 . have pp:=p1
   (try (conv=>whnf));repeat' (first|refine Ok.seq ?_|((first|refine Ok.region tok ?_|refine Ok.cond ?_);conv=>whnf)|refine Ok.block ?_|((first|refine Ok.skip ?_|refine Ok.ret ?_|refine nI ?_);conv=>whnf)|(refine Or.inl ?_;(conv=>whnf);(repeat (refine aI ?_;conv=>whnf));refine⟨_,pp,rfl,?_⟩;conv=>whnf)|(refine bI ?_ ?_<;>intro<;>(conv=>whnf)<;>(try (exfalso;omega)))|((first|refine aJ ?_|refine⟨_,rfl,?_⟩);conv=>whnf)|fail)
   all_goals first
    | (rename_i hz
       refine Or.inl ?_;(conv=>whnf)
       have:checkO c.b=countO c.b:=by unfold checkO;rw[orE_ok (h0 (by omega)),orE_bad hz]
       rw[this]
       rfl)
    | (rename_i hz
       refine⟨2,by omega,⟨by omega,fun _=>h0 (by omega),fun _=>Classical.not_not.1 hz,fun h=>absurd h (by omega),fun h=>absurd h (by omega),fun h=>absurd h (by omega),fun h=>absurd h (by omega)⟩,?_⟩
       (conv=>whnf)
       rfl)
 . have pp:=p2
   (try (conv=>whnf));repeat' (first|refine Ok.seq ?_|((first|refine Ok.region tok ?_|refine Ok.cond ?_);conv=>whnf)|refine Ok.block ?_|((first|refine Ok.skip ?_|refine Ok.ret ?_|refine nI ?_);conv=>whnf)|(refine Or.inl ?_;(conv=>whnf);(repeat (refine aI ?_;conv=>whnf));refine⟨_,pp,rfl,?_⟩;conv=>whnf)|(refine bI ?_ ?_<;>intro<;>(conv=>whnf)<;>(try (exfalso;omega)))|((first|refine aJ ?_|refine⟨_,rfl,?_⟩);conv=>whnf)|fail)
   all_goals first
    | (rename_i hz
       refine Or.inl ?_;(conv=>whnf)
       have:checkO c.b=nameO c.b:=by unfold checkO;rw[orE_ok (h0 (by omega)),orE_ok (h1 (by omega)),orE_bad hz]
       rw[this]
       rfl)
    | (rename_i hz
       refine⟨3,by omega,⟨by omega,fun _=>h0 (by omega),fun _=>h1 (by omega),fun _=>Classical.not_not.1 hz,fun h=>absurd h (by omega),fun h=>absurd h (by omega),fun h=>absurd h (by omega)⟩,?_⟩
       (conv=>whnf)
       rfl)
 . have pp:=(p3 (head_ok (h0 (by omega))) (h2 (by omega)))
   (try (conv=>whnf));repeat' (first|refine Ok.seq ?_|((first|refine Ok.region tok ?_|refine Ok.cond ?_);conv=>whnf)|refine Ok.block ?_|((first|refine Ok.skip ?_|refine Ok.ret ?_|refine nI ?_);conv=>whnf)|(refine Or.inl ?_;(conv=>whnf);(repeat (refine aI ?_;conv=>whnf));refine⟨_,pp,rfl,?_⟩;conv=>whnf)|(refine bI ?_ ?_<;>intro<;>(conv=>whnf)<;>(try (exfalso;omega)))|((first|refine aJ ?_|refine⟨_,rfl,?_⟩);conv=>whnf)|fail)
   all_goals first
    | (rename_i hz
       refine Or.inl ?_;(conv=>whnf)
       have:checkO c.b=deedO c.b:=by unfold checkO;rw[orE_ok (h0 (by omega)),orE_ok (h1 (by omega)),orE_ok (h2 (by omega)),orE_bad hz]
       rw[this]
       rfl)
    | (rename_i hz
       refine⟨4,by omega,⟨by omega,fun _=>h0 (by omega),fun _=>h1 (by omega),fun _=>h2 (by omega),fun _=>Classical.not_not.1 hz,fun h=>absurd h (by omega),fun h=>absurd h (by omega)⟩,?_⟩
       (conv=>whnf)
       rfl)
 . have pp:=(p4 (h2 (by omega)) (h1 (by omega)))
   (try (conv=>whnf));repeat' (first|refine Ok.seq ?_|((first|refine Ok.region tok ?_|refine Ok.cond ?_);conv=>whnf)|refine Ok.block ?_|((first|refine Ok.skip ?_|refine Ok.ret ?_|refine nI ?_);conv=>whnf)|(refine Or.inl ?_;(conv=>whnf);(repeat (refine aI ?_;conv=>whnf));refine⟨_,pp,rfl,?_⟩;conv=>whnf)|(refine bI ?_ ?_<;>intro<;>(conv=>whnf)<;>(try (exfalso;omega)))|((first|refine aJ ?_|refine⟨_,rfl,?_⟩);conv=>whnf)|fail)
   all_goals first
    | (rename_i hz
       refine Or.inl ?_;(conv=>whnf)
       have:checkO c.b=linkO c.b:=by unfold checkO;rw[orE_ok (h0 (by omega)),orE_ok (h1 (by omega)),orE_ok (h2 (by omega)),orE_ok (h3 (by omega)),orE_bad hz]
       rw[this]
       rfl)
    | (rename_i hz
       refine⟨5,by omega,⟨by omega,fun _=>h0 (by omega),fun _=>h1 (by omega),fun _=>h2 (by omega),fun _=>h3 (by omega),fun _=>Classical.not_not.1 hz,fun h=>absurd h (by omega)⟩,?_⟩
       (conv=>whnf)
       rfl)
 . have pp:=(p5 (h2 (by omega)) (h1 (by omega)))
   (try (conv=>whnf));repeat' (first|refine Ok.seq ?_|((first|refine Ok.region tok ?_|refine Ok.cond ?_);conv=>whnf)|refine Ok.block ?_|((first|refine Ok.skip ?_|refine Ok.ret ?_|refine nI ?_);conv=>whnf)|(refine Or.inl ?_;(conv=>whnf);(repeat (refine aI ?_;conv=>whnf));refine⟨_,pp,rfl,?_⟩;conv=>whnf)|(refine bI ?_ ?_<;>intro<;>(conv=>whnf)<;>(try (exfalso;omega)))|((first|refine aJ ?_|refine⟨_,rfl,?_⟩);conv=>whnf)|fail)
   all_goals first
    | (rename_i hz
       refine Or.inl ?_;(conv=>whnf)
       have:checkO c.b=sliceO c.b:=by unfold checkO;rw[orE_ok (h0 (by omega)),orE_ok (h1 (by omega)),orE_ok (h2 (by omega)),orE_ok (h3 (by omega)),orE_ok (h4 (by omega))]
       rw[this]
       rfl)
    | (rename_i hz
       refine⟨6,by omega,⟨by omega,fun _=>h0 (by omega),fun _=>h1 (by omega),fun _=>h2 (by omega),fun _=>h3 (by omega),fun _=>h4 (by omega),fun _=>Classical.not_not.1 hz⟩,?_⟩
       (conv=>whnf)
       rfl)
 . (try (conv=>whnf));repeat' (first|refine Ok.seq ?_|((first|refine Ok.region tok ?_|refine Ok.cond ?_|refine Ok.exit ?_|refine Ok.ret ?_);conv=>whnf)|(refine bI ?_ ?_<;>intro<;>(conv=>whnf)<;>(try (exfalso;omega)))|fail)
   all_goals first
    | (exfalso;omega)
    | (refine Or.inl ?_;(conv=>whnf)
       have h6:checkO c.b=sliceO c.b:=by unfold checkO;rw[orE_ok (h0 (by omega)),orE_ok (h1 (by omega)),orE_ok (h2 (by omega)),orE_ok (h3 (by omega)),orE_ok (h4 (by omega))]
       have h7:sliceO c.b=(0,[]):=firstE_emp (h5 (by omega))
       rw[h6,h7]
       rfl)
end Go.Proofs.YtcglkonooeddfaaGreatDoor
namespace Go.Proofs.YtcglkonooeddfaaGreatDoor
open Go Go.Vx
theorem check_parts{c:ConfigB}(h:(checkO c).1=0):(headO c).1=0/\(countO c).1=0/\(nameO c).1=0/\(deedO c).1=0/\(linkO c).1=0/\(sliceO c).1=0:=by
 unfold checkO at h
 by_cases h0:(headO c).1=0
 . rw[orE_ok h0] at h
   by_cases h1:(countO c).1=0
   . rw[orE_ok h1] at h
     by_cases h2:(nameO c).1=0
     . rw[orE_ok h2] at h
       by_cases h3:(deedO c).1=0
       . rw[orE_ok h3] at h
         by_cases h4:(linkO c).1=0
         . rw[orE_ok h4] at h
           exact⟨h0,h1,h2,h3,h4,h⟩
         . exact absurd (by rwa [orE_bad h4] at h) h4
       . exact absurd (by rwa [orE_bad h3] at h) h3
     . exact absurd (by rwa [orE_bad h2] at h) h2
   . exact absurd (by rwa [orE_bad h1] at h) h1
 . exact absurd (by rwa [orE_bad h0] at h) h0
open Classical in
noncomputable def findP(c:ConfigB)(s:Str):Int:=if (checkO c).1 ≠ 0 then -1 else if s ∈ fullsL c.boxes then plc (fullsL c.boxes) s else -1
set_option maxRecDepth 100000 in
set_option maxHeartbeats 16000000 in
theorem mFind_at(hW:WordOk)(hI:ItoaOk)(c:Config)(hc:c.Ok)(ht:c.Tx)(s:Str) :
    FSpecH Tryz.prog T [] 28 [.agg c.row,.s s] (fun d rows M=>(d = .i .i64 (findP c.b s)/\rows=[])/\M=[]):=by
 have hck:=mcheck_at hW hI c hc ht
 refine FSpecH.of_ok0 tok Tryz.func28 rfl Tryz.call28 (by simp) ?_
 (try (conv=>whnf));repeat' (first|refine OkM.seq ?_|((first|refine OkM.region tok ?_|refine OkM.cond ?_|refine OkM.skip ?_|refine OkM.ret ?_);conv=>whnf)|(refine Or.inl ?_;(conv=>whnf);refine Or.inl ?_;(conv=>whnf);(repeat (refine aI ?_;conv=>whnf));refine⟨_,hck,rfl,?_⟩;conv=>whnf)|(refine bI ?_ ?_<;>intro<;>(conv=>whnf)<;>(try (exfalso;omega)))|fail)
 . rename_i hz
   refine Or.inl ?_;(conv=>whnf)
   refine⟨?_,rfl⟩
   unfold findP
   rw[if_pos hz]
   rfl
 rename_i hz
 obtain⟨h0,h1,h2,h3,h4,h5⟩:=check_parts (Classical.not_not.1 hz)
 have hpn:(fullsL c.b.boxes).length<=1000:=by rw[fullsL_len];have:=(count_ok h1).2.1;omega
 have hnum:=numbered_at c hc (tx_names ht) hpn
 (try (conv=>whnf));repeat' (first|(refine⟨_,_,_,_,_,_,_,_,mtSI,(by first|exact .head _|exact .tail _ (.head _)|exact .tail _ (.tail _ (.head _))|exact .tail _ (.tail _ (.tail _ (.head _)))|exact List.mem_append_left _ (by assumption)),rfl,?_⟩;conv=>whnf)|(refine Or.inr (Or.inl ?_);(conv=>whnf);(repeat (refine aI ?_;conv=>whnf));refine⟨_,hnum , ?_⟩;rintro _ _ _ ⟨gn,lst,cn,rfl,rfl,rfl,hnm,hwf,hky⟩<;>(conv=>whnf))|refine OkM.seq ?_|((first|refine OkM.region tok ?_|refine OkM.cond ?_|refine OkM.skip ?_|refine OkM.ret ?_);conv=>whnf)|(refine bI ?_ ?_<;>intro<;>(conv=>whnf)<;>(try (exfalso;omega)))|fail)
 . rename_i hs
   have hNo:NumOk c.b lst:=⟨fulls_nodup h2,hnm,hky⟩
   have hsm:=(hNo.some_iff s).1 hs
   obtain⟨_,_,e,_⟩:=hNo.some hsm
   refine Or.inl ?_;(conv=>whnf)
   refine⟨?_,rfl⟩
   unfold findP
   rw[if_neg hz,if_pos hsm,e]
   rfl
 . rename_i hs
   have hNo:NumOk c.b lst:=⟨fulls_nodup h2,hnm,hky⟩
   have hsm:=fun h=>hs ((hNo.some_iff s).2 h)
   refine Or.inl ?_;(conv=>whnf)
   refine⟨?_,rfl⟩
   unfold findP
   rw[if_neg hz,if_neg hsm]
   rfl
end Go.Proofs.YtcglkonooeddfaaGreatDoor
namespace Go.Proofs.YtcglkonooeddfaaGreatDoor
open Go Go.Vx
section
variable {fs : List Fd} {pre : List SI} {s : SI}
theorem setE_unk(h:findI s.s fs 0<0):setE fs pre s=(41,[]):=if_pos h
theorem setE_dup(h:¬ findI s.s fs 0<0)(h2:∃ t ∈ pre,t.s=s.s):setE fs pre s=(45,[]):=by unfold setE;rw[if_neg h,if_pos h2]
theorem setE_val(h:¬ findI s.s fs 0<0)(h2:¬ ∃ t ∈ pre,t.s=s.s)(h3:s.n<0\/(tw ((fs[(findI s.s fs 0).toNat]?).getD ⟨[],0⟩).bits.toNat:Int) - 1<s.n):setE fs pre s=(42,[]):=by unfold setE;rw[if_neg h,if_neg h2,if_pos h3]
theorem setE_ok(h:¬ findI s.s fs 0<0)(h2:¬ ∃ t ∈ pre,t.s=s.s)(h3:¬ (s.n<0\/(tw ((fs[(findI s.s fs 0).toNat]?).getD ⟨[],0⟩).bits.toNat:Int) - 1<s.n)):setE fs pre s=(0,[]):=by unfold setE;rw[if_neg h,if_neg h2,if_neg h3]
end
theorem wordI_long{fs:List Fd}{l:List SI}(h:12<l.length):wordI fs l=2:=if_pos h
theorem wordI_ok{fs:List Fd}{l:List SI}(h:¬ 12<l.length)(h2:(chkO fs).1=0):wordI fs l=(firstE (setE fs) [] l).1:=by unfold wordI;rw[if_neg h,if_neg (fun g=>g h2)]
theorem widd_split{l:List Fd}{k:Nat}{c:Fd}(hc:l[k]? = some c):wid (l.take k)+c.bits.toNat<=wid l:=by
 rw[<- wid_snoc hc,wid_app l (k+1)]
 omega
end Go.Proofs.YtcglkonooeddfaaGreatDoor
namespace Go.Proofs.YtcglkonooeddfaaGreatDoor
open Go Go.Vx Go.RowKit Go.Shelf Go.Proofs
theorem text_of{P:Program}{T:Tab}{f:FuncId}{ds:List D}{l:List UInt8}(hcall:∀ args w,(callFunc f args).run P w = .ok (.enter f args) w)
    (h:∀ (V:Vw) (w:World) (args:Array Value),VOk V w->args.size=ds.length->(∀ (j:Nat) v d,args[j]? = some v->ds[j]? = some d->RI (szOf T) V v d)->Calls P f args w fun q w'=>
     q = .returned (.string ⟨l.toArray⟩)/\Below w.heap.size w w') :
    FSpec P T f ds fun d _=>d = .s l:=by
 refine⟨hcall,fun V w args hV hl hR=>(h V w args hV hl hR).mono ?_⟩
 rintro q w' ⟨rfl,hb⟩
 exact⟨V,[],[],_,_,rfl,rfl,.imm _ _ (.s l),hb,fun _ _ h=>h,hV.ext hb,fun _ _=>rfl,rfl,by simp,by simp,by simp⟩
theorem below_gr(w:World)(n:Nat)(os:Array Obj):Below w.heap.size w (Sort.grow (w.drewN n) os):=by
 have h:(w.drewN n).heap=w.heap:=rfl
 refine⟨rfl,rfl,rfl,?_,fun k hk=>?_⟩
 . show w.heap.size<=(w.heap++os).size
   simp
 . show (w.heap++os)[k]? = _
   rw[Array.getElem?_append_left hk]
theorem pow10_gt{w:World}(h:GT w):Lib.TabIs Tryz.prog w "internal/strconv.uint64pow10" .u64 Lib.pow10Tab:=by
 obtain⟨_,a,b,hw⟩:=h 5 _ rfl
 unfold Lib.TabIs World.var?
 rw[show Tryz.prog.globalNamed "internal/strconv.uint64pow10" = some 5 from by kernel_rfl]
 simp only[Option.bind_some,hw]
 rfl
theorem itoa_ok:ItoaOk:=by
 intro n h0 h1
 refine text_of Tryz.call193 fun V w args hV hl hR=>?_
 have hl1:args.size=1:=hl
 have h2:args[0]? = some args[0]:=Array.getElem?_eq_getElem (by omega)
 have h3:args=#[.int .i64 n]:=by
  have:=int_arg (hR 0 _ _ h2 rfl)
  rw[this] at h2
  apply Array.ext'
  apply List.ext_getElem?
  intro i
  match i with
  | 0=>simpa using h2
  | i+1=>simp;omega
 subst h3
 refine (Any.strconv_Itoa Tryz.vxItoa n h0 h1 w (pow10_gt hV.1.2)).mono ?_
 rintro e w' ⟨rfl,k,os,rfl⟩
 exact⟨rfl,below_gr w k os⟩
end Go.Proofs.YtcglkonooeddfaaGreatDoor
namespace Go.Proofs.YtcglkonooeddfaaGreatDoor
open Go Go.Vx
set_option maxRecDepth 100000 in
set_option maxHeartbeats 16000000 in
theorem word_ok:WordOk:=by
 intro l r S r2 hch hS
 obtain⟨hlay,hl12⟩:=chk_lay hch
 have hSl:(S.map SI.row).length=S.length:=by simp
 have hll:(l.map frow).length=l.length:=by simp
 have hrc:=check_at l r (by omega)
 have hw:=wid_le hlay
 have hrw:=width_at l r (by omega) hlay
 have hxs:=xrep_at (wid l) (by omega)
 have hxl:(xsT (wid l)).length=wid l:=by simp[xsT]
 rw[show chkO l=(0,(chkO l).2) from by rw[<- hch]] at hrc
 refine FSpec.of_ok tok Tryz.func257 rfl Tryz.call257 (by simp) ?_
 by_cases h12:12<S.length
 . (try (conv=>whnf));repeat' (first|refine Ok.seq ?_|((first|refine Ok.region tok ?_|refine Ok.cond ?_|refine Ok.ret ?_);conv=>whnf)|(refine bI ?_ ?_<;>intro<;>(conv=>whnf)<;>(try (exfalso;omega)))|fail)
   all_goals first
    | (exfalso;omega)
    | (refine Or.inl ?_;(conv=>whnf)
       exact⟨⟨_,by rw[wordI_long h12];rfl⟩,rfl⟩)
 (try (conv=>whnf));repeat' (first|refine Ok.seq ?_|((first|refine Ok.region tok ?_|refine Ok.cond ?_);conv=>whnf)|refine Ok.block ?_|(refine Ok.skip ?_;conv=>whnf)|(refine Or.inl ?_;(conv=>whnf);(repeat (refine aI ?_;conv=>whnf));refine⟨_,hrc,rfl,?_⟩;conv=>whnf)|(refine Or.inl ?_;(conv=>whnf);(repeat (refine aI ?_;conv=>whnf));refine⟨_,hrw,rfl,?_⟩;conv=>whnf)|(refine Or.inl ?_;(conv=>whnf);(repeat (refine aI ?_;conv=>whnf));refine⟨_,hxs,rfl,?_⟩;conv=>whnf)|(refine bI ?_ ?_<;>intro<;>(conv=>whnf)<;>(try (exfalso;omega)))|(refine aJ ?_;conv=>whnf)|fail)
 all_goals first
  | (exfalso;omega)
  | skip
 have hwI:=wordI_ok h12 hch
 rw[hxl]
 refine Ok.loopU [0,1,8,35,36] [37] 1 0 (fun (x:Nat × Str)=>[.i .i64 (x.1:Nat)]) (fun _ b=>b) (fun (x:Nat × Str) (_:Vx.Rows)=>[some (Nat.add 5 BIG,x.2.map bcell)]) (fun (x:Nat × Str)=>x.1<=S.length/\x.2.length=wid l/\wordI l S=(firstE (setE l) (S.take x.1) (S.drop x.1)).1) (fun (x:Nat × Str)=>S.length - x.1) ((0,xsT (wid l))) (⟨Nat.zero_le _,hxl,hwI⟩) ?_;(conv=>whnf);refine⟨by ((conv=>whnf);first|rfl|(simp[envCat, List.take_of_length_le, SI.row, Node.row, Pfx.row, Link.row, srow, Line.row, Rule.row, Box.row, Slc.row, Config.row, frow, bcell];done)|(simp[envCat, List.take_of_length_le, SI.row, Node.row, Pfx.row, Link.row, srow, Line.row, Rule.row, Box.row, Slc.row, Config.row, frow, bcell];rw[IntKind.wrap_i64];omega)),?_⟩
 rintro⟨i,w⟩ ⟨hi,hwl,hfe⟩
 dsimp only at hi hwl hfe ⊢
 have hwb:(w.map bcell).length=wid l:=by rw[List.length_map,hwl]
 (conv=>whnf)
 by_cases hil:i<S.length
 . obtain⟨s,hs⟩:∃ s,S[i]? = some s:=⟨_,List.getElem?_eq_getElem hil⟩
   have hsI:S[((i:Nat):Int).toNat]? = some s:=hs
   have hsR:(S.map SI.row)[((i:Nat):Int).toNat]? = some s.row:=by rw[List.getElem?_map,hsI];rfl
   have htp:=find_at l r s.s (by omega)
   by_cases hu:findI s.s l 0<0
   . rw[firstE_bad hs (by rw[setE_unk hu];simp),setE_unk hu] at hfe
     (try (conv=>whnf));repeat' (first|refine Ok.seq ?_|((first|refine Ok.region tok ?_|refine Ok.cond ?_);conv=>whnf)|refine Ok.block ?_|((first|refine Ok.skip ?_|refine Ok.ret ?_|refine ix _ (by assumption) ?_);conv=>whnf)|(refine Or.inl ?_;(conv=>whnf);(repeat (refine aI ?_;conv=>whnf));refine⟨_,htp,rfl,?_⟩;conv=>whnf)|(refine bI ?_ ?_<;>intro<;>(conv=>whnf)<;>(try (exfalso;omega)))|fail)
     all_goals first
      | (exfalso;omega)
      | (refine Or.inl ?_;(conv=>whnf)
         exact⟨⟨_,by rw[hfe];rfl⟩,rfl⟩)
   obtain⟨k,hk⟩:∃ k:Nat,findI s.s l 0=k:=⟨(findI s.s l 0).toNat,by omega⟩
   have hkl:k<l.length:=by have:=(findI_ge s.s l 0).2.2;omega
   obtain⟨f,hf⟩:∃ f,l[k]? = some f:=⟨_,List.getElem?_eq_getElem hkl⟩
   have hfI:l[((k:Nat):Int).toNat]? = some f:=hf
   have hfR:(l.map frow)[((k:Nat):Int).toNat]? = some (frow f):=by rw[List.getElem?_map,hfI];rfl
   have hfb:=hlay f (List.mem_of_getElem? hf)
   rw[hk] at htp
   have hws:=widd_split hf
   have hmt:((S.map SI.row++r2).take i).drop 0=(S.take i).map SI.row:=by rw[List.drop_zero,List.take_append_of_le_length (by omega),List.map_take]
   have hml:((S.take i).map SI.row).length=i:=by simp;omega
   (try (conv=>whnf));repeat' (first|refine Ok.seq ?_|((first|refine Ok.region tok ?_|refine Ok.cond ?_);conv=>whnf)|refine Ok.block ?_|((first|refine Ok.skip ?_|refine ix _ (by assumption) ?_);conv=>whnf)|(refine Or.inl ?_;(conv=>whnf);(repeat (refine aI ?_;conv=>whnf));refine⟨_,htp,rfl,?_⟩;conv=>whnf)|(refine⟨_,_,rfl,rfl,?_⟩;conv=>whnf)|(refine bI ?_ ?_<;>intro<;>(conv=>whnf)<;>(try (exfalso;omega)))|(refine aJ ?_;conv=>whnf)|fail)
   have hnu:¬ findI s.s l 0<0:=hu
   have hml2:(((S.map SI.row++r2).take i).drop 0).length=i:=by rw[hmt,hml]
   refine Ok.loopU [0,1,8,10,11,35,36,37,50,51] [52] 1 1 (fun (j:Nat)=>[.i .i64 (j:Nat)]) (fun _ b=>b) (fun _ r=>r) (fun (j:Nat)=>j<=i/\∀ (m:Nat) q,m<j->S[m]? = some q->q.s ≠ s.s) (fun (j:Nat)=>i - j) (0) (⟨Nat.zero_le _,fun m q hm=>absurd hm (by omega)⟩) ?_;(conv=>whnf);refine⟨by ((conv=>whnf);first|rfl|(simp[envCat, List.take_of_length_le, SI.row, Node.row, Pfx.row, Link.row, srow, Line.row, Rule.row, Box.row, Slc.row, Config.row, frow, bcell];done)|(simp[envCat, List.take_of_length_le, SI.row, Node.row, Pfx.row, Link.row, srow, Line.row, Rule.row, Box.row, Slc.row, Config.row, frow, bcell];rw[IntKind.wrap_i64];omega)),?_⟩
   rintro j ⟨hj,hall⟩
   (conv=>whnf)
   by_cases hji:j<i
   . obtain⟨q,hq⟩:∃ q,S[j]? = some q:=⟨_,List.getElem?_eq_getElem (by omega)⟩
     have hqI:S[((j:Nat):Int).toNat]? = some q:=hq
     have hqR:(((S.map SI.row++r2).take i).drop 0)[((j:Nat):Int).toNat]? = some q.row:=by
      rw[hmt]
      show ((S.take i).map SI.row)[j]? = _
      rw[List.getElem?_map,List.getElem?_take_of_lt hji,hq]
      rfl
     have hqm:q ∈ S.take i:=List.mem_of_getElem? (i:=j) (by rw[List.getElem?_take_of_lt hji];exact hq)
     (try (conv=>whnf));repeat' (first|refine Ok.seq ?_|((first|refine Ok.region tok ?_|refine Ok.cond ?_);conv=>whnf)|refine Ok.block ?_|((first|refine Ok.skip ?_|refine Ok.ret ?_|refine nI ?_|refine⟨_,by assumption,?_⟩);conv=>whnf)|(refine bI ?_ ?_<;>intro<;>(conv=>whnf)<;>(try (exfalso;omega)))|(refine aJ ?_;conv=>whnf)|fail)
     . rename_i he
       rw[firstE_bad hs (by rw[setE_dup hnu ⟨q,hqm,he⟩];simp),setE_dup hnu ⟨q,hqm,he⟩] at hfe
       refine Or.inl ?_;(conv=>whnf)
       exact⟨⟨_,by rw[hfe];rfl⟩,rfl⟩
     . rename_i he
       refine⟨j+1,by omega,⟨by omega,fun m x hm hx=>?_⟩,?_⟩
       . by_cases hmj:m=j
         . subst hmj;rw[hq] at hx;cases hx;exact he
         . exact hall m x (by omega) hx
       . (conv=>whnf)
         rfl
   obtain rfl:j=i:=by omega
   have hno:¬ ∃ t ∈ S.take j,t.s=s.s:=by
    rintro⟨q,hq,h⟩
    obtain⟨m,hm⟩:=List.getElem?_of_mem hq
    have hmj:m<j:=by have:=(List.getElem?_eq_some_iff.1 hm).1;rw[List.length_take] at this;omega
    rw[List.getElem?_take_of_lt hmj] at hm
    exact hall m q hmj hm h
   have hfb2:((l[(findI s.s l 0).toNat]?).getD ⟨[],0⟩).bits=f.bits:=by rw[hk,hfI];rfl
   obtain⟨B,hB⟩:∃ B:Nat,f.bits=B:=⟨f.bits.toNat,by omega⟩
   have hBt:f.bits.toNat=B:=by omega
   have htop:=top_at B (by omega)
   rw[<- hB] at htop
   have htw:(0:Int)<tw B:=by have:=tw_pos B;omega
   have htw2:=tw62 (k:=B) (by omega)
   by_cases hv:s.n<0\/(tw B:Int) - 1<s.n
   . have hb:=setE_val hnu hno (by rw[hfb2,hBt];exact hv)
     rw[firstE_bad hs (by rw[hb];simp),hb] at hfe
     (try (conv=>whnf));repeat' (first|refine Ok.seq ?_|((first|refine Ok.region tok ?_|refine Ok.region_draw tok follows (by kernel_rfl) ?_|refine Ok.cond ?_|refine Ok.exit ?_|refine Ok.ret ?_|refine ix _ (by assumption) ?_|refine⟨_,by assumption,?_⟩);conv=>whnf)|(refine bI ?_ ?_<;>intro<;>(conv=>whnf)<;>(try (exfalso;omega)))|(refine aJ ?_;conv=>whnf)|fail)
     all_goals first
      | (exfalso;omega)
      | (refine Or.inl ?_;(conv=>whnf)
         exact⟨⟨_,by rw[hfe];rfl⟩,rfl⟩)
   have hok:=setE_ok hnu hno (by rw[hfb2,hBt];exact hv)
   rw[firstE_ok hs (by rw[hok])] at hfe
   obtain⟨v,hvn⟩:∃ v:Nat,s.n=v:=⟨s.n.toNat,by omega⟩
   have hdg:=binary_at v B B (by omega) (by omega) (by omega)
   have hbl:=binT_len v B B
   rw[<- hB,<- hvn] at hdg
   have hws':wid (l.take k)+B<=wid l:=by omega
   have hmk:((l.map frow++r).take k).drop 0=(l.take k).map frow:=by rw[List.drop_zero,List.take_append_of_le_length (by omega),List.map_take]
   have hwd:=width_at (l.take k) ((l.map frow++r).drop k) (by rw[List.length_take];omega) (fun x hx=>hlay x (List.mem_of_mem_take hx))
   rw[<- hmk] at hwd
   (try (conv=>whnf));repeat' (first|refine Ok.seq ?_|((first|refine Ok.region tok ?_|refine Ok.region_plan (id:=22) tok follows [(7,10,[]),(4,10,[]),(7,11,[10]),(4,11,[5]),(10,11,[])] [.q 0,.q 1,.q 2,.q 3,.q 6,.q 7,.q 8,.q 9,.l 4,.q 5,.l 10,.l 11] (by kernel_rfl) ?_|refine Ok.region_draw tok follows (by kernel_rfl) ?_|refine Ok.cond ?_|refine Ok.skip ?_|refine Ok.exit ?_|refine nI ?_|refine ix _ (by assumption) ?_|refine⟨_,by assumption,?_⟩);conv=>whnf)|(refine Or.inl ?_;(conv=>whnf);(repeat (refine aI ?_;conv=>whnf));refine⟨_,hdg,rfl,?_⟩;conv=>whnf)|(refine Or.inl ?_;(conv=>whnf);(repeat (refine aI ?_;conv=>whnf));refine⟨_,hwd,rfl,?_⟩;conv=>whnf)|(refine⟨_,_,rfl,rfl,?_⟩;conv=>whnf)|(refine bI ?_ ?_<;>intro<;>(conv=>whnf)<;>(try (exfalso;omega)))|((first|refine aJ ?_|refine⟨_,rfl,?_⟩);conv=>whnf)|fail)
   refine⟨(j+1,w.take (wid (l.take k))++binT v B B++w.drop (wid (l.take k)+(binT v B B).length)),by dsimp only;omega,⟨by dsimp only;omega,by simp;omega,hfe⟩,?_⟩
   dsimp only
   rw[List.map_append,List.map_append,List.map_take,List.map_drop]
   (conv=>whnf)
   rfl
 . obtain rfl:i=S.length:=by omega
   rw[firstE_nil (by simp)] at hfe
   (try (conv=>whnf));repeat' (first|(refine⟨w,by rw[List.take_of_length_le (by omega)],?_⟩;conv=>whnf)|refine Ok.seq ?_|((first|refine Ok.region tok ?_|refine Ok.cond ?_|refine Ok.exit ?_|refine Ok.ret ?_);conv=>whnf)|(refine bI ?_ ?_<;>intro<;>(conv=>whnf)<;>(try (exfalso;omega)))|(refine aJ ?_;conv=>whnf)|fail)
   all_goals first
    | (exfalso;omega)
    | (refine Or.inl ?_;(conv=>whnf)
       exact⟨⟨_,by rw[hfe];rfl⟩,rfl⟩)
end Go.Proofs.YtcglkonooeddfaaGreatDoor
namespace Go.Proofs.YtcglkonooeddfaaGreatDoor
open Go Go.Vx
theorem munum_at(n:Int):FSpec Tryz.prog T 27 [.i .i64 n] (fun d _=>d = .i .i64 n):=by
 refine FSpec.of_ok tok Tryz.func27 rfl Tryz.call27 (by simp) ?_
 (try (conv=>whnf));repeat' (first|refine Ok.seq ?_|((first|refine Ok.region tok ?_|refine Ok.ret ?_);conv=>whnf)|fail)
 refine Or.inl ?_;(conv=>whnf)
 rfl
end Go.Proofs.YtcglkonooeddfaaGreatDoor
namespace Go.Proofs.YtcglkonooeddfaaGreatDoor
open Go Go.Vx
def tinyB:Box:=⟨[82],⟨[[97]],[]⟩,⟨[[98]],[]⟩,⟨[],[]⟩,⟨[],[]⟩,⟨[],[]⟩,⟨[],[]⟩⟩
def tinyC:Config:=⟨[],⟨[⟨[102],1⟩],[]⟩,[],False,⟨[tinyB],[]⟩,⟨[⟨[82,46,98],[82,46,97],3⟩],[]⟩,⟨[],[]⟩⟩
def noC0:Config:=⟨[],⟨[],[]⟩,[],False,⟨[],[]⟩,⟨[],[]⟩,⟨[],[]⟩⟩
theorem sok0{s:Str}(h:s.length<=9):SOk s:=by unfold SOk;omega
theorem iok0{n:Int}(h:0<=n/\n<=9):IOk n:=by unfold IOk;omega
theorem noC0_ok:noC0.Ok:=⟨by decide,by decide,by decide,by decide,fun b hb=>(by cases hb),fun s hs=>(by cases hs)⟩
theorem noC0_tx:noC0.Tx:=⟨sok0 (by decide),fun x h=>(by cases h),sok0 (by decide),fun x h=>(by cases h),fun x h=>(by cases h),fun x h=>(by cases h)⟩
theorem noC0_check:checkO noC0.b=(70,[]):=by
 have h:headO noC0.b=(70,[]):=by
  unfold headO
  rw[if_neg (by decide)]
  exact if_pos (Or.inr rfl)
 unfold checkO
 rw[orE_bad (by rw[h];decide),h]
theorem tinyC_ok:tinyC.Ok:=by
 refine⟨by decide,by decide,by decide,by decide,fun b hb=>?_,fun s hs=>(by cases hs)⟩
 rw[List.mem_singleton.1 hb]
 exact⟨by decide,by decide,by decide,by decide,by decide,by decide,fun g hg=>(by cases hg),fun r hr=>(by cases hr)⟩
theorem tinyC_tx:tinyC.Tx:=by
 refine⟨sok0 (by decide),fun x h=>?_,sok0 (by decide),fun x h=>?_,fun x h=>?_,fun x h=>(by cases h)⟩
 . rw[List.mem_singleton.1 h];exact⟨sok0 (by decide),iok0 (by decide)⟩
 . rw[List.mem_singleton.1 h]
   exact⟨sok0 (by decide),fun y hy=>by rw[List.mem_singleton.1 hy];exact sok0 (by decide),fun y hy=>by rw[List.mem_singleton.1 hy];exact sok0 (by decide),fun x h=>(by cases h),fun x h=>(by cases h),fun x h=>(by cases h),fun x h=>(by cases h)⟩
 . rw[List.mem_singleton.1 h];exact⟨sok0 (by decide),sok0 (by decide),iok0 (by decide)⟩
theorem name_one{b:UInt8}(hb:nameAt 0 b):NameP [b]:=by
 refine⟨by simp,by simp,fun i x h=>?_⟩
 cases i with
 | zero=>simp at h;subst h;exact hb
 | succ i=>simp at h
theorem rsv_long{s:Str}(h:Rsv s):2<=s.length:=by
 have:∀ x ∈ resvL,2<=x.length:=by decide
 exact this s h
theorem mname_one{b:UInt8}(hb:nameAt 0 b):MName [b]:=⟨name_one hb,fun h=>by have:=rsv_long h;simp at this⟩
theorem tiny_chk:chkO [⟨[102],1⟩]=(0,0):=by
 rw[chkO_of (by decide) (by decide),chkFrom_ok]
 . rfl
 . rintro (h|h|h|⟨g,hg,_⟩|h|h|h)
   . exact h (name_one (by left;unfold Ltr;decide))
   . simp at h
   . simp at h
   . simp at hg
   . simp at h
   . simp at h
   . simp at h
theorem tiny_head:headO tinyC.b=(0,[]):=by
 unfold headO
 have h1:fds tinyC.b.fields=[⟨[102],1⟩]:=rfl
 rw[if_neg (by decide),h1,tiny_chk,if_neg (by rintro (h|h)<;>simp[tinyC,Config.b] at h),if_neg (by simp)]
 have h2:firstE resvE [] tinyC.b.fields=(0,[]):=by
  show (if (resvE [] ⟨[102],1⟩).1 ≠ 0 then _ else (0,[]))=_
  rw[if_neg]
  unfold resvE
  rw[if_neg (fun h=>by have:=rsv_long h;simp at this)]
  simp
 rw[h2,orE_ok rfl,if_neg]
 rintro (⟨h,_⟩|⟨h,_⟩)
 . exact h rfl
 . exact h
theorem tiny_count:countO tinyC.b=(0,[]):=by
 rw[countO_if]
 simp[tinyC,tinyB,Config.b,Box.b,nPorts,nLines,nRules,nRoutes]
theorem firstE_one{α:Type}{f:List α->α->Er}{x:α}(h:f [] x=(0,[])):firstE f [] [x]=(0,[]):=by
 show (if (f [] x).1 ≠ 0 then f [] x else (0,[]))=_
 rw[h,if_neg (by simp)]
theorem firstE_two{α:Type}{f:List α->α->Er}{x y:α}(h:f [] x=(0,[]))(h2:f [x] y=(0,[])):firstE f [] [x,y]=(0,[]):=by
 show (if (f [] x).1 ≠ 0 then f [] x else if (f [x] y).1 ≠ 0 then f [x] y else (0,[]))=_
 rw[h,h2,if_neg (by simp),if_neg (by simp)]
theorem tiny_name:nameO tinyC.b=(0,[]):=by
 refine firstE_one ?_
 rw[boxE_ok (mname_one (by left;unfold Ltr;decide)) (by simp)]
 exact firstE_two (portE_ok (mname_one (by left;unfold Ltr;decide)) (by simp)) (portE_ok (mname_one (by left;unfold Ltr;decide)) (by simp))
theorem tiny_deed:deedO tinyC.b=(0,[]):=by
 refine firstE_one ?_
 show orE (0,[]) (orE (0,[]) (orE (0,[]) (0,[])))=_
 rw[orE_ok rfl,orE_ok rfl,orE_ok rfl]
theorem tiny_link:linkO tinyC.b=(0,[]):=by
 refine firstE_one ?_
 have h1:fullOut tinyC.b=[[82,46,98]]:=rfl
 have h2:fullIn tinyC.b=[[82,46,97]]:=rfl
 refine linkE_ok ?_ ?_ (by decide) (by rintro⟨y,hy,_⟩;cases hy)
 . rw[h1,h2,sidesI_one,sideE_ok (by simp) (by simp)];simp
 . rw[h1,h2,sidesI_one,sideE_ok (by simp) (by simp)];simp
theorem tiny_check:checkO tinyC.b=(0,[]):=by
 unfold checkO
 rw[tiny_head,tiny_count,tiny_name,tiny_deed,tiny_link,orE_ok rfl,orE_ok rfl,orE_ok rfl,orE_ok rfl,orE_ok rfl]
 rfl
theorem tiny_find:findP tinyC.b [82,46,98]=1:=by
 unfold findP
 rw[if_neg (by rw[tiny_check];simp),if_pos (by decide)]
 decide
set_option maxRecDepth 100000 in
set_option maxHeartbeats 4000000 in
theorem tiny_at:FSpec Tryz.prog T 54 [] (fun d rows=>rows=[]/\d = .agg tinyC.row):=by
 refine FSpec.of_ok tok Tryz.func54 rfl Tryz.call54 (by simp) ?_
 (try (conv=>whnf));repeat' (first|refine Ok.seq ?_|((first|refine Ok.region tok ?_|refine Ok.ret ?_);conv=>whnf)|fail)
 refine Or.inl ?_;(conv=>whnf)
 exact⟨rfl,rfl⟩
end Go.Proofs.YtcglkonooeddfaaGreatDoor
namespace Go.Proofs.YtcglkonooeddfaaGreatDoor
open Go Go.Vx
theorem mfind_q(c:Config)(hc:c.Ok)(ht:c.Tx)(s:Str):FSpec Tryz.prog T 28 [.agg c.row,.s s] (fun d _=>d = .i .i64 (findP c.b s)):=
 FSpecH.nil ((mFind_at word_ok itoa_ok c hc ht s).mono fun _ _ _ h=>h.1.1)
set_option maxHeartbeats 8000000 in
theorem mknown_b:FSpec Tryz.prog T 24 [] (fun d _=>d = .b True):=by
 have k1:=mcheck_at word_ok itoa_ok noC0 noC0_ok noC0_tx
 have k2:=mcheck_at word_ok itoa_ok tinyC tinyC_ok tinyC_tx
 have k3:=mfind_q tinyC tinyC_ok tinyC_tx [82,46,98]
 rw[noC0_check] at k1
 rw[tiny_check] at k2
 rw[tiny_find] at k3
 refine FSpec.of_ok tok Tryz.func24 rfl Tryz.call24 (by simp) ?_
 (try (conv=>whnf));repeat' (first|refine Ok.seq ?_|((first|refine Ok.region tok ?_|refine Ok.ret ?_);conv=>whnf)|(refine Or.inl ?_;(conv=>whnf);(repeat (refine aI ?_;conv=>whnf));refine⟨_,k1,rfl,?_⟩;conv=>whnf)|(refine Or.inl ?_;(conv=>whnf);(repeat (refine aI ?_;conv=>whnf));refine⟨_,k2,rfl,?_⟩;conv=>whnf)|(refine Or.inl ?_;(conv=>whnf);(repeat (refine aI ?_;conv=>whnf));refine⟨_,k3,rfl,?_⟩;conv=>whnf)|(refine Or.inl ?_;(conv=>whnf);(repeat (refine aI ?_;conv=>whnf));refine⟨_,munum_at 70,rfl,?_⟩;conv=>whnf)|(refine Or.inl ?_;(conv=>whnf);(repeat (refine aI ?_;conv=>whnf));refine⟨_,munum_at 0,rfl,?_⟩;conv=>whnf)|(refine Or.inr (Or.inl ?_);(conv=>whnf);(repeat (refine aI ?_;conv=>whnf));refine⟨_,tiny_at,?_⟩;rintro _ _ ⟨rfl,rfl⟩<;>(conv=>whnf))|(refine bI ?_ ?_<;>intro<;>(conv=>whnf)<;>(try (exfalso;omega)))|fail)
 all_goals first
  | exact absurd rfl (by assumption)
  | (refine Or.inl ?_;(conv=>whnf)
     exact congrArg D.b (propext ⟨fun _=>trivial,fun _=>rfl⟩))
theorem mknown_at:FSpec Tryz.prog T 24 [] (fun d _=>d = .tt):=mknown_b.tt trivial
end Go.Proofs.YtcglkonooeddfaaGreatDoor
namespace Go.Proofs.YtcglkonooeddfaaGreatDoor
open Go Go.Vx
theorem mports_bad(c:Config)(hc:c.Ok)(ht:c.Tx)(h0:(checkO c.b).1 ≠ 0) :
    FSpec Tryz.prog T 38 [.agg c.row] (fun d rows=>d = .tup [.lst 89 [] [],.i .i64 (checkO c.b).1]/\rows=[]):=by
 have hck:=mcheck_at word_ok itoa_ok c hc ht
 refine FSpec.of_ok tok Tryz.func38 rfl Tryz.call38 (by simp) ?_
 (try (conv=>whnf));repeat' (first|refine Ok.seq ?_|((first|refine Ok.region tok ?_|refine Ok.cond ?_|refine Ok.ret ?_);conv=>whnf)|(refine Or.inl ?_;(conv=>whnf);(repeat (refine aI ?_;conv=>whnf));refine⟨_,hck,rfl,?_⟩;conv=>whnf)|(refine bI ?_ ?_<;>intro<;>(conv=>whnf)<;>(try (exfalso;omega)))|fail)
 all_goals first
  | (exact absurd h0 (by assumption))
  | (refine Or.inl ?_;(conv=>whnf)
     exact⟨rfl,rfl⟩)
end Go.Proofs.YtcglkonooeddfaaGreatDoor
namespace Go.Proofs.YtcglkonooeddfaaGreatDoor
open Go Go.Vx
theorem check_zero{c:ConfigB}(h:(checkO c).1=0):checkO c=(0,[]):=by
 obtain⟨h0,h1,h2,h3,h4,h5⟩:=check_parts h
 unfold checkO
 rw[orE_ok h0,orE_ok h1,orE_ok h2,orE_ok h3,orE_ok h4]
 exact firstE_emp h5
end Go.Proofs.YtcglkonooeddfaaGreatDoor
namespace Go.Proofs.YtcglkonooeddfaaGreatDoor
open Go Go.Vx
theorem mright_at(c:Config)(hc:c.Ok)(ht:c.Tx):FSpec Tryz.prog T 25 [.agg c.row] (fun d _=>d = .b ((checkO c.b).1=0)):=by
 have r:=mcheck_at word_ok itoa_ok c hc ht
 refine FSpec.of_ok tok Tryz.func25 rfl Tryz.call25 (by simp) ?_
 by_cases h0:(checkO c.b).1=0
 . rw[check_zero h0] at r
   (try (conv=>whnf));repeat' (first|refine Ok.seq ?_|((first|refine Ok.region tok ?_|refine Ok.ret ?_);conv=>whnf)|(refine Or.inl ?_;(conv=>whnf);(repeat (refine aI ?_;conv=>whnf));refine⟨_,r,rfl,?_⟩;conv=>whnf)|(refine Or.inl ?_;(conv=>whnf);(repeat (refine aI ?_;conv=>whnf));refine⟨_,munum_at 0,rfl,?_⟩;conv=>whnf)|(refine bI ?_ ?_<;>intro<;>(conv=>whnf)<;>(try (exfalso;omega)))|fail)
   all_goals first
    | exact absurd rfl (by assumption)
    | (refine Or.inl ?_;(conv=>whnf)
       exact b_eq ⟨fun _=>h0,fun _=>by first|trivial|rfl|exact⟨rfl,rfl⟩⟩)
 . (try (conv=>whnf));repeat' (first|refine Ok.seq ?_|((first|refine Ok.region tok ?_|refine Ok.ret ?_);conv=>whnf)|(refine Or.inl ?_;(conv=>whnf);(repeat (refine aI ?_;conv=>whnf));refine⟨_,r,rfl,?_⟩;conv=>whnf)|(refine Or.inl ?_;(conv=>whnf);(repeat (refine aI ?_;conv=>whnf));refine⟨_,munum_at (checkO c.b).1,rfl,?_⟩;conv=>whnf)|(refine bI ?_ ?_<;>intro<;>(conv=>whnf)<;>(try (exfalso;omega)))|fail)
   all_goals first
    | exact absurd (by assumption) h0
    | (refine Or.inl ?_;(conv=>whnf)
       exact b_eq ⟨fun h=>h.elim,fun h=>h0 h⟩)
    | (refine Or.inl ?_;(conv=>whnf)
       exact b_eq ⟨fun h=>absurd h.1 h0,fun h=>absurd h h0⟩)
end Go.Proofs.YtcglkonooeddfaaGreatDoor
namespace Go.Proofs.YtcglkonooeddfaaGreatDoor
open Go Go.Vx
theorem medges_bad(c:Config)(hc:c.Ok)(ht:c.Tx)(h0:(checkO c.b).1 ≠ 0) :
    FSpec Tryz.prog T 41 [.agg c.row] (fun d rows=>d = .tup [.lst 97 [] [],.i .i64 (checkO c.b).1]/\rows=[]):=by
 have hck:=mcheck_at word_ok itoa_ok c hc ht
 refine FSpec.of_ok tok Tryz.func41 rfl Tryz.call41 (by simp) ?_
 (try (conv=>whnf));repeat' (first|refine Ok.seq ?_|((first|refine Ok.region tok ?_|refine Ok.cond ?_|refine Ok.ret ?_);conv=>whnf)|(refine Or.inl ?_;(conv=>whnf);(repeat (refine aI ?_;conv=>whnf));refine⟨_,hck,rfl,?_⟩;conv=>whnf)|(refine bI ?_ ?_<;>intro<;>(conv=>whnf)<;>(try (exfalso;omega)))|fail)
 all_goals first
  | (exact absurd h0 (by assumption))
  | (refine Or.inl ?_;(conv=>whnf)
     exact⟨rfl,rfl⟩)
end Go.Proofs.YtcglkonooeddfaaGreatDoor
namespace Go.Proofs.YtcglkonooeddfaaGreatDoor
open Go Go.Vx
theorem boxC_ok{x:Box}(h:x.Ok):(boxC x).Ok:=by
 refine⟨h.ins,h.outs,by simpa[boxC] using h.guards,by simpa[boxC] using h.rules,h.owns,h.routes,fun g hg=>?_,fun r hr=>?_⟩
 . obtain⟨y,hy,rfl⟩:=List.mem_map.1 hg
   exact⟨(h.line y hy).mtch⟩
 . obtain⟨y,hy,rfl⟩:=List.mem_map.1 hr
   have:=h.rule y hy
   exact⟨this.frm,this.mtch,this.sets,this.dst⟩
theorem boxC_tx{x:Box}(h:x.Tx):(boxC x).Tx:=by
 refine⟨h.name,h.ins,h.outs,fun g hg=>?_,fun r hr=>?_,h.owns,h.routes⟩
 . obtain⟨y,hy,rfl⟩:=List.mem_map.1 hg
   exact⟨(h.guards y hy).port,(h.guards y hy).mtch⟩
 . obtain⟨y,hy,rfl⟩:=List.mem_map.1 hr
   have:=h.rules y hy
   exact⟨this.prio,this.frm,this.mtch,this.sets,this.dst⟩
end Go.Proofs.YtcglkonooeddfaaGreatDoor
namespace Go.Vx
open Go.RowKit
section
variable {w0 w : World} {V0 : Fr} {V : Vw} {μ : List Nat} {ω : List Value} {box : List (List D)} {row : Rows} {P : Program} {T : Tab} {Q : Exit → St → Prop}
theorem bTy_u{cs:List D}{t:TypeId}(h:bTy cs t):bTy (cs.map fun _=>.u) t:=by
 cases cs with
 | nil=>exact h
 | cons c rest=>
  cases rest with
  | nil=>first|exact trivial|rfl|simp[bTy]
  | cons c2 rest=>first|exact trivial|rfl|simp[bTy]
theorem Mem.subBox{sz:TypeId->Nat}(h:Mem sz w0 V0 V μ ω box row w){r:Nat}{f:Nat->D}(hn:∀ m,noB [f m]=true)(hf:∀ m v,RS sz V μ ω v (.own r m)->RS sz V μ ω v (f m)) :
    Mem sz w0 V0 V μ ω (box.map fun c=>c.map (sub1F r f)) row w:=by
 refine { h with bl:=by simp[h.bl],hbox:=fun i g c' h1 h2=>?_ }
 simp only[List.getElem?_map,Option.map_eq_some_iff] at h2
 obtain⟨cs,hcs,rfl⟩:=h2
 obtain⟨us,t',a,b,c'',d,ty⟩:=h.hbox i g cs h1 hcs
 refine⟨us,t',a,by simpa using b,c'',fun j v d' e1 e2=>?_,bTy_sub hn ty⟩
 simp only[List.getElem?_map,Option.map_eq_some_iff] at e2
 obtain⟨d0,hd0,rfl⟩:=e2
 exact (d j v d0 e1 hd0).sub1 (fun _ _ h=>h) (fun _ _ _ h=>h) hf
theorem Mem.reCell{sz:TypeId->Nat}(h:Mem sz w0 V0 V μ ω box row w){r i j:Nat}{e:TypeId}{ys:List (List D)}{cs:List D}{d d':D}(hr:row[r]? = some (some (e,ys)))(hi:ys[i]? = some cs)(hj:cs[j]? = some d)
    (hd:∀ v,RI sz V v d->RI sz V v d'):Mem sz w0 V0 V μ ω box (row.set r (some (e,ys.set i (cs.set j d')))) w:=by
 have hrl:r<row.length:=(List.getElem?_eq_some_iff.1 hr).1
 have hil:i<ys.length:=(List.getElem?_eq_some_iff.1 hi).1
 have hjl:j<cs.length:=(List.getElem?_eq_some_iff.1 hj).1
 have own:∀ l g,Own μ ω (row.set r (some (e,ys.set i (cs.set j d')))) l g->Own μ ω row l g:=by
  intro l g hl
  cases l with
  | inl i=>exact hl
  | inr q=>
   obtain⟨u,y,h1,h2,h3⟩:=hl
   by_cases hq:q=r
   . subst hq
     exact⟨u,_,h1,hr,h3⟩
   . rw[List.getElem?_set_ne (Ne.symm hq)] at h2
     exact⟨u,y,h1,h2,h3⟩
 refine { h with rl:=by simp[h.rl],hrow:=fun q v e2 xs h1 h2=>?_,uniq:=fun l l' g a b=>h.uniq l l' g (own l g a) (own l' g b),new:=fun l g a=>h.new l g (own l g a),vmut:=fun p u l hp a=>h.vmut p u l hp (own l _ a),away:=fun x hx=>?_ }
 . by_cases hq:q=r
   . subst hq
     rw[List.getElem?_set_self hrl] at h2
     cases h2
     obtain⟨vals,a,b,c,f⟩:=h.hrow q v e ys h1 hr
     refine⟨vals,by simpa using a,b,fun k rw_ hk=>?_,fun k rw_ m x hk hm=>?_⟩
     . by_cases hki:i=k
       . subst hki
         rw[List.getElem?_set_self hil] at hk
         cases hk
         simpa using c i cs hi
       . rw[List.getElem?_set_ne hki] at hk
         exact c k rw_ hk
     . by_cases hki:i=k
       . subst hki
         rw[List.getElem?_set_self hil] at hk
         cases hk
         by_cases hmj:j=m
         . subst hmj
           rw[List.getElem?_set_self hjl] at hm
           cases hm
           obtain⟨u,hu,hR⟩:=f i cs j d hi hj
           exact⟨u,hu,hd u hR⟩
         . rw[List.getElem?_set_ne hmj] at hm
           exact f i cs m x hi hm
       . rw[List.getElem?_set_ne hki] at hk
         exact f k rw_ m x hk hm
   . rw[List.getElem?_set_ne (Ne.symm hq)] at h2
     exact h.hrow q v e2 xs h1 h2
 . obtain⟨a,b,c,d1,e1⟩:=h.away x hx
   exact⟨a,b,fun l hl=>c l (own l _ hl),d1,e1⟩
theorem Ok.rawE(hT:TOk P T){c:Code}{env:List (Nat × D)}{nn:Nat}(r t1:Nat){e:TypeId}{ti:TI}{n:Nat}{xs:List (List D)}(hti:T e=some ti)(hr:row[r]? = some (some (e,xs)))(hn:xs.length=n)
    (hnil:xs=[]->subE r (fun _=>.rnl) env fun env=>subB r (fun _=>.rnl) box fun box=>Ok P T c Q ⟨env,box,row,nn⟩)
    (hs:∀ g cap,n<=cap->subE r (fun m=>.rsl g m cap) env fun env=>subB r (fun m=>.rsl g m cap) box fun box=>Ok P T c Q ⟨(t1,.tie r g n cap) :: env,box,row,nn⟩) :
    Ok P T c Q ⟨env,box,row,nn⟩:=by
 subst hn
 simp only[subE_eq,subB_eq] at hnil hs
 refine⟨fun w0 F V μ ω a w hS=>?_⟩
 have hM:=hS.mem
 dsimp only at hM
 have hlt:r<ω.length:=by rw[hM.rl];exact (List.getElem?_eq_some_iff.1 hr).1
 have hω:=List.getElem?_eq_getElem hlt
 obtain⟨A2,c2,vx,e1,hc,hmx,hA,hA2,hown,hR⟩:=hM.rowShape (hT _ _ hti).small hω hr
 rw[e1] at hω hown
 rcases hown.2 with⟨h1,h2⟩|⟨g2,cap2,cur,h1,hb,hh,q1,q2,q3,q4⟩
 . have hx:xs=[]:=List.eq_nil_of_length_eq_zero h2
   subst hx
   cases h1
   have hf:∀ m v,RS (szOf T) V μ ω v (.own r m)->RS (szOf T) V μ ω v .rnl:=by
    intro m v hv
    obtain⟨A,N,cx,k1,k2,rfl⟩:=hv.own_
    rw[hω] at k1
    cases k1
    obtain rfl:m=0:=by simpa using k2
    exact .imm _ _ .rnl
   refine (hnil rfl).run w0 F V μ ω a w ⟨hS.tmps,hS.defers,fun t=>?_,hM.subBox (fun _=>rfl) hf⟩
   show RS _ _ _ _ _ (look (env.map fun x=>(x.1,subDF r (fun _=>.rnl) x.2)) t)
   rw[look_sub]
   exact (hS.env t).sub (fun _ _ h=>h) (fun _ _ _ h=>h) hf
 . cases h1
   have hf:∀ m v,RS (szOf T) V μ ω v (.own r m)->RS (szOf T) V μ ω v (.rsl g2 m c2):=by
    intro m v hv
    obtain⟨A,N,cx,k1,k2,rfl⟩:=hv.own_
    rw[hω] at k1
    cases k1
    exact .imm _ _ (.rsl _ _ _)
   refine (hs g2 c2 q1).run w0 F V μ ω a w ⟨hS.tmps,hS.defers,fun t=>?_,hM.subBox (fun _=>rfl) hf⟩
   show RS _ _ _ _ _ (look ((t1,_) :: env.map fun x=>(x.1,subDF r (fun m=>.rsl g2 m c2) x.2)) t)
   unfold look
   split
   . exact .tie _ _ _ _ _ hω
   . rw[look_sub]
     exact (hS.env t).sub (fun _ _ h=>h) (fun _ _ _ h=>h) hf
theorem Ok.pubT{c:Code}{env:List (Nat × D)}{nn:Nat}(t0 r2 i j:Nat){r g n cap m:Nat}{e e2:TypeId}{xs ys:List (List D)}{cs:List D}(ht:look env t0 = .tie r g n cap)(hr:row[r]? = some (some (e,xs)))
    (hr2:row[r2]? = some (some (e2,ys)))(hne:r ≠ r2)(hi:ys[i]? = some cs)(hj:cs[j]? = some (.rsl g m cap))(hm:m<=n)
    (h:subE r (fun m=>.lst e (xs.take m) (xs.drop m)) env fun env=>subB r (fun m=>.lst e (xs.take m) (xs.drop m)) box fun box=>setK row r none fun row=>setK row r2 (some (e2,ys.set i (cs.set j (.lst e (xs.take m) (xs.drop m))))) fun row=>Ok P T c Q ⟨env,box,row,nn⟩) :
    Ok P T c Q ⟨env,box,row,nn⟩:=by
 refine⟨fun w0 F V μ ω a w hS=>?_⟩
 have hv:=hS.env t0
 dsimp only at hv
 rw[ht] at hv
 have hω:=hv.tie_
 obtain⟨V',hle,hM,hconv⟩:=hS.mem.pub hω hr
 simp only[subE_eq,subB_eq] at h
 obtain⟨_,h⟩:=setK_iff _ _ _ _ h
 obtain⟨_,h⟩:=setK_iff _ _ _ _ h
 have hri:RI (szOf T) V' (.slice (some ⟨g,0,none⟩) m cap) (.lst e (xs.take m) (xs.drop m)):=immD_ri (hconv m _ (.own r m _ n cap hω hm)) rfl
 refine h.run w0 F V' μ ω a w ⟨hS.tmps,hS.defers,fun t=>?_,hM.reCell (by rw[List.getElem?_set_ne hne];exact hr2) hi hj fun v hd=>?_⟩
 . show RS _ _ _ _ _ (look (env.map fun x=>(x.1,subDF r (fun m=>.lst e (xs.take m) (xs.drop m)) x.2)) t)
   rw[look_sub]
   exact (hS.env t).sub hle (fun _ _ _ h=>h) hconv
 . cases hd
   exact hri
inductive RawL(q n:Nat)(xs:List (List D)):D->D->Prop
 | nil (h:xs=[]):RawL q n xs .rnl .u
 | raw (g cap:Nat) (h:xs.length=n):RawL q n xs (.rsl g n cap) (.tie q g n cap)
theorem Ok.pubL{c:Code}{env:List (Nat × D)}{nn:Nat}(t0 r r2 i j:Nat){n:Nat}{e e2:TypeId}{xs ys:List (List D)}{cs:List D}{d t:D}(hL:RawL r n xs d t)(ht:look env t0=t)(hr:row[r]? = some (some (e,xs)))
    (hr2:row[r2]? = some (some (e2,ys)))(hne:r ≠ r2)(hi:ys[i]? = some cs)(hj:cs[j]? = some d)
    (h:subE r (fun m=>.lst e (xs.take m) (xs.drop m)) env fun env=>subB r (fun m=>.lst e (xs.take m) (xs.drop m)) box fun box=>setK row r none fun row=>setK row r2 (some (e2,ys.set i (cs.set j (.lst e xs [])))) fun row=>Ok P T c Q ⟨env,box,row,nn⟩) :
    Ok P T c Q ⟨env,box,row,nn⟩:=by
 cases hL with
 | nil h0=>
  subst h0
  refine⟨fun w0 F V μ ω a w hS=>?_⟩
  have hM:=hS.mem
  dsimp only at hM
  have hlt:r<ω.length:=by rw[hM.rl];exact (List.getElem?_eq_some_iff.1 hr).1
  obtain⟨V',hle,hM,hconv⟩:=hM.pub (List.getElem?_eq_getElem hlt) hr
  simp only[subE_eq,subB_eq] at h
  obtain⟨_,h⟩:=setK_iff _ _ _ _ h
  obtain⟨_,h⟩:=setK_iff _ _ _ _ h
  refine h.run w0 F V' μ ω a w ⟨hS.tmps,hS.defers,fun t=>?_,hM.reCell (by rw[List.getElem?_set_ne hne];exact hr2) hi hj fun v hd=>?_⟩
  . show RS _ _ _ _ _ (look (env.map fun x=>(x.1,subDF r _ x.2)) t)
    rw[look_sub]
    exact (hS.env t).sub hle (fun _ _ _ h=>h) hconv
  . cases hd
    exact RI.lst e [] [] none ⟨0,0,none⟩ 0 (fun _ _=>undef) (by simp) (by unfold maxLen;omega) (by simp) (by simp) (by simp) (by simp) (by simp)
 | raw g cap hn=>
  subst hn
  refine Ok.pubT t0 r2 i j ht hr hr2 hne hi hj (Nat.le_refl _) ?_
  rw[List.take_length,List.drop_length]
  exact h
theorem Ok.loopV{s:St}{c:Code}{ι:Type}(L Cs:List Nat)(k:ι->Nat)(kb:Nat)(C:ι->List D)(B:ι->List (List D)->List (List D))(R:ι->Rows->Rows)(I:ι->Prop)(m:ι->Nat)(x0:ι)(h0:I x0)
    (h:keepK L (k x0) kb s fun s0=>match s0 with
     | ⟨env,box,row,n⟩=>(keepK (catL Cs L) (k x0) kb s fun s1=>s1=⟨envCat Cs (C x0) env,B x0 box,R x0 row,n⟩) /\
      ∀ x,I x->envCatK Cs (C x) env fun env'=>Ok P T c (thenQ (fun s'=>∃ x',m x' < m x/\I x'/\keepK (catL Cs L) (k x') kb s' fun s1=>s1=⟨envCat Cs (C x') env,B x' box,R x' row,n⟩) Q) ⟨env',B x box,R x row,n⟩):Ok P T (.loop c) Q s:=by
 obtain⟨⟨env,box,row,n⟩,h1,h2⟩:=keepK_some h
 refine⟨fun w0 V0 V μ ω a w hS=>?_⟩
 obtain⟨s',μ',ω',rfl,hS'⟩:=keepK_sound hS h1
 refine wp_loop_at (fun n' a w=>∃ x V μ ω,m x=n'/\I x/\Sim (szOf T) w0 V0 V μ ω ⟨envCat Cs (C x) env,B x box,R x row,n⟩ a w) ?_ ⟨x0,V,μ',ω',rfl,h0,hS'⟩
 rintro n' a w ⟨x,V,μ,ω,rfl,hI,hS⟩
 have round:=h2 x hI
 rw[envCatK_eq] at round
 refine wp_mono (round.run w0 V0 V μ ω a w hS) ?_
 rintro e a' w' ⟨s',V',μ',ω',hk,hS'⟩
 cases e with
 | normal=>
  obtain⟨x',hlt,hI',hk⟩:=hk
  obtain⟨s2,μ2,ω2,rfl,hS2⟩:=keepK_sound hS' hk
  exact⟨m x',hlt,x',V',μ2,ω2,rfl,hI',hS2⟩
 | _=>exact⟨s',V',μ',ω',hk,hS'⟩
theorem Ok.boxU{c:Code}(i:Nat){env:List (Nat × D)}{nn:Nat}{cs:List D}(hi:box[i]? = some cs)(h:Ok P T c Q ⟨env,box.set i (cs.map fun _=>.u),row,nn⟩):Ok P T c Q ⟨env,box,row,nn⟩:=by
 refine⟨fun w0 F V μ ω a w hS=>?_⟩
 have hM:=hS.mem
 dsimp only at hM
 have hil:=(List.getElem?_eq_some_iff.1 hi).1
 refine h.run w0 F V μ ω a w ⟨hS.tmps,hS.defers,hS.env,{ hM with bl:=by simpa using hM.bl,hbox:=fun q g c' h1 h2=>?_ }⟩
 by_cases hq:i=q
 . subst hq
   rw[List.getElem?_set_self hil] at h2
   cases h2
   obtain⟨us,t',a,b,c'',d,ty⟩:=hM.hbox i g cs h1 hi
   refine⟨us,t',a,by simpa using b,c'',fun j v d' e1 e2=>?_,bTy_u ty⟩
   simp only[List.getElem?_map,Option.map_eq_some_iff] at e2
   obtain⟨_,_,rfl⟩:=e2
   exact .imm _ _ (.u _)
 . rw[List.getElem?_set_ne hq] at h2
   exact hM.hbox q g c' h1 h2
theorem Ok.tab{s:St}{c:Code}(T':Tab)(hT:szOf T'=szOf T)(h:Ok P T' c Q s):Ok P T c Q s:=⟨by rw[<- hT];exact h.run⟩
theorem Ok.boxRe{c:Code}(i j:Nat){env:List (Nat × D)}{nn:Nat}{cs:List D}{d:D}{p:Prop}(hi:box[i]? = some cs)(hj:cs[j]? = some d)(hd:∀ (V:Vw) (μ:List Nat) (ω:List Value) (v:Value),RS (szOf T) V μ ω v d->RS (szOf T) V μ ω v (.b p))
    (h:Ok P T c Q ⟨env,box.set i (cs.set j (.b p)),row,nn⟩):Ok P T c Q ⟨env,box,row,nn⟩:=by
 refine⟨fun w0 F V μ ω a w hS=>?_⟩
 have hM:=hS.mem
 dsimp only at hM
 have hil:=(List.getElem?_eq_some_iff.1 hi).1
 have hjl:=(List.getElem?_eq_some_iff.1 hj).1
 refine h.run w0 F V μ ω a w ⟨hS.tmps,hS.defers,hS.env,{ hM with bl:=by simpa using hM.bl,hbox:=fun q g c' h1 h2=>?_ }⟩
 by_cases hq:i=q
 . subst hq
   rw[List.getElem?_set_self hil] at h2
   cases h2
   obtain⟨us,t',a,b,c'',k,ty⟩:=hM.hbox i g cs h1 hi
   refine⟨us,t',a,by simpa using b,c'',fun m v d' e1 e2=>?_,?_⟩
   . by_cases hm:j=m
     . subst hm
       rw[List.getElem?_set_self hjl] at e2
       cases e2
       exact hd _ _ _ _ (k j v d e1 hj)
     . rw[List.getElem?_set_ne hm] at e2
       exact k m v d' e1 e2
   . cases cs with
     | nil=>exact ty
     | cons c0 rest=>
      cases j with
      | zero=>exact trivial
      | succ j=>cases c0<;>first|exact trivial|exact ty
 . rw[List.getElem?_set_ne hq] at h2
   exact hM.hbox q g c' h1 h2
theorem Ok.boxT{c:Code}(i j:Nat){env:List (Nat × D)}{nn:Nat}{cs:List D}(hi:box[i]? = some cs)(hj:cs[j]? = some .tt)(h:Ok P T c Q ⟨env,box.set i (cs.set j (.b True)),row,nn⟩):Ok P T c Q ⟨env,box,row,nn⟩:=
 Ok.boxRe i j hi hj (fun _ _ _ _ h=>by rw[h.tt_];exact .imm _ _ (.b _ _ (by simp))) h
theorem Ok.boxF{c:Code}(i j:Nat){env:List (Nat × D)}{nn:Nat}{cs:List D}(hi:box[i]? = some cs)(hj:cs[j]? = some .ff)(h:Ok P T c Q ⟨env,box.set i (cs.set j (.b False)),row,nn⟩):Ok P T c Q ⟨env,box,row,nn⟩:=
 Ok.boxRe i j hi hj (fun _ _ _ _ h=>by rw[h.ff_];exact .imm _ _ (.b _ _ (by simp))) h
end
end Go.Vx
namespace Go.Proofs.YtcglkonooeddfaaGreatDoor
open Go Go.Vx
open Classical
theorem orE_both{a b:Er}(h:(orE a b).1=0):a.1=0/\b.1=0:=by
 by_cases ha:a.1=0
 . exact⟨ha,by rwa [orE_ok ha] at h⟩
 . rw[orE_bad ha] at h
   exact absurd h ha
section
variable {α β : Type} {f : List α → α → Er} {l : List α}
theorem firstE_go{i:Nat}(h:∀ (k:Nat) x,k<i->l[k]? = some x->(f (l.take k) x).1=0)(hi:i<=l.length):firstE f [] l=firstE f (l.take i) (l.drop i):=by
 induction i with
 | zero=>rfl
 | succ i ih=>
  obtain⟨x,hx⟩:∃ x,l[i]? = some x:=⟨_,List.getElem?_eq_getElem (by omega)⟩
  rw[ih (fun k x hk=>h k x (by omega)) (by omega),firstE_ok hx (h i x (by omega) hx)]
theorem firstE_hit{i:Nat}{y:α}(h:∀ (k:Nat) x,k<i->l[k]? = some x->(f (l.take k) x).1=0)(hy:l[i]? = some y)(hb:(f (l.take i) y).1 ≠ 0):firstE f [] l=f (l.take i) y:=by
 rw[firstE_go h (Nat.le_of_lt (List.getElem?_eq_some_iff.1 hy).1),firstE_bad hy hb]
theorem firstE_none(h:∀ (k:Nat) x,l[k]? = some x->(f (l.take k) x).1=0):firstE f [] l=(0,[]):=by
 rw[firstE_go (fun k x _=>h k x) (Nat.le_refl _),firstE_nil (Nat.le_refl _)]
theorem firstE_last{y:α}(h:(firstE f [] l).1=0)(hb:(f l y).1 ≠ 0):firstE f [] (l++[y])=f l y:=by
 have e:(l++[y]).take l.length=l:=by simp
 have:=firstE_hit (f:=f) (l:=l++[y]) (i:=l.length) (y:=y) (fun k x hk hx=>by
  rw[List.getElem?_append_left hk] at hx
  rw[List.take_append_of_le_length (by omega)]
  exact firstE_zero h k x hx) (by simp) (by rw[e];exact hb)
 rwa [e] at this
theorem firstE_set{i:Nat}{b y:α}(h:(firstE f [] l).1=0)(hi:l[i]? = some b)(hb:(f (l.take i) y).1 ≠ 0):firstE f [] (l.set i y)=f (l.take i) y:=by
 have hil:=(List.getElem?_eq_some_iff.1 hi).1
 have e:∀ k,k<=i->(l.set i y).take k=l.take k:=fun k hk=>by
  rw[List.take_set_of_le hk]
 have:=firstE_hit (f:=f) (l:=l.set i y) (i:=i) (y:=y) (fun k x hk hx=>by
  rw[List.getElem?_set_ne (by omega)] at hx
  rw[e k (by omega)]
  exact firstE_zero h k x hx) (List.getElem?_set_self hil) (by rw[e i (Nat.le_refl _)];exact hb)
 rwa [e i (Nat.le_refl _)] at this
theorem firstE_map{κ:α->β}{F:List β->β->Er}:firstE (fun pre x=>F (pre.map κ) (κ x)) [] l=firstE F [] (l.map κ):=by
 have key:∀ (l pre:List α),firstE (fun pre x=>F (pre.map κ) (κ x)) pre l=firstE F (pre.map κ) (l.map κ):=by
  intro l
  induction l with
  | nil=>intro pre;rfl
  | cons x l ih=>
   intro pre
   rw[List.map_cons]
   unfold firstE
   rw[ih,List.map_append,List.map_cons,List.map_nil]
 exact key l []
theorem map_same{κ:α->β}{i:Nat}{a a':α}(h:l[i]? = some a)(hf:κ a'=κ a):(l.set i a').map κ=l.map κ:=by
 apply List.ext_getElem?
 intro q
 rw[List.getElem?_map,List.getElem?_map]
 by_cases hq:i=q
 . subst hq
   rw[List.getElem?_set_self (List.getElem?_eq_some_iff.1 h).1,h]
   exact congrArg some hf
 . rw[List.getElem?_set_ne hq]
theorem sum_set{g:α->Nat}{i:Nat}{a a':α}(h:l[i]? = some a):((l.set i a').map g).sum+g a=(l.map g).sum+g a':=by
 induction l generalizing i with
 | nil=>simp at h
 | cons x l ih=>
  cases i with
  | zero=>simp at h;subst h;simp;omega
  | succ i=>
   have:=ih (i:=i) (by simpa using h)
   simp only[List.set_cons_succ,List.map_cons,List.sum_cons]
   omega
end
theorem cnt_zero{c:ConfigB}:(countO c).1=0 ↔ c.boxes.length<=16/\nPorts c.boxes<=48/\nLines c.boxes<=64/\nRules c.boxes<=64/\nRoutes c.boxes<=64/\c.links.length<=48/\c.slices.length<=8:=by
 constructor
 . intro h
   have k:=firstE_zero h
   have e:∀ (j:Nat) (x:Nat × Nat × Str),(cntL c)[j]? = some x->x.1<=x.2.1:=fun j x hx=>by
    have:=k j x hx
    unfold cntE at this
    split at this
    . cases this
    . omega
   exact⟨e 0 _ rfl,e 1 _ rfl,e 2 _ rfl,e 3 _ rfl,e 4 _ rfl,e 5 _ rfl,e 6 _ rfl⟩
 . rintro⟨h0,h1,h2,h3,h4,h5,h6⟩
   unfold countO
   rw[firstE_none]
   intro k x hx
   unfold cntE
   rw[if_neg]
   match k with
   | 0=>cases hx;dsimp only;omega
   | 1=>cases hx;dsimp only;omega
   | 2=>cases hx;dsimp only;omega
   | 3=>cases hx;dsimp only;omega
   | 4=>cases hx;dsimp only;omega
   | 5=>cases hx;dsimp only;omega
   | 6=>cases hx;dsimp only;omega
   | k+7=>simp[cntL] at hx
abbrev Key:=Str × List Str × List Str
def keyB(b:BoxB):Key:=(b.name,b.ins,b.outs)
noncomputable def bxKey(pre:List Key)(b:Key):Er:=
 if ¬ MName b.1 then (36,b.1) else if ∃ x ∈ pre,x.1=b.1 then (72,b.1) else firstE (portE b.1) [] (b.2.1++b.2.2)
theorem boxE_key(pre:List BoxB)(b:BoxB):boxE pre b=bxKey (pre.map keyB) (keyB b):=by
 have e:(∃ x ∈ pre.map keyB,x.1=(keyB b).1) ↔ ∃ x ∈ pre,x.name=b.name:=by
  constructor
  . rintro⟨x,hx,h⟩
    obtain⟨y,hy,rfl⟩:=List.mem_map.1 hx
    exact⟨y,hy,h⟩
  . rintro⟨y,hy,h⟩
    exact⟨_,List.mem_map.2 ⟨y,hy,rfl⟩,h⟩
 unfold boxE bxKey
 simp only[e]
 rfl
theorem nameO_key(c:ConfigB):nameO c=firstE bxKey [] (c.boxes.map keyB):=by
 unfold nameO
 rw[show (boxE:List BoxB->BoxB->Er)=fun pre b=>bxKey (pre.map keyB) (keyB b) from funext fun pre=>funext fun b=>boxE_key pre b]
 exact firstE_map
section
variable {c : ConfigB}
theorem at_head(h:(headO c).1 ≠ 0):checkO c=headO c:=orE_bad h
theorem at_name(h0:(headO c).1=0)(h1:(countO c).1=0)(h:(nameO c).1 ≠ 0):checkO c=nameO c:=by
 unfold checkO
 rw[orE_ok h0,orE_ok h1,orE_bad h]
theorem at_deed(h0:(headO c).1=0)(h1:(countO c).1=0)(h2:(nameO c).1=0)(h:(deedO c).1 ≠ 0):checkO c=deedO c:=by
 unfold checkO
 rw[orE_ok h0,orE_ok h1,orE_ok h2,orE_bad h]
theorem at_link(h0:(headO c).1=0)(h1:(countO c).1=0)(h2:(nameO c).1=0)(h3:(deedO c).1=0)(h:(linkO c).1 ≠ 0):checkO c=linkO c:=by
 unfold checkO
 rw[orE_ok h0,orE_ok h1,orE_ok h2,orE_ok h3,orE_bad h]
theorem at_slice(h0:(headO c).1=0)(h1:(countO c).1=0)(h2:(nameO c).1=0)(h3:(deedO c).1=0)(h4:(linkO c).1=0):checkO c=sliceO c:=by
 unfold checkO
 rw[orE_ok h0,orE_ok h1,orE_ok h2,orE_ok h3,orE_ok h4]
end
def putB(c:ConfigB)(i:Nat)(b:BoxB):ConfigB:={ c with boxes:=c.boxes.set i b }
def sliceW:Str:=[115,108,105,99,101]
theorem cnt_put{c:ConfigB}{i:Nat}{b b':BoxB}(h1:(countO c).1=0)(hb:c.boxes[i]? = some b)(hp:nPorts c.boxes+(b'.ins.length+b'.outs.length)<=48+(b.ins.length+b.outs.length))
    (hg:nLines c.boxes+b'.guards.length<=64+b.guards.length)(hr:nRules c.boxes+b'.rules.length<=64+b.rules.length)(ho:nRoutes c.boxes+(b'.owns.length+b'.routes.length)<=64+(b.owns.length+b.routes.length)):(countO (putB c i b')).1=0:=by
 obtain⟨k0,k1,k2,k3,k4,k5,k6⟩:=cnt_zero.1 h1
 have e1:=sum_set (g:=fun b=>b.ins.length+b.outs.length) (a':=b') hb
 have e2:=sum_set (g:=fun b=>b.guards.length) (a':=b') hb
 have e3:=sum_set (g:=fun b=>b.rules.length) (a':=b') hb
 have e4:=sum_set (g:=fun b=>b.owns.length+b.routes.length) (a':=b') hb
 refine cnt_zero.2 ⟨by simpa[putB] using k0,?_,?_,?_,?_,k5,k6⟩
 . show nPorts (c.boxes.set i b')<=48
   unfold nPorts at *
   omega
 . show nLines (c.boxes.set i b')<=64
   unfold nLines at *
   omega
 . show nRules (c.boxes.set i b')<=64
   unfold nRules at *
   omega
 . show nRoutes (c.boxes.set i b')<=64
   unfold nRoutes at *
   omega
theorem keys_put{c:ConfigB}{i:Nat}{b b':BoxB}(hb:c.boxes[i]? = some b)(hk:keyB b'=keyB b):(putB c i b').boxes.map keyB=c.boxes.map keyB:=map_same hb hk
theorem names_put{c:ConfigB}{i:Nat}{b b':BoxB}(hb:c.boxes[i]? = some b)(hk:keyB b'=keyB b):nameO (putB c i b')=nameO c:=by rw[nameO_key,nameO_key,keys_put hb hk]
theorem notName_slice:¬ MName sliceW:=fun h=>h.2 (by unfold Rsv resvL sliceW;simp)
theorem at_nameP{c:ConfigB}{i:Nat}{b':BoxB}{x:Er}(h0:(headO c).1=0)(h:nameO (putB c i b')=x)(hx:x.1 ≠ 0)(h1:(countO (putB c i b')).1=0):checkO (putB c i b')=x:=by
 rw[at_name (c:=putB c i b') h0 h1 (by rw[h];exact hx),h]
section
theorem mar0{c:ConfigB}{i:Nat}{b:BoxB}(h:(checkO c).1=0)(hb:c.boxes[i]? = some b):checkO (putB c i { b with name:=sliceW })=(36,sliceW):=by
 obtain⟨h0,h1,h2,_⟩:=check_parts h
 obtain⟨k0,k1,k2,k3,k4,k5,k6⟩:=cnt_zero.1 h1
 have e:boxE (c.boxes.take i) { b with name:=sliceW }=(36,sliceW):=if_pos notName_slice
 have e2:nameO (putB c i { b with name:=sliceW })=(36,sliceW):=(firstE_set h2 hb (by rw[e];decide)).trans e
 exact at_nameP h0 e2 (by dsimp only;omega) (cnt_put h1 hb (by dsimp only;omega) (by dsimp only;omega) (by dsimp only;omega) (by dsimp only;omega))
theorem box_ok{c:ConfigB}{i:Nat}{b:BoxB}(h:(checkO c).1=0)(hb:c.boxes[i]? = some b):MName b.name/\(firstE (portE b.name) [] (b.ins++b.outs)).1=0:=by
 have h0:=firstE_zero (check_parts h).2.2.1 i b hb
 unfold boxE at h0
 split at h0
 . cases h0
 rename_i k1
 split at h0
 . cases h0
 exact⟨Classical.not_not.1 k1,h0⟩
theorem mar1{c:ConfigB}{i:Nat}{b:BoxB}(h:(checkO c).1=0)(hb:c.boxes[i]? = some b){b0:BoxB}(hi:i ≠ 0)(h00:c.boxes[0]? = some b0):checkO (putB c i { b with name:=b0.name })=(72,b0.name):=by
 obtain⟨h0,h1,h2,_⟩:=check_parts h
 obtain⟨k0,k1,k2,k3,k4,k5,k6⟩:=cnt_zero.1 h1
 have hm:=(box_ok h h00).1
 have e:boxE (c.boxes.take i) { b with name:=b0.name }=(72,b0.name):=by
  unfold boxE
  rw[if_neg (fun x=>x hm),if_pos ⟨b0,List.mem_of_getElem? (i:=0) (by rw[List.getElem?_take_of_lt (by omega)];exact h00),rfl⟩]
 have e2:nameO (putB c i { b with name:=b0.name })=(72,b0.name):=(firstE_set h2 hb (by rw[e];dsimp only;omega)).trans e
 exact at_nameP h0 e2 (by dsimp only;omega) (cnt_put h1 hb (by dsimp only;omega) (by dsimp only;omega) (by dsimp only;omega) (by dsimp only;omega))
theorem mar2{c:ConfigB}{i:Nat}{b:BoxB}(h:(checkO c).1=0)(hb:c.boxes[i]? = some b){p:Str}(hp:b.ins[0]? = some p)(hf:nPorts c.boxes<46):checkO (putB c i { b with outs:=b.outs++[p] })=(72,dot b.name p):=by
 obtain⟨h0,h1,h2,_⟩:=check_parts h
 obtain⟨k0,k1,k2,k3,k4,k5,k6⟩:=cnt_zero.1 h1
 obtain⟨hm,hpo⟩:=box_ok h hb
 have hd:¬ ∃ x ∈ c.boxes.take i,x.name=b.name:=by
  have h0:=firstE_zero h2 i b hb
  unfold boxE at h0
  rw[if_neg (fun x=>x hm)] at h0
  intro hx
  rw[if_pos hx] at h0
  cases h0
 have hpi:p ∈ b.ins++b.outs:=List.mem_append_left _ (List.mem_of_getElem? hp)
 have hmp:MName p:=by
  obtain⟨j,hj⟩:=List.getElem?_of_mem hpi
  have h0:=firstE_zero hpo j p hj
  unfold portE at h0
  by_cases hm:MName p
  . exact hm
  . rw[if_pos hm] at h0
    cases h0
 have e1:portE b.name (b.ins++b.outs) p=(72,dot b.name p):=by
  unfold portE
  rw[if_neg (fun x=>x hmp),if_pos hpi]
 have e:boxE (c.boxes.take i) { b with outs:=b.outs++[p] }=(72,dot b.name p):=by
  unfold boxE
  rw[if_neg (fun x=>x hm),if_neg hd]
  dsimp only
  rw[<- List.append_assoc,firstE_last hpo (by rw[e1];dsimp only;omega),e1]
 have e2:nameO (putB c i { b with outs:=b.outs++[p] })=(72,dot b.name p):=(firstE_set h2 hb (by rw[e];dsimp only;omega)).trans e
 exact at_nameP h0 e2 (by dsimp only;omega) (cnt_put h1 hb (by simp;omega) (by dsimp only;omega) (by dsimp only;omega) (by dsimp only;omega))
theorem mar_deed{c:ConfigB}{i:Nat}{b:BoxB}(h:(checkO c).1=0)(hb:c.boxes[i]? = some b){b':BoxB}{x:Er}(hk:keyB b'=keyB b)(hc:(countO (putB c i b')).1=0)(hx:doesE c [] b'=x)(hx0:x.1 ≠ 0):checkO (putB c i b')=x:=by
 obtain⟨h0,h1,h2,h3,_⟩:=check_parts h
 have e:doesE c (c.boxes.take i) b'=x:=hx
 have e2:deedO (putB c i b')=x:=(firstE_set (f:=doesE c) h3 hb (by rw[e];exact hx0)).trans e
 rw[at_deed (c:=putB c i b') h0 hc (by rw[names_put hb hk];exact h2) (by rw[e2];exact hx0),e2]
theorem does_ok{c:ConfigB}{i:Nat}{b:BoxB}(h:(checkO c).1=0)(hb:c.boxes[i]? = some b):(firstE (guardE c b) [] b.guards).1=0/\(firstE (ruleE c b) [] b.rules).1=0/\(firstE (ownE c b) [] b.owns).1=0/\(firstE (routE c b) [] b.routes).1=0:=by
 have h0:=firstE_zero (check_parts h).2.2.2.1 i b hb
 obtain⟨a,h0⟩:=orE_both h0
 obtain⟨d,h0⟩:=orE_both h0
 obtain⟨e,f⟩:=orE_both h0
 exact⟨a,d,e,f⟩
theorem mar_rule{c:ConfigB}{i:Nat}{b:BoxB}(h:(checkO c).1=0)(hb:c.boxes[i]? = some b){r:RuleB}{k:Int}(hr:ruleI c b b.rules r=k)(hk:k ≠ 0)(hf:nRules c.boxes<46):checkO (putB c i { b with rules:=b.rules++[r] })=(k,b.name++[32,114,117,108,101,32]++Lib.itoa r.prio):=by
 obtain⟨h0,h1,h2,h3,_⟩:=check_parts h
 obtain⟨k0,k1,k2,k3,k4,k5,k6⟩:=cnt_zero.1 h1
 obtain⟨d1,d2,d3,d4⟩:=does_ok h hb
 have e:ruleE c b b.rules r=(k,b.name++[32,114,117,108,101,32]++Lib.itoa r.prio):=by
  unfold ruleE told
  rw[hr,if_pos hk]
 refine mar_deed h hb rfl (cnt_put h1 hb (by dsimp only;omega) (by dsimp only;omega) (by simp;omega) (by dsimp only;omega)) ?_ hk
 show orE (firstE (guardE c b) [] b.guards) (orE (firstE (ruleE c b) [] (b.rules++[r])) _)=_
 rw[orE_ok d1,firstE_last d2 (by rw[e];exact hk),e,orE_bad hk]
theorem mar3{c:ConfigB}{i:Nat}{b:BoxB}(h:(checkO c).1=0)(hb:c.boxes[i]? = some b){m:List Node}(hf:nRules c.boxes<46):checkO (putB c i { b with rules:=b.rules++[⟨65536,[],m,[],[]⟩] })=(76,b.name++[32,114,117,108,101,32]++Lib.itoa 65536):=
 mar_rule h hb (if_pos (.inr (by dsimp only;omega))) (by omega) hf
theorem mar4{c:ConfigB}{i:Nat}{b:BoxB}(h:(checkO c).1=0)(hb:c.boxes[i]? = some b){r0:RuleB}{f:List Str}(h0:b.rules[0]? = some r0)(hf:nRules c.boxes<46):checkO (putB c i { b with rules:=b.rules++[⟨r0.prio,f,[],[],[]⟩] })=(76,b.name++[32,114,117,108,101,32]++Lib.itoa r0.prio):=by
 refine mar_rule h hb ?_ (by omega) hf
 unfold ruleI
 split
 . rfl
 . rw[if_pos ⟨r0,List.mem_of_getElem? h0,rfl⟩]
theorem outs_new{c:ConfigB}{i:Nat}{b:BoxB}(h:(checkO c).1=0)(hb:c.boxes[i]? = some b){o:Str}(ho:o ∈ b.outs):o ∉ b.ins:=by
 obtain⟨j,hj⟩:=List.getElem?_of_mem ho
 have hj2:(b.ins++b.outs)[b.ins.length+j]? = some o:=by rw[List.getElem?_append_right (by omega),Nat.add_sub_cancel_left];exact hj
 have h0:=firstE_zero (box_ok h hb).2 _ o hj2
 unfold portE at h0
 split at h0
 . cases h0
 split at h0
 . cases h0
 rename_i hn
 intro hi
 refine hn ?_
 rw[List.take_append,List.take_of_length_le (by omega)]
 exact List.mem_append_left _ hi
theorem mar5{c:ConfigB}{i:Nat}{b:BoxB}(h:(checkO c).1=0)(hb:c.boxes[i]? = some b){o:Str}{m:List Node}(ho:b.outs[0]? = some o)(hn:b.rules=[])(hf:nRules c.boxes<46):checkO (putB c i { b with rules:=b.rules++[⟨7,[o],m,[],[]⟩] })=(74,b.name++[32,114,117,108,101,32]++Lib.itoa 7):=by
 have hom:=List.mem_of_getElem? ho
 refine mar_rule h hb ?_ (by omega) hf
 have hs:sidesI [o] b.ins b.outs=74:=by
  unfold sidesI firstE
  rw[sideE_side (outs_new h hb hom) hom]
  rfl
 unfold ruleI
 rw[if_neg (by dsimp only;omega),hn,if_neg (by simp)]
 dsimp only
 rw[hs,if_pos (by omega)]
theorem mar6{c:ConfigB}{i:Nat}{b:BoxB}(h:(checkO c).1=0)(hb:c.boxes[i]? = some b){p:Str}{q:Prop}{m:List Node}(hp:p ∉ b.ins++b.outs)(hf:nLines c.boxes<46):checkO (putB c i { b with guards:=b.guards++[⟨p,q,m⟩] })=(73,b.name++[32,103,117,97,114,100,32]++p):=by
 obtain⟨h0,h1,h2,h3,_⟩:=check_parts h
 obtain⟨k0,k1,k2,k3,k4,k5,k6⟩:=cnt_zero.1 h1
 obtain⟨d1,d2,d3,d4⟩:=does_ok h hb
 have e:guardE c b b.guards ⟨p,q,m⟩=(73,b.name++[32,103,117,97,114,100,32]++p):=if_pos hp
 refine mar_deed h hb rfl (cnt_put h1 hb (by dsimp only;omega) (by simp;omega) (by dsimp only;omega) (by dsimp only;omega)) ?_ (by dsimp only;omega)
 show orE (firstE (guardE c b) [] (b.guards++[⟨p,q,m⟩])) _=_
 rw[firstE_last d1 (by rw[e];dsimp only;omega),e,orE_bad (by dsimp only;omega)]
end
theorem at_linkP{c':ConfigB}{x:Er}(h0:(headO c').1=0)(h1:(countO c').1=0)(h2:(nameO c').1=0)(h3:(deedO c').1=0)(h:linkO c'=x)(hx:x.1 ≠ 0):checkO c'=x:=by
 rw[at_link h0 h1 h2 h3 (by rw[h];exact hx),h]
section
theorem link_ok{c:ConfigB}(h:(checkO c).1=0){k:Nat}{x:Link}(hx:c.links[k]? = some x):sidesI [x.frm] (fullOut c) (fullIn c)=0/\sidesI [x.dst] (fullIn c) (fullOut c)=0/\¬ (x.cost<1\/9999<x.cost):=by
 have h0:=firstE_zero (check_parts h).2.2.2.2.1 k x hx
 unfold linkE at h0
 by_cases k1:sidesI [x.frm] (fullOut c) (fullIn c)=0
 . rw[if_neg (fun g=>g k1)] at h0
   by_cases k2:sidesI [x.dst] (fullIn c) (fullOut c)=0
   . rw[if_neg (fun g=>g k2)] at h0
     refine⟨k1,k2,fun k3=>?_⟩
     rw[if_pos k3] at h0
     cases h0
   . rw[if_pos k2] at h0
     exact absurd h0 k2
 . rw[if_pos k1] at h0
   exact absurd h0 k1
theorem mar7{c:ConfigB}(h:(checkO c).1=0){x:Link}(hx:c.links[0]? = some x)(hf:c.links.length<48):checkO { c with links:=c.links++[x] }=(75,x.frm):=by
 obtain⟨h0,h1,h2,h3,h4,_⟩:=check_parts h
 obtain⟨k0,k1,k2,k3,k4,k5,k6⟩:=cnt_zero.1 h1
 obtain⟨l1,l2,l3⟩:=link_ok h hx
 have e:linkE c c.links x=(75,x.frm):=by
  unfold linkE
  rw[if_neg (fun g=>g l1),if_neg (fun g=>g l2),if_neg l3,if_pos ⟨x,List.mem_of_getElem? hx,rfl⟩]
 exact at_linkP h0 (cnt_zero.2 ⟨k0,k1,k2,k3,k4,by simp;omega,k6⟩) h2 h3 ((firstE_last (f:=linkE c) h4 (by rw[e];dsimp only;omega)).trans e) (by dsimp only;omega)
theorem mar8{c:ConfigB}(h:(checkO c).1=0){x:Link}(hx:c.links[0]? = some x):checkO { c with links:=c.links.set 0 { x with cost:=10000 } }=(71,x.frm):=by
 obtain⟨h0,h1,h2,h3,h4,_⟩:=check_parts h
 obtain⟨k0,k1,k2,k3,k4,k5,k6⟩:=cnt_zero.1 h1
 obtain⟨l1,l2,l3⟩:=link_ok h hx
 have e:linkE c (c.links.take 0) { x with cost:=10000 }=(71,x.frm):=by
  unfold linkE
  rw[if_neg (fun g=>g l1),if_neg (fun g=>g l2),if_pos (by dsimp only;omega)]
 exact at_linkP h0 (cnt_zero.2 ⟨k0,k1,k2,k3,k4,by simpa using k5,k6⟩) h2 h3 ((firstE_set (f:=linkE c) h4 hx (by rw[e];dsimp only;omega)).trans e) (by dsimp only;omega)
theorem side_mem{c:ConfigB}(h:(checkO c).1=0){want other:List Str}{s:Str}(h:sidesI [s] want other=0):s ∈ want:=by
 by_cases hs:s ∈ want
 . exact hs
 . unfold sidesI firstE at h
   by_cases ho:s ∈ other
   . rw[sideE_side hs ho] at h
     cases h
   . rw[sideE_unk hs ho] at h
     cases h
theorem mar9{c:ConfigB}(h:(checkO c).1=0){x:Link}(hx:c.links[0]? = some x)(hn:x.frm ∉ fullIn c):checkO { c with links:=c.links.set 0 { x with dst:=x.frm } }=(74,x.frm):=by
 obtain⟨h0,h1,h2,h3,h4,_⟩:=check_parts h
 obtain⟨k0,k1,k2,k3,k4,k5,k6⟩:=cnt_zero.1 h1
 obtain⟨l1,l2,l3⟩:=link_ok h hx
 have hs:sidesI [x.frm] (fullIn c) (fullOut c)=74:=by
  unfold sidesI firstE
  rw[sideE_side hn (side_mem h l1)]
  rfl
 have e:linkE c (c.links.take 0) { x with dst:=x.frm }=(74,x.frm):=by
  unfold linkE
  rw[if_neg (fun g=>g l1)]
  dsimp only
  rw[hs,if_pos (by omega)]
 exact at_linkP h0 (cnt_zero.2 ⟨k0,k1,k2,k3,k4,by simpa using k5,k6⟩) h2 h3 ((firstE_set (f:=linkE c) h4 hx (by rw[e];dsimp only;omega)).trans e) (by dsimp only;omega)
theorem mar_slice{c:ConfigB}(h:(checkO c).1=0){s:SlcB}{x:Er}(hs:sliceE c [] s=x)(hx:x.1 ≠ 0):checkO { c with slices:=[s] }=x:=by
 obtain⟨h0,h1,h2,h3,h4,_⟩:=check_parts h
 obtain⟨k0,k1,k2,k3,k4,k5,k6⟩:=cnt_zero.1 h1
 have e:sliceO { c with slices:=[s] }=x:=by
  show firstE (sliceE c) [] [s]=x
  unfold firstE
  rw[hs,if_pos hx]
 rw[at_slice (c:={ c with slices:=[s] }) h0 (cnt_zero.2 ⟨k0,k1,k2,k3,k4,k5,by simp⟩) h2 h3 h4,e]
theorem full_dot{c:ConfigB}(h:(checkO c).1=0){s:Str}(hs:s ∈ fullIn c\/s ∈ fullOut c):(46:UInt8) ∈ s:=by
 unfold fullIn fullOut dot at hs
 simp only[List.mem_flatMap,List.mem_map] at hs
 rcases hs with⟨b,_,p,_,rfl⟩|⟨b,_,p,_,rfl⟩<;>simp
def nameS:Str:=[83]
def nobody:Str:=[110,111,98,111,100,121]
theorem mar11{c:ConfigB}(h:(checkO c).1=0){m:List Node}(hS:MName nameS):checkO { c with slices:=[⟨nameS,[nobody],m⟩] }=(73,nobody):=by
 have hn:nobody ∉ fullIn c/\nobody ∉ fullOut c:=⟨fun g=>absurd (full_dot h (.inl g)) (by decide),fun g=>absurd (full_dot h (.inr g)) (by decide)⟩
 refine mar_slice h ?_ (by dsimp only;omega)
 have e:firstE (sportE c) [] [nobody]=(73,nobody):=by
  have:sportE c [] nobody=(73,nobody):=if_pos hn
  unfold firstE
  rw[this,if_pos (by dsimp only;omega)]
 unfold sliceE
 dsimp only
 rw[if_neg (fun g=>g hS),if_neg (by simp),e,orE_bad (by dsimp only;omega)]
theorem mar12{c:ConfigB}(h:(checkO c).1=0)(hS:MName nameS)(he:chkE (fds c.fields) [] ≠ 0):checkO { c with slices:=[⟨nameS,[],[]⟩] }=(77,nameS):=by
 refine mar_slice h ?_ (by dsimp only;omega)
 unfold sliceE
 dsimp only
 rw[if_neg (fun g=>g hS),if_neg (by simp),show firstE (sportE c) [] []=(0,[]) from rfl,orE_ok rfl]
 exact if_pos he
theorem headM_ok{c:ConfigB}(h:(checkO c).1=0):¬ 256<c.title.length/\(chkO (fds c.fields)).1=0/\c.fields ≠ []/\(firstE resvE [] c.fields).1=0:=by
 have h0:=(check_parts h).1
 unfold headO at h0
 split at h0
 . cases h0
 rename_i k1
 split at h0
 . cases h0
 rename_i k2
 split at h0
 . cases h0
 rename_i k3
 exact⟨k1,Classical.not_not.1 k3,fun g=>k2 (.inr g),(orE_both h0).1⟩
theorem mar14{c:ConfigB}(h:(checkO c).1=0):checkO { c with slim:=True,routing:=[] }=(73,[]):=by
 obtain⟨k1,k2,k3,k4⟩:=headM_ok h
 have e:headO { c with slim:=True,routing:=[] }=(73,[]):=by
  unfold headO
  dsimp only
  rw[if_neg k1,if_neg (by rw[k2];simp[k3]),if_neg (fun g=>g k2),orE_ok k4,if_pos (.inr ⟨trivial,rfl⟩)]
 rw[at_head (by rw[e];dsimp only;omega),e]
theorem mar13{c:ConfigB}(h:(checkO c).1=0){f:SI}(hf:c.fields[0]? = some f)(hbad:∀ (l:List Fd) (s:Str) (n:Int),badF l ⟨s,0⟩ n):checkO { c with fields:=c.fields.set 0 { f with n:=0 } }=(70,f.s):=by
 obtain⟨k1,k2,k3,k4⟩:=headM_ok h
 obtain⟨x,l,hl⟩:∃ x l,c.fields=x :: l:=by
  cases hc:c.fields with
  | nil=>exact absurd hc k3
  | cons x l=>exact⟨x,l,rfl⟩
 rw[hl] at hf
 cases hf
 have hlen:¬ 12<(fds c.fields).length:=by
  intro g
  unfold chkO at k2
  rw[if_pos g] at k2
  cases k2
 have e1:chkO (fds (c.fields.set 0 { f with n:=0 }))=(40,0):=by
  rw[hl]
  unfold chkO
  rw[if_neg (by rw[hl] at hlen;simpa[fds] using hlen),if_neg (by simp[fds])]
  show chkFrom _ (⟨f.s,0⟩ :: _) 0 0=_
  unfold chkFrom
  rw[if_pos (hbad _ _ _)]
  rfl
 have e:headO { c with fields:=c.fields.set 0 { f with n:=0 } }=(70,f.s):=by
  unfold headO
  dsimp only
  rw[if_neg k1,e1,if_neg (by rw[hl];simp),if_pos (by dsimp only;omega),hl]
  rfl
 rw[at_head (by rw[e];dsimp only;omega),e]
end
def clrB(b:BoxB):BoxB:={ b with owns:=[],routes:=[] }
section
theorem mar10{c:ConfigB}{i:Nat}{b:BoxB}(h:(checkO c).1=0)(hb:c.boxes[i]? = some b){p:Pfx}:checkO { c with routing:=[],slim:=False,boxes:=(c.boxes.map clrB).set i { b with owns:=[],routes:=[p] } }=(78,b.name++[32,114,111,117,116,101]):=by
 obtain⟨h0,h1,h2,h3,h4,_⟩:=check_parts h
 obtain⟨k0,k1,k2,k3,k4,k5,k6⟩:=cnt_zero.1 h1
 obtain⟨n1,n2,n3,n4⟩:=headM_ok h
 obtain⟨d1,d2,d3,d4⟩:=does_ok h hb
 have hil:=(List.getElem?_eq_some_iff.1 hb).1
 have hbm:(c.boxes.map clrB)[i]? = some (clrB b):=by rw[List.getElem?_map,hb];rfl
 generalize hc':({ c with routing:=[],slim:=False,boxes:=(c.boxes.map clrB).set i { b with owns:=[],routes:=[p] } }:ConfigB)=c'
 have e0:(headO c').1=0:=by
  subst hc'
  unfold headO
  dsimp only
  rw[if_neg n1,if_neg (by rw[n2];simp[n3]),if_neg (fun g=>g n2),orE_ok n4,if_neg (by simp)]
 have m1:∀ (g:BoxB->Nat),(∀ x,g (clrB x)=g x)->((c.boxes.map clrB).map g).sum=(c.boxes.map g).sum:=fun g hg=>by
  rw[List.map_map]
  exact congrArg List.sum (List.map_congr_left fun x _=>hg x)
 have m0:((c.boxes.map clrB).map fun b=>b.owns.length+b.routes.length).sum=0:=by
  rw[List.map_map]
  have:∀ l:List BoxB,(l.map ((fun b:BoxB=>b.owns.length+b.routes.length) ∘ clrB)).sum=0:=fun l=>by
   induction l with
   | nil=>rfl
   | cons x l ih=>rw[List.map_cons,List.sum_cons,ih];rfl
  exact this _
 have e1:(countO c').1=0:=by
  subst hc'
  have s1:=sum_set (g:=fun b=>b.ins.length+b.outs.length) (a':={ b with owns:=[],routes:=[p] }) hbm
  have s2:=sum_set (g:=fun b=>b.guards.length) (a':={ b with owns:=[],routes:=[p] }) hbm
  have s3:=sum_set (g:=fun b=>b.rules.length) (a':={ b with owns:=[],routes:=[p] }) hbm
  have s4:=sum_set (g:=fun b=>b.owns.length+b.routes.length) (a':={ b with owns:=[],routes:=[p] }) hbm
  rw[m1 _ (fun _=>rfl)] at s1 s2 s3
  rw[m0] at s4
  unfold nPorts nLines nRules nRoutes at *
  dsimp only[clrB,List.length_cons,List.length_nil] at s1 s2 s3 s4
  refine cnt_zero.2 ⟨by simpa using k0,?_,?_,?_,?_,k5,k6⟩
  . show (((c.boxes.map clrB).set i _).map fun b=>b.ins.length+b.outs.length).sum<=48
    omega
  . show (((c.boxes.map clrB).set i _).map fun b=>b.guards.length).sum<=64
    omega
  . show (((c.boxes.map clrB).set i _).map fun b=>b.rules.length).sum<=64
    omega
  . show (((c.boxes.map clrB).set i _).map fun b=>b.owns.length+b.routes.length).sum<=64
    omega
 have e2:(nameO c').1=0:=by
  have:c'.boxes.map keyB=c.boxes.map keyB:=by
   subst hc'
   show ((c.boxes.map clrB).set i _).map keyB=_
   exact (map_same (κ:=keyB) (a:=clrB b) (a':={ b with owns:=[],routes:=[p] }) hbm rfl).trans (List.map_map.trans rfl)
  rw[nameO_key,this,<- nameO_key]
  exact h2
 have e3:deedO c'=(78,b.name++[32,114,111,117,116,101]):=by
  have f1:∀ (x:BoxB) k,c.boxes[k]? = some x->∀ pre,(doesE c' pre (clrB x)).1=0:=fun x k hx pre=>by
   obtain⟨g1,g2,_,_⟩:=does_ok h hx
   have q1:firstE (guardE c' (clrB x)) [] (clrB x).guards=firstE (guardE c x) [] x.guards:=by subst hc';rfl
   have q2:firstE (ruleE c' (clrB x)) [] (clrB x).rules=firstE (ruleE c x) [] x.rules:=by subst hc';rfl
   unfold doesE
   rw[q1,q2,orE_ok g1,orE_ok g2]
   rfl
  have f2:doesE c' (c'.boxes.take i) { b with owns:=[],routes:=[p] }=(78,b.name++[32,114,111,117,116,101]):=by
   have q1:firstE (guardE c' { b with owns:=[],routes:=[p] }) [] b.guards=firstE (guardE c b) [] b.guards:=by subst hc';rfl
   have q2:firstE (ruleE c' { b with owns:=[],routes:=[p] }) [] b.rules=firstE (ruleE c b) [] b.rules:=by subst hc';rfl
   have q3:prefI c' { b with owns:=[],routes:=[p] } [] p=78:=by
    subst hc'
    unfold prefI
    rw[if_pos (.inl (by unfold rbits;rw[if_pos rfl]))]
   have q4:routE c' { b with owns:=[],routes:=[p] } [] p=(78,b.name++[32,114,111,117,116,101]):=by
    unfold routE told
    rw[q3,if_pos (by omega)]
   unfold doesE
   dsimp only
   rw[q1,q2,orE_ok d1,orE_ok d2,show firstE (ownE c' { b with owns:=[],routes:=[p] }) [] []=(0,[]) from rfl,orE_ok rfl]
   unfold firstE
   rw[q4,if_pos (by dsimp only;omega)]
  have hbx:c'.boxes=(c.boxes.map clrB).set i { b with owns:=[],routes:=[p] }:=by subst hc';rfl
  refine (firstE_hit (f:=doesE c') (l:=c'.boxes) (i:=i) (y:={ b with owns:=[],routes:=[p] }) (fun k x hk hx=>?_) ?_ ?_).trans f2
  . rw[hbx,List.getElem?_set_ne (by omega),List.getElem?_map] at hx
    obtain⟨y,hy,rfl⟩:=Option.map_eq_some_iff.1 hx
    exact f1 y k hy _
  . rw[hbx,List.getElem?_set_self (by simpa using hil)]
  . rw[f2];dsimp only;omega
 rw[at_deed e0 e1 e2 (by rw[e3];dsimp only;omega),e3]
theorem front_in{c:ConfigB}{i:Nat}{b:BoxB}(h:(checkO c).1=0)(hb:c.boxes[i]? = some b){o:Str}(ho:o ∈ b.outs)(hdot:∀ {n n' p p':Str},MName n->MName n'->dot n p=dot n' p'->n=n'/\p=p'):dot b.name o ∉ fullIn c:=by
 intro hm
 unfold fullIn at hm
 obtain⟨b2,hb2,hp⟩:=List.mem_flatMap.1 hm
 obtain⟨p,hp,e⟩:=List.mem_map.1 hp
 obtain⟨k,hk⟩:=List.getElem?_of_mem hb2
 obtain⟨e1,e2⟩:=hdot (box_ok h hk).1 (box_ok h hb).1 e
 have hki:k=i:=by
  have key:∀ {k i:Nat} {x y:BoxB},c.boxes[k]? = some x->c.boxes[i]? = some y->x.name=y.name->¬ k<i:=by
   intro k i x y hx hy he hlt
   have h0:=firstE_zero (check_parts h).2.2.1 i y hy
   unfold boxE at h0
   rw[if_neg (fun g=>g (box_ok h hy).1),if_pos ⟨x,List.mem_of_getElem? (i:=k) (by rw[List.getElem?_take_of_lt hlt];exact hx),he⟩] at h0
   cases h0
  have:=key hk hb e1
  have:=key hb hk e1.symm
  omega
 subst hki
 rw[hb] at hk
 cases hk
 exact outs_new h hb ho (e2 ▸ hp)
end
theorem mname_S:MName nameS:=by
 refine⟨⟨by decide,by decide,fun i b hb=>?_⟩,by unfold Rsv resvL nameS;simp⟩
 match i with
 | 0=>cases hb;unfold nameAt Ltr;simp
 | i+1=>simp[nameS] at hb
theorem badF_0(l:List Fd)(s:Str)(n:Int):badF l ⟨s,0⟩ n:=.inr (.inr (.inr (.inr (.inl (by dsimp only;omega)))))
theorem chkE_nil{l:List Fd}(h:(chkO l).1=0):chkE l [] ≠ 0:=by rw[chkE_b h (by simp) rfl];decide
theorem dotN_inj{n n' p p':Str}(h:MName n)(h':MName n')(e:dot n p=dot n' p'):n=n'/\p=p':=dot_inj (name_nodot h) (name_nodot h') e
end Go.Proofs.YtcglkonooeddfaaGreatDoor
namespace Go.Proofs.YtcglkonooeddfaaGreatDoor
open Go Go.Vx
@[reducible] def rawB(y:Box)(d1 d2 d3:D):List D:=[.s y.name,.lst 9 (y.ins.l.map srow) [],d1,d2,d3,.lst 246 (y.owns.l.map Pfx.row) [],.lst 246 (y.routes.l.map Pfx.row) []]
inductive CPh
 | pre (k:Nat)
 | post (k:Nat) (d1 t1 d2 t2 d3 t3:D)
def CPh.k:CPh->Nat|pre k=>k|post k _ _ _ _ _ _=>k
def CPh.n:CPh->Nat|pre _=>4|post _ _ _ _ _ _ _=>8
def CPh.a:CPh->D|pre _=>.u|post _ _ t _ _ _ _=>t
def CPh.b:CPh->D|pre _=>.u|post _ _ _ _ t _ _=>t
def CPh.c:CPh->D|pre _=>.u|post _ _ _ _ _ _ t=>t
def CPh.rows(c:Config)(i:Nat)(y:Box):CPh->Vx.Rows
 | pre k=>[some (127,c.fields.l.map SI.row),some (87,(c.boxes.l.take k).map fun x=>(boxC x).row),some (91,[]),some (54,[])]
 | post k d1 _ d2 _ d3 _=>[some (127,c.fields.l.map SI.row),some (87,((c.boxes.l.take k).map fun x=>(boxC x).row).set i (rawB y d1 d2 d3)),some (91,[]),some (54,[]),none,some (9,y.outs.l.map srow),some (112,y.guards.l.map fun g=>(lineC g).row),some (115,y.rules.l.map fun r=>(ruleC r).row)]
def CPh.I(c:Config)(i:Nat)(y:Box):CPh->Prop
 | pre k=>k<=i
 | post k d1 t1 d2 t2 d3 t3=>i<k/\k<=c.boxes.l.length/\RawL 5 y.outs.l.length (y.outs.l.map srow) d1 t1/\RawL 6 y.guards.l.length (y.guards.l.map fun g=>(lineC g).row) d2 t2/\RawL 7 y.rules.l.length (y.rules.l.map fun r=>(ruleC r).row) d3 t3
def sndN:Nat->Code->Code
 | 0,c=>c
 | n+1,.seq _ c=>sndN n c
 | _+1,c=>c
noncomputable def marC:Code:=Tryz.f12.body.getD .ret
@[reducible] def us7:List D:=[.u,.u,.u,.u,.u,.u,.u]
set_option maxRecDepth 100000 in
set_option maxHeartbeats 16000000 in
theorem mar_copy(c:Config)(hc:c.Ok){i:Nat}{y:Box}(hy:c.boxes.l[i]? = some y){dw da:Int}{Q:Exit->St->Prop}
    (h:∀ d1 t1 d2 t2 d3 t3,RawL 5 y.outs.l.length (y.outs.l.map srow) d1 t1->RawL 6 y.guards.l.length (y.guards.l.map fun g=>(lineC g).row) d2 t2->RawL 7 y.rules.l.length (y.rules.l.map fun r=>(ruleC r).row) d3 t3 ->
     Ok Tryz.prog T (sndN 3 marC) Q ⟨[(1,.i .i64 dw),(2,.i .i64 da),(3,.bp 0 0),(7,.bp 4 0),(500,t1),(501,t2),(502,t3)],[c.row,us7,us7,us7,[.s c.title,.own 0 c.fields.l.length,.s c.routing,.b c.slim,.own 1 c.boxes.l.length,.own 2 c.links.l.length,.own 3 c.slices.l.length]],
      [some (127,c.fields.l.map SI.row),some (87,((c.boxes.l.map fun x=>(boxC x).row).set i (rawB y d1 d2 d3))),some (91,c.links.l.map Link.row),some (54,c.slices.l.map fun x=>(slcC x).row),none,some (9,y.outs.l.map srow),some (112,y.guards.l.map fun g=>(lineC g).row),some (115,y.rules.l.map fun r=>(ruleC r).row)],Tryz.f12.ntmps⟩) :
    Ok Tryz.prog T (sndN 2 marC) Q ⟨[(1,.i .i64 dw),(2,.i .i64 da),(3,.bp 0 0)],[c.row],[],Tryz.f12.ntmps⟩:=by
 have hf:(c.fields.l.map SI.row).length=c.fields.l.length:=by simp
 have hb:(c.boxes.l.map Box.row).length=c.boxes.l.length:=by simp
 have hl:(c.links.l.map Link.row).length=c.links.l.length:=by simp
 have hs:(c.slices.l.map Slc.row).length=c.slices.l.length:=by simp
 have hF:=hc.fields
 have hB:=hc.boxes
 have hL:=hc.links
 have hS:=hc.slices
 have hil:=(List.getElem?_eq_some_iff.1 hy).1
 unfold marC at h ⊢
 (try (conv=>whnf));repeat' (first|refine Ok.seq ?_|(refine Ok.region tok ?_;conv=>whnf)|fail)
 refine Or.inr (Or.inr (Or.inl ?_));(conv=>whnf);refine⟨_,_,Tryz.func42,rfl,Tryz.call42,?_⟩;(conv=>whnf)
 (try (conv=>whnf));repeat' (first|refine Ok.seq ?_|(refine Ok.region tok ?_;conv=>whnf)|refine Ok.block ?_|fail)
 refine Ok.ghostB 3 1 127 rfl rfl ?_
 (conv=>whnf)
 refine Ok.ghostB 3 4 87 rfl rfl ?_
 (conv=>whnf)
 refine Ok.ghostB 3 5 91 rfl rfl ?_
 (conv=>whnf)
 refine Ok.ghostB 3 6 54 rfl rfl ?_
 (conv=>whnf)
 (try (conv=>whnf));repeat' (first|fail)
 refine Ok.loopU [1,2,3,98,99,100] [4] 4 4 (fun (k:Nat)=>[.i .i64 (k:Nat)]) (fun (k:Nat) (_:List (List D))=>[c.row,c.row,[.s [],.nilS,.s [],.ff,.nilS,.nilS,.nilS],[.s c.title,.own 0 k,.s c.routing,.b c.slim,.own 1 0,.own 2 0,.own 3 0]]) (fun (k:Nat) (_:Vx.Rows)=>[some (127,(c.fields.l.take k).map SI.row),some (87,[]),some (91,[]),some (54,[])]) (fun (k:Nat)=>k<=c.fields.l.length) (fun (k:Nat)=>c.fields.l.length - k) (0) (Nat.zero_le _) ?_;(conv=>whnf);refine⟨by ((conv=>whnf);first|rfl|(simp[envCat, List.take_of_length_le, SI.row, Node.row, Pfx.row, Link.row, srow, Line.row, Rule.row, Box.row, Slc.row, Config.row, Function.comp_def];done)|(simp[envCat, List.take_of_length_le, SI.row, Node.row, Pfx.row, Link.row, srow, Line.row, Rule.row, Box.row, Slc.row, Config.row, Function.comp_def];rw[IntKind.wrap_i64];omega)),?_⟩
 rintro k hk
 have htl:((c.fields.l.take k).map SI.row).length=k:=by simp;omega
 by_cases hkl:k<c.fields.l.length
 . obtain⟨x,hx⟩:∃ x,c.fields.l[k]? = some x:=⟨_,List.getElem?_eq_getElem hkl⟩
   have htk:c.fields.l.take (k+1)=c.fields.l.take k++[x]:=by rw[List.take_add_one,hx];rfl
   (try (conv=>whnf));repeat' (first|refine Ok.seq ?_|((first|refine Ok.region tok ?_|refine Ok.region_plan (id:=5) tok follows [(3,7,[6,5]),(6,7,[]),(1,8,[]),(3,8,[7,6,5]),(6,8,[7]),(7,8,[]),(1,10,[]),(3,10,[]),(6,10,[]),(7,10,[]),(8,10,[])] [.q 0,.q 1,.q 2,.q 3,.q 4,.q 5,.q 6,.l 7,.l 8,.q 9,.l 10] (by kernel_rfl) ?_|refine Ok.cond ?_);conv=>whnf)|refine Ok.block ?_|((first|refine Ok.skip ?_|refine nI ?_|refine ix _ (by assumption) ?_|refine Alt2.l (aI ?_)|refine⟨_,.inl ⟨rfl,rfl⟩,?_⟩|refine⟨_,_,rfl,rfl,?_⟩);conv=>whnf)|(refine bI ?_ ?_<;>intro<;>(conv=>whnf)<;>(try (exfalso;omega)))|(refine aJ ?_;conv=>whnf)|fail)
   refine⟨k+1,by omega,by omega,?_⟩
   rw[htk]
   (conv=>whnf);simp[envCat,Config.row,take_all,drop_all,SI.row];omega
 obtain rfl:k=c.fields.l.length:=by omega
 clear htl
 rw[List.take_length]
 (conv=>whnf)
 (try (conv=>whnf));repeat' (first|refine Ok.seq ?_|((first|refine Ok.region tok ?_|refine Ok.cond ?_);conv=>whnf)|refine Ok.block ?_|(refine Ok.exit ?_;conv=>whnf)|(refine bI ?_ ?_<;>intro<;>(conv=>whnf)<;>(try (exfalso;omega)))|fail)
 refine Ok.loopV [1,2,3,98,99,100] [5,597,598,599] (fun (x:CPh)=>x.n) 4 (fun (x:CPh)=>[.i .i64 (x.k:Nat),x.a,x.b,x.c]) (fun (x:CPh) (_:List (List D))=>[c.row,c.row,[.s [],.nilS,.s [],.ff,.nilS,.nilS,.nilS],[.s c.title,.own 0 c.fields.l.length,.s c.routing,.b c.slim,.own 1 x.k,.own 2 0,.own 3 0]]) (fun (x:CPh) (_:Vx.Rows)=>x.rows c i y) (fun (x:CPh)=>x.I c i y) (fun (x:CPh)=>c.boxes.l.length - x.k) (.pre 0) (Nat.zero_le _) ?_;(conv=>whnf);refine⟨by ((conv=>whnf);first|rfl|(simp[envCat, List.take_of_length_le, SI.row, Node.row, Pfx.row, Link.row, srow, Line.row, Rule.row, Box.row, Slc.row, Config.row, Function.comp_def];done)|(simp[envCat, List.take_of_length_le, SI.row, Node.row, Pfx.row, Link.row, srow, Line.row, Rule.row, Box.row, Slc.row, Config.row, Function.comp_def];rw[IntKind.wrap_i64];omega)),?_⟩
 rintro (k|⟨k,d1,t1,d2,t2,d3,t3⟩) hI
 . have hki:k<=i:=hI
   have htl:((c.boxes.l.take k).map fun x=>(boxC x).row).length=k:=by simp;omega
   obtain⟨z,hz⟩:∃ z,c.boxes.l[k]? = some z:=⟨_,List.getElem?_eq_getElem (by omega)⟩
   have htk:c.boxes.l.take (k+1)=c.boxes.l.take k++[z]:=by rw[List.take_add_one,hz];rfl
   have hbo:=hc.box z (List.mem_of_getElem? hz)
   have hki2:k<c.boxes.l.length:=by omega
   dsimp only[CPh.k,CPh.a,CPh.b,CPh.c,CPh.rows]
   (conv=>whnf)
   (try (conv=>whnf));repeat' (first|refine Ok.seq ?_|((first|refine Ok.region tok ?_|refine Ok.cond ?_);conv=>whnf)|refine Ok.block ?_|((first|refine Ok.skip ?_|refine ix _ (by assumption) ?_);conv=>whnf)|(refine bI ?_ ?_<;>intro<;>(conv=>whnf)<;>(try (exfalso;omega)))|fail)
   right
   left
   (conv=>whnf)
   refine⟨_,boxCopy_at z hbo,?_⟩
   rintro d rows ⟨rfl,rfl⟩
   by_cases hkI:k=i
   . subst hkI
     rw[hy] at hz
     cases hz
     have hset:∀ r,((c.boxes.l.take (k+1)).map fun x=>(boxC x).row).set k r=((c.boxes.l.take k).map fun x=>(boxC x).row)++[r]:=fun r=>by
      rw[htk,List.map_append,List.set_append_right _ _ (Nat.le_of_eq htl),htl,Nat.sub_self]
      rfl
     (try (conv=>whnf));repeat' (first|(refine Ok.rawE (c:=.region 10 _ _) tok 5 597 (ti:=_) (n:=y.outs.l.length) rfl rfl (by simp) (fun h1=>?_) (fun g1 c1 k1=>?_)<;>(conv=>whnf)<;>refine Ok.rawE tok 6 598 (ti:=_) (n:=y.guards.l.length) rfl rfl (by simp) (fun h2=>?_) (fun g2 c2 k2=>?_)<;>(conv=>whnf)<;>refine Ok.rawE tok 7 599 (ti:=_) (n:=y.rules.l.length) rfl rfl (by simp) (fun h3=>?_) (fun g3 c3 k3=>?_)<;>(conv=>whnf)<;>(refine Ok.region tok ?_;conv=>whnf))|((first|refine Ok.region tok ?_|refine nI ?_|refine Alt2.l (aI ?_)|refine⟨_,.inl ⟨rfl,rfl⟩,?_⟩|refine⟨_,_,rfl,rfl,?_⟩|refine aJ ?_);conv=>whnf)|fail)
     all_goals first
      | (exfalso;omega)
      | (refine⟨.post (k+1) (.rnl) (.u) (.rnl) (.u) (.rnl) (.u),by first|(dsimp only[CPh.k];omega)|(dsimp only;omega),⟨by omega,by omega,.nil h1,.nil h2,.nil h3⟩,?_⟩
         dsimp only[CPh.k,CPh.a,CPh.b,CPh.c,CPh.rows]
         rw[hset]
         (conv=>whnf)
         simp[envCat,Config.row,boxC,Box.row,rawB,Function.comp_def,take_all,drop_all];omega)
      | (refine⟨.post (k+1) (.rnl) (.u) (.rnl) (.u) (.rsl g3 y.rules.l.length c3) (.tie 7 g3 y.rules.l.length c3),by first|(dsimp only[CPh.k];omega)|(dsimp only;omega),⟨by omega,by omega,.nil h1,.nil h2,.raw g3 c3 (by simp)⟩,?_⟩
         dsimp only[CPh.k,CPh.a,CPh.b,CPh.c,CPh.rows]
         rw[hset]
         (conv=>whnf)
         simp[envCat,Config.row,boxC,Box.row,rawB,Function.comp_def,take_all,drop_all];omega)
      | (refine⟨.post (k+1) (.rnl) (.u) (.rsl g2 y.guards.l.length c2) (.tie 6 g2 y.guards.l.length c2) (.rnl) (.u),by first|(dsimp only[CPh.k];omega)|(dsimp only;omega),⟨by omega,by omega,.nil h1,.raw g2 c2 (by simp),.nil h3⟩,?_⟩
         dsimp only[CPh.k,CPh.a,CPh.b,CPh.c,CPh.rows]
         rw[hset]
         (conv=>whnf)
         simp[envCat,Config.row,boxC,Box.row,rawB,Function.comp_def,take_all,drop_all];omega)
      | (refine⟨.post (k+1) (.rnl) (.u) (.rsl g2 y.guards.l.length c2) (.tie 6 g2 y.guards.l.length c2) (.rsl g3 y.rules.l.length c3) (.tie 7 g3 y.rules.l.length c3),by first|(dsimp only[CPh.k];omega)|(dsimp only;omega),⟨by omega,by omega,.nil h1,.raw g2 c2 (by simp),.raw g3 c3 (by simp)⟩,?_⟩
         dsimp only[CPh.k,CPh.a,CPh.b,CPh.c,CPh.rows]
         rw[hset]
         (conv=>whnf)
         simp[envCat,Config.row,boxC,Box.row,rawB,Function.comp_def,take_all,drop_all];omega)
      | (refine⟨.post (k+1) (.rsl g1 y.outs.l.length c1) (.tie 5 g1 y.outs.l.length c1) (.rnl) (.u) (.rnl) (.u),by first|(dsimp only[CPh.k];omega)|(dsimp only;omega),⟨by omega,by omega,.raw g1 c1 (by simp),.nil h2,.nil h3⟩,?_⟩
         dsimp only[CPh.k,CPh.a,CPh.b,CPh.c,CPh.rows]
         rw[hset]
         (conv=>whnf)
         simp[envCat,Config.row,boxC,Box.row,rawB,Function.comp_def,take_all,drop_all];omega)
      | (refine⟨.post (k+1) (.rsl g1 y.outs.l.length c1) (.tie 5 g1 y.outs.l.length c1) (.rnl) (.u) (.rsl g3 y.rules.l.length c3) (.tie 7 g3 y.rules.l.length c3),by first|(dsimp only[CPh.k];omega)|(dsimp only;omega),⟨by omega,by omega,.raw g1 c1 (by simp),.nil h2,.raw g3 c3 (by simp)⟩,?_⟩
         dsimp only[CPh.k,CPh.a,CPh.b,CPh.c,CPh.rows]
         rw[hset]
         (conv=>whnf)
         simp[envCat,Config.row,boxC,Box.row,rawB,Function.comp_def,take_all,drop_all];omega)
      | (refine⟨.post (k+1) (.rsl g1 y.outs.l.length c1) (.tie 5 g1 y.outs.l.length c1) (.rsl g2 y.guards.l.length c2) (.tie 6 g2 y.guards.l.length c2) (.rnl) (.u),by first|(dsimp only[CPh.k];omega)|(dsimp only;omega),⟨by omega,by omega,.raw g1 c1 (by simp),.raw g2 c2 (by simp),.nil h3⟩,?_⟩
         dsimp only[CPh.k,CPh.a,CPh.b,CPh.c,CPh.rows]
         rw[hset]
         (conv=>whnf)
         simp[envCat,Config.row,boxC,Box.row,rawB,Function.comp_def,take_all,drop_all];omega)
      | (refine⟨.post (k+1) (.rsl g1 y.outs.l.length c1) (.tie 5 g1 y.outs.l.length c1) (.rsl g2 y.guards.l.length c2) (.tie 6 g2 y.guards.l.length c2) (.rsl g3 y.rules.l.length c3) (.tie 7 g3 y.rules.l.length c3),by first|(dsimp only[CPh.k];omega)|(dsimp only;omega),⟨by omega,by omega,.raw g1 c1 (by simp),.raw g2 c2 (by simp),.raw g3 c3 (by simp)⟩,?_⟩
         dsimp only[CPh.k,CPh.a,CPh.b,CPh.c,CPh.rows]
         rw[hset]
         (conv=>whnf)
         simp[envCat,Config.row,boxC,Box.row,rawB,Function.comp_def,take_all,drop_all];omega)
   . (try (conv=>whnf));repeat' (first|((first|refine Ok.region tok ?_|refine nI ?_|refine Alt2.l (aI ?_)|refine⟨_,.inl ⟨rfl,rfl⟩,?_⟩|refine⟨_,_,rfl,rfl,?_⟩|refine aJ ?_);conv=>whnf)|fail)
     refine⟨.pre (k+1),by first|(dsimp only[CPh.k];omega)|(dsimp only;omega),by show k+1<=i;omega,?_⟩
     dsimp only[CPh.k,CPh.a,CPh.b,CPh.c,CPh.rows]
     rw[htk]
     (conv=>whnf);simp[envCat,Config.row,take_all,drop_all,boxC,Box.row,List.map_map,Function.comp_def];omega
 obtain⟨hik,hkn,r1,r2,r3⟩:=hI
 by_cases hkl:k<c.boxes.l.length
 . have htl:(((c.boxes.l.take k).map fun x=>(boxC x).row).set i (rawB y d1 d2 d3)).length=k:=by simp;omega
   obtain⟨z,hz⟩:∃ z,c.boxes.l[k]? = some z:=⟨_,List.getElem?_eq_getElem hkl⟩
   have htk:((c.boxes.l.take (k+1)).map fun x=>(boxC x).row).set i (rawB y d1 d2 d3)=((c.boxes.l.take k).map fun x=>(boxC x).row).set i (rawB y d1 d2 d3)++[(boxC z).row]:=by
    rw[List.take_add_one,hz,List.map_append,List.set_append_left _ _ (by simp;omega)]
    rfl
   have hbo:=hc.box z (List.mem_of_getElem? hz)
   have q1:=r1
   have q2:=r2
   have q3:=r3
   rcases r1 with h1|⟨g1,c1,e1⟩<;>rcases r2 with h2|⟨g2,c2,e2⟩<;>rcases r3 with h3|⟨g3,c3,e3⟩
   all_goals
    dsimp only[CPh.k,CPh.a,CPh.b,CPh.c,CPh.rows]
    (conv=>whnf)
    (try (conv=>whnf));repeat' (first|refine Ok.seq ?_|((first|refine Ok.region tok ?_|refine Ok.cond ?_);conv=>whnf)|refine Ok.block ?_|((first|refine Ok.skip ?_|refine ix _ (by assumption) ?_);conv=>whnf)|(refine bI ?_ ?_<;>intro<;>(conv=>whnf)<;>(try (exfalso;omega)))|fail)
    right
    left
    (conv=>whnf)
    refine⟨_,boxCopy_at z hbo,?_⟩
    rintro d rows ⟨rfl,rfl⟩
    (try (conv=>whnf));repeat' (first|((first|refine Ok.region tok ?_|refine nI ?_|refine Alt2.l (aI ?_)|refine⟨_,.inl ⟨rfl,rfl⟩,?_⟩|refine⟨_,_,rfl,rfl,?_⟩|refine aJ ?_);conv=>whnf)|fail)
    refine⟨.post (k+1) _ _ _ _ _ _,by first|(dsimp only[CPh.k];omega)|(dsimp only;omega),⟨by omega,by omega,q1,q2,q3⟩,?_⟩
    dsimp only[CPh.k,CPh.a,CPh.b,CPh.c,CPh.rows]
    rw[htk]
    (conv=>whnf);simp[envCat,Config.row,take_all,drop_all,boxC,Box.row,List.map_map,Function.comp_def];omega
 obtain rfl:k=c.boxes.l.length:=by omega
 dsimp only[CPh.k,CPh.a,CPh.b,CPh.c,CPh.rows]
 rw[List.take_length]
 generalize hrw:rawB y d1 d2 d3=rw0
 have q1:=r1
 have q2:=r2
 have q3:=r3
 rcases r1 with h1|⟨g1,c1,e1⟩<;>rcases r2 with h2|⟨g2,c2,e2⟩<;>rcases r3 with h3|⟨g3,c3,e3⟩
 all_goals
  (conv=>whnf)
  (try (conv=>whnf));repeat' (first|refine Ok.seq ?_|((first|refine Ok.region tok ?_|refine Ok.cond ?_);conv=>whnf)|refine Ok.block ?_|(refine Ok.exit ?_;conv=>whnf)|(refine bI ?_ ?_<;>intro<;>(conv=>whnf)<;>(try (exfalso;omega)))|fail)
  refine Ok.loopU [1,2,3,597,598,599,98,99,100] [7] 8 4 (fun (k:Nat)=>[.i .i64 (k:Nat)]) (fun (k:Nat) (_:List (List D))=>[c.row,c.row,[.s [],.nilS,.s [],.ff,.nilS,.nilS,.nilS],[.s c.title,.own 0 c.fields.l.length,.s c.routing,.b c.slim,.own 1 c.boxes.l.length,.own 2 k,.own 3 0]]) (fun (k:Nat) (_:Vx.Rows)=>[some (127,c.fields.l.map SI.row),some (87,((c.boxes.l.map fun x=>(boxC x).row).set i rw0)),some (91,(c.links.l.take k).map Link.row),some (54,[]),none,some (9,y.outs.l.map srow),some (112,y.guards.l.map fun g=>(lineC g).row),some (115,y.rules.l.map fun r=>(ruleC r).row)]) (fun (k:Nat)=>k<=c.links.l.length) (fun (k:Nat)=>c.links.l.length - k) (0) (Nat.zero_le _) ?_;(conv=>whnf);refine⟨by ((conv=>whnf);first|rfl|(simp[envCat, List.take_of_length_le, SI.row, Node.row, Pfx.row, Link.row, srow, Line.row, Rule.row, Box.row, Slc.row, Config.row, Function.comp_def];done)|(simp[envCat, List.take_of_length_le, SI.row, Node.row, Pfx.row, Link.row, srow, Line.row, Rule.row, Box.row, Slc.row, Config.row, Function.comp_def];rw[IntKind.wrap_i64];omega)),?_⟩
  rintro k hk
  have htl:((c.links.l.take k).map Link.row).length=k:=by simp;omega
  by_cases hkl:k<c.links.l.length
  . obtain⟨x,hx⟩:∃ x,c.links.l[k]? = some x:=⟨_,List.getElem?_eq_getElem hkl⟩
    have htk:c.links.l.take (k+1)=c.links.l.take k++[x]:=by rw[List.take_add_one,hx];rfl
    (try (conv=>whnf));repeat' (first|refine Ok.seq ?_|((first|refine Ok.region tok ?_|refine Ok.region_plan (id:=14) tok follows [(3,7,[6,5]),(6,7,[]),(1,8,[]),(3,8,[7,6,5]),(6,8,[7]),(7,8,[]),(1,10,[]),(3,10,[]),(6,10,[]),(7,10,[]),(8,10,[])] [.q 0,.q 1,.q 2,.q 3,.q 4,.q 5,.q 6,.l 7,.l 8,.q 9,.l 10] (by kernel_rfl) ?_|refine Ok.cond ?_);conv=>whnf)|refine Ok.block ?_|((first|refine Ok.skip ?_|refine nI ?_|refine ix _ (by assumption) ?_|refine Alt2.l (aI ?_)|refine⟨_,.inl ⟨rfl,rfl⟩,?_⟩|refine⟨_,_,rfl,rfl,?_⟩);conv=>whnf)|(refine bI ?_ ?_<;>intro<;>(conv=>whnf)<;>(try (exfalso;omega)))|(refine aJ ?_;conv=>whnf)|fail)
    refine⟨k+1,by omega,by omega,?_⟩
    rw[htk]
    (conv=>whnf);simp[envCat,Config.row,take_all,drop_all,Link.row];omega
  obtain rfl:k=c.links.l.length:=by omega
  clear htl
  rw[List.take_length]
  (conv=>whnf)
  (try (conv=>whnf));repeat' (first|refine Ok.seq ?_|((first|refine Ok.region tok ?_|refine Ok.cond ?_);conv=>whnf)|refine Ok.block ?_|(refine Ok.exit ?_;conv=>whnf)|(refine bI ?_ ?_<;>intro<;>(conv=>whnf)<;>(try (exfalso;omega)))|fail)
  refine Ok.loopU [1,2,3,597,598,599,98,99,100] [8] 8 4 (fun (k:Nat)=>[.i .i64 (k:Nat)]) (fun (k:Nat) (_:List (List D))=>[c.row,c.row,[.s [],.nilS,.s [],.ff,.nilS,.nilS,.nilS],[.s c.title,.own 0 c.fields.l.length,.s c.routing,.b c.slim,.own 1 c.boxes.l.length,.own 2 c.links.l.length,.own 3 k]]) (fun (k:Nat) (_:Vx.Rows)=>[some (127,c.fields.l.map SI.row),some (87,((c.boxes.l.map fun x=>(boxC x).row).set i rw0)),some (91,c.links.l.map Link.row),some (54,(c.slices.l.take k).map fun x=>(slcC x).row),none,some (9,y.outs.l.map srow),some (112,y.guards.l.map fun g=>(lineC g).row),some (115,y.rules.l.map fun r=>(ruleC r).row)]) (fun (k:Nat)=>k<=c.slices.l.length) (fun (k:Nat)=>c.slices.l.length - k) (0) (Nat.zero_le _) ?_;(conv=>whnf);refine⟨by ((conv=>whnf);first|rfl|(simp[envCat, List.take_of_length_le, SI.row, Node.row, Pfx.row, Link.row, srow, Line.row, Rule.row, Box.row, Slc.row, Config.row, Function.comp_def];done)|(simp[envCat, List.take_of_length_le, SI.row, Node.row, Pfx.row, Link.row, srow, Line.row, Rule.row, Box.row, Slc.row, Config.row, Function.comp_def];rw[IntKind.wrap_i64];omega)),?_⟩
  rintro k hk
  have htl:((c.slices.l.take k).map fun x=>(slcC x).row).length=k:=by simp;omega
  by_cases hkl:k<c.slices.l.length
  . obtain⟨x,hx⟩:∃ x,c.slices.l[k]? = some x:=⟨_,List.getElem?_eq_getElem hkl⟩
    have htk:c.slices.l.take (k+1)=c.slices.l.take k++[x]:=by rw[List.take_add_one,hx];rfl
    have hso:=hc.slc x (List.mem_of_getElem? hx)
    (try (conv=>whnf));repeat' (first|refine Ok.seq ?_|((first|refine Ok.region tok ?_|refine Ok.cond ?_);conv=>whnf)|refine Ok.block ?_|((first|refine Ok.skip ?_|refine nI ?_|refine ix _ (by assumption) ?_);conv=>whnf)|(refine Or.inr (Or.inr (Or.inr (Or.inl ?_)));(conv=>whnf);(repeat (refine aI ?_;conv=>whnf));refine⟨_,names_at x.ports.l hso.ports rfl,?_⟩;rintro _ _ ⟨rfl,rfl⟩<;>(refine And.intro (by simp[gRowsP, grounds, D.ground, SI.row, Node.row, Pfx.row, Link.row, srow, Line.row, Rule.row, Box.row, Slc.row, Config.row, Function.comp_def]) ?_;conv=>whnf))|(refine Or.inr (Or.inr (Or.inr (Or.inl ?_)));(conv=>whnf);(repeat (refine aI ?_;conv=>whnf));refine⟨_,cnodes_at x.whr.l hso.whr rfl,?_⟩;rintro _ _ ⟨rfl,rfl⟩<;>(refine And.intro (by simp[gRowsP, grounds, D.ground, SI.row, Node.row, Pfx.row, Link.row, srow, Line.row, Rule.row, Box.row, Slc.row, Config.row, Function.comp_def]) ?_;conv=>whnf))|((first|refine Alt2.l (aI ?_)|refine⟨_,.inl ⟨rfl,rfl⟩,?_⟩|refine⟨_,_,rfl,rfl,?_⟩);conv=>whnf)|(refine bI ?_ ?_<;>intro<;>(conv=>whnf)<;>(try (exfalso;omega)))|(refine aJ ?_;conv=>whnf)|fail)
    refine⟨k+1,by omega,by omega,?_⟩
    rw[htk]
    (conv=>whnf);simp[envCat,Config.row,take_all,drop_all,slcC,Slc.row];omega
  obtain rfl:k=c.slices.l.length:=by omega
  clear htl
  rw[List.take_length]
  (conv=>whnf)
  (try (conv=>whnf));repeat' (first|(refine Ok.keep (c:=sndN 3 (Tryz.f12.body.getD .ret)) [1,2,3,7,500,501,502] 8 5 ?_;(conv=>whnf);refine Ok.boxU 1 rfl ?_;refine Ok.boxU 2 rfl ?_;refine Ok.boxU 3 rfl ?_;subst hrw;exact h _ _ _ _ _ _ q1 q2 q3)|refine Ok.seq ?_|((first|refine Ok.region tok ?_|refine Ok.cond ?_|refine Ok.exit ?_|refine Ok.ret ?_);conv=>whnf)|(refine bI ?_ ?_<;>intro<;>(conv=>whnf)<;>(try (exfalso;omega)))|fail)
end Go.Proofs.YtcglkonooeddfaaGreatDoor
namespace Go.Proofs.YtcglkonooeddfaaGreatDoor
open Go Go.Vx
theorem itoaM_pos(u:Nat):Lib.itoa (u:Int)=Lib.decDigits u:=by unfold Lib.itoa;rw[if_neg (by omega)];simp
theorem decM_small{u:Nat}(h:u<10):Lib.decDigits u=[UInt8.ofNat (48+u)]:=by rw[Lib.decDigits,dif_pos h]
theorem decM_big{u:Nat}(h:¬ u<10):Lib.decDigits u=Lib.decDigits (u / 10)++[UInt8.ofNat (48+u % 10)]:=by rw[Lib.decDigits,dif_neg h]
set_option maxHeartbeats 8000000 in
theorem small_at:∀ (k u:Nat),u<=k->u<=65536->FSpec Tryz.prog T 86 [.i .i64 (u:Nat)] (fun d _=>d = .s (Lib.itoa (u:Nat))):=by
 have base:∀ u:Nat,u<10->FSpec Tryz.prog T 86 [.i .i64 (u:Nat)] (fun d _=>d = .s (Lib.itoa (u:Nat))):=fun u hu=>by
  have h1:[[D.i IntKind.u8 (IntKind.u8.wrap (48+(u:Int)))]].take 1=[UInt8.ofNat (48+u)].map bcell:=by
   rw[show IntKind.u8.wrap (48+(u:Int))=48+(u:Int) by rw[IntKind.wrap_u8];omega]
   have:(UInt8.ofNat (48+u)).toNat=48+u:=by rw[UInt8.toNat_ofNat'];omega
   simp[bcell,this]
   omega
  refine FSpec.of_ok tok Tryz.func86 rfl Tryz.call86 (by simp) ?_
  (try (conv=>whnf));repeat' (first|(refine⟨_,h1,?_⟩;conv=>whnf)|refine Ok.seq ?_|((first|refine Ok.region tok ?_|refine Ok.cond ?_|refine Ok.ret ?_|refine nI ?_);conv=>whnf)|(refine bI ?_ ?_<;>intro<;>(conv=>whnf)<;>(try (exfalso;omega)))|((first|refine aJ ?_|refine num_any ?_);conv=>whnf)|fail)
  all_goals first
   | (exfalso;omega)
   | (refine Or.inl ?_;(conv=>whnf)
      rw[itoaM_pos,decM_small hu]
      first|done|rfl)
 intro k
 induction k with
 | zero=>exact fun u hu _=>base u (by omega)
 | succ k ih=>
  intro u hu hb
  by_cases hs:u<10
  . exact base u hs
  . have hq:((u:Nat):Int).tdiv 10=((u / 10:Nat):Int):=rfl
    have hr:((u:Nat):Int).tmod 10=((u % 10:Nat):Int):=rfl
    have hi:=ih (u / 10) (by omega) (by omega)
    have hd:=base (u % 10) (by omega)
    have hil:=Lib.itoa_length_le ((u / 10:Nat):Int) (by omega) (by omega)
    have hdl:=Lib.itoa_length_le ((u % 10:Nat):Int) (by omega) (by omega)
    rw[<- hq] at hi hil
    rw[<- hr] at hd hdl
    refine FSpec.of_ok tok Tryz.func86 rfl Tryz.call86 (by simp) ?_
    (try (conv=>whnf));repeat' (first|refine Ok.seq ?_|((first|refine Ok.region tok ?_|refine Ok.cond ?_|refine Ok.skip ?_|refine Ok.ret ?_|refine nI ?_|refine⟨_,by assumption,?_⟩);conv=>whnf)|(refine Or.inl ?_;(conv=>whnf);(repeat (refine aI ?_;conv=>whnf));refine⟨_,hi,rfl,?_⟩;conv=>whnf)|(refine Or.inl ?_;(conv=>whnf);(repeat (refine aI ?_;conv=>whnf));refine⟨_,hd,rfl,?_⟩;conv=>whnf)|(refine bI ?_ ?_<;>intro<;>(conv=>whnf)<;>(try (exfalso;omega)))|(refine aJ ?_;conv=>whnf)|fail)
    all_goals first
     | (exfalso;omega)
     | (refine Or.inl ?_;(conv=>whnf)
        rw[hq,hr,itoaM_pos,itoaM_pos,itoaM_pos,decM_big hs,decM_small (by omega:u % 10<10)]
        rfl)
set_option maxHeartbeats 8000000 in
theorem total_at(c:Config)(hc:c.Ok)(hn:c.boxes.l.length<=16):FSpec Tryz.prog T 44 [.agg c.row] (fun d rows=>rows=[]/\∃ n:Nat,d = .i .i64 (n:Nat)/\(n<46->nPorts c.b.boxes<46/\nLines c.b.boxes<46/\nRules c.b.boxes<46/\nRoutes c.b.boxes<46)):=by
 have hbl:(c.boxes.l.map Box.row).length=c.boxes.l.length:=by simp
 refine FSpec.of_ok tok Tryz.func44 rfl Tryz.call44 (by simp) ?_
 (try (conv=>whnf));repeat' (first|refine Ok.seq ?_|(refine Ok.region tok ?_;conv=>whnf)|refine Ok.block ?_|fail)
 refine Ok.loopU [1] [3,4,5,6,7] 0 1 (fun (x:Nat × Nat × Nat × Nat × Nat)=>[.i .i64 (x.2.1:Nat),.i .i64 (x.2.2.1:Nat),.i .i64 (x.2.2.2.1:Nat),.i .i64 (x.2.2.2.2:Nat),.i .i64 (x.1:Nat)]) (fun _ b=>b) (fun _ r=>r) (fun (x:Nat × Nat × Nat × Nat × Nat)=>x.1<=c.boxes.l.length/\x.2.1=nPorts ((c.boxes.l.take x.1).map Box.b)/\x.2.2.1=nRules ((c.boxes.l.take x.1).map Box.b)/\x.2.2.2.1=nLines ((c.boxes.l.take x.1).map Box.b)/\x.2.2.2.2=nRoutes ((c.boxes.l.take x.1).map Box.b)/\x.2.1<=2097152*x.1/\x.2.2.1<=2097152*x.1/\x.2.2.2.1<=2097152*x.1/\x.2.2.2.2<=2097152*x.1) (fun (x:Nat × Nat × Nat × Nat × Nat)=>c.boxes.l.length - x.1) ((0,0,0,0,0)) (⟨Nat.zero_le _,rfl,rfl,rfl,rfl,Nat.zero_le _,Nat.zero_le _,Nat.zero_le _,Nat.zero_le _⟩) ?_;(conv=>whnf);refine⟨by ((conv=>whnf);first|rfl|(simp[envCat, List.take_of_length_le, SI.row, Node.row, Pfx.row, Link.row, srow, Line.row, Rule.row, Box.row, Slc.row, Config.row, Function.comp_def];done)|(simp[envCat, List.take_of_length_le, SI.row, Node.row, Pfx.row, Link.row, srow, Line.row, Rule.row, Box.row, Slc.row, Config.row, Function.comp_def];rw[IntKind.wrap_i64];omega)),?_⟩
 rintro⟨i,p,r,l,o⟩ ⟨hi,h1,h2,h3,h4,b1,b2,b3,b4⟩
 dsimp only at hi h1 h2 h3 h4 b1 b2 b3 b4 ⊢
 (conv=>whnf)
 by_cases hil:i<c.boxes.l.length
 . obtain⟨x,hx⟩:∃ x,c.boxes.l[i]? = some x:=⟨_,List.getElem?_eq_getElem hil⟩
   have hxI:c.boxes.l[((i:Nat):Int).toNat]? = some x:=hx
   have hxo:=hc.box x (List.mem_of_getElem? hx)
   have q1:=hxo.ins
   have q2:=hxo.outs
   have q3:=hxo.guards
   have q4:=hxo.rules
   have q5:=hxo.owns
   have q6:=hxo.routes
   have htk:(c.boxes.l.take (i+1)).map Box.b=(c.boxes.l.take i).map Box.b++[x.b]:=by rw[List.take_add_one,hx];simp
   have e1:(x.ins.l.map srow).length=x.ins.l.length:=by simp
   have e2:(x.outs.l.map srow).length=x.outs.l.length:=by simp
   have e3:(x.guards.l.map Line.row).length=x.guards.l.length:=by simp
   have e4:(x.rules.l.map Rule.row).length=x.rules.l.length:=by simp
   have e5:(x.owns.l.map Pfx.row).length=x.owns.l.length:=by simp
   have e6:(x.routes.l.map Pfx.row).length=x.routes.l.length:=by simp
   (try (conv=>whnf));repeat' (first|refine Ok.seq ?_|((first|refine Ok.region tok ?_|refine Ok.cond ?_);conv=>whnf)|refine Ok.block ?_|((first|refine Ok.skip ?_|refine nI ?_|refine ix _ (by assumption) ?_);conv=>whnf)|(refine bI ?_ ?_<;>intro<;>(conv=>whnf)<;>(try (exfalso;omega)))|fail)
   all_goals first
    | (exfalso;omega)
    | (refine⟨(i+1,p+x.ins.l.length+x.outs.l.length,r+x.rules.l.length,l+x.guards.l.length,o+x.owns.l.length+x.routes.l.length),by dsimp only;omega,⟨by dsimp only;omega,?_,?_,?_,?_,by dsimp only;omega,by dsimp only;omega,by dsimp only;omega,by dsimp only;omega⟩,?_⟩
       . dsimp only
         rw[htk,h1]
         simp[nPorts,Box.b]
         omega
       . dsimp only
         rw[htk,h2]
         simp[nRules,Box.b]
       . dsimp only
         rw[htk,h3]
         simp[nLines,Box.b]
       . dsimp only
         rw[htk,h4]
         simp[nRoutes,Box.b]
         omega
       . (conv=>whnf)
         simp[envCat])
 . obtain rfl:i=c.boxes.l.length:=by omega
   rw[List.take_length] at h1 h2 h3 h4
   have f1:nPorts c.b.boxes=p:=h1.symm
   have f2:nRules c.b.boxes=r:=h2.symm
   have f3:nLines c.b.boxes=l:=h3.symm
   have f4:nRoutes c.b.boxes=o:=h4.symm
   (try (conv=>whnf));repeat' (first|refine Ok.seq ?_|((first|refine Ok.region tok ?_|refine Ok.cond ?_|refine Ok.exit ?_|refine Ok.ret ?_);conv=>whnf)|(refine bI ?_ ?_<;>intro<;>(conv=>whnf)<;>(try (exfalso;omega)))|(refine num_any ?_;conv=>whnf)|fail)
   all_goals first
    | (exfalso;omega)
    | (refine Or.inl ?_;(conv=>whnf)
       refine⟨rfl,max (max (max p r) l) o,?_,by omega⟩
       have:Vx.mx (Vx.mx (Vx.mx (p:Int) r) l) o=((max (max (max p r) l) o:Nat):Int):=by unfold Vx.mx;split<;>split<;>split<;>omega
       rw[<- this]
       rfl)
end Go.Proofs.YtcglkonooeddfaaGreatDoor
namespace Go.Proofs.YtcglkonooeddfaaGreatDoor
open Go Go.Vx
def Few(c:ConfigB):Prop:=nPorts c.boxes<46/\nLines c.boxes<46/\nRules c.boxes<46/\nRoutes c.boxes<46/\c.links.length<48/\c.slices.length<8
def marQ:Exit->St->Prop:=endQ T Tryz.f12 fun d _=>d = .b True
set_option maxRecDepth 100000 in
set_option maxHeartbeats 16000000 in
theorem mar_tail(c:Config)(hc:c.Ok)(h0:(checkO c.b).1=0)(d:Config)(hd:d.Ok)(ht:d.Tx)(e:Int)(s:Str)(hg:e ≠ 0->Few c.b->checkO d.b=(e,s))
    (htot:FSpec Tryz.prog T 44 [.agg c.row] (fun d rows=>rows=[]/\∃ n:Nat,d = .i .i64 (n:Nat)/\(n<46->nPorts c.b.boxes<46/\nLines c.b.boxes<46/\nRules c.b.boxes<46/\nRoutes c.b.boxes<46))) :
    Ok Tryz.prog T (sndN 4 marC) marQ ⟨[(3,.bp 0 0),(7,.bp 4 0),(8,.i .i64 e),(9,.s s)],[c.row,us7,us7,us7,d.row],[],Tryz.f12.ntmps⟩:=by
 have hll:(c.links.l.map Link.row).length=c.links.l.length:=by simp
 have hsl:(c.slices.l.map Slc.row).length=c.slices.l.length:=by simp
 have hcl:c.b.links.length=c.links.l.length:=rfl
 have hcs:c.b.slices.length=c.slices.l.length:=by simp[Config.b]
 have r:=mcheck_at word_ok itoa_ok d hd ht
 have f:=mfind_q d hd ht [82,49,46,97]
 have p:=fun q=>mports_bad d hd ht q
 have m:=fun q=>medges_bad d hd ht q
 unfold marC marQ
 by_cases he:e=0
 . (try (conv=>whnf));repeat' (first|refine Ok.seq ?_|((first|refine Ok.region tok ?_|refine Ok.cond ?_|refine Ok.ret ?_);conv=>whnf)|(refine Or.inl ?_;(conv=>whnf);(repeat (refine aI ?_;conv=>whnf));refine⟨_,mknown_at,rfl,?_⟩;conv=>whnf)|(refine bI ?_ ?_<;>intro<;>(conv=>whnf)<;>(try (exfalso;omega)))|fail)
   all_goals first
    | (exfalso;omega)
    | (refine Or.inl ?_;(conv=>whnf)
       first|rfl|exact absurd he (by assumption))
 by_cases hl:c.links.l.length<48
 . by_cases hs:c.slices.l.length<8
   . by_cases hb:nPorts c.b.boxes<46/\nLines c.b.boxes<46/\nRules c.b.boxes<46/\nRoutes c.b.boxes<46
     . have hk:=hg he ⟨hb.1,hb.2.1,hb.2.2.1,hb.2.2.2,by omega,by omega⟩
       have hf:findP d.b [82,49,46,97]=-1:=by unfold findP;rw[if_pos (by rw[hk];exact he)]
       have p:=p (by rw[hk];exact he)
       have m:=m (by rw[hk];exact he)
       rw[hk] at r p m
       rw[hf] at f
       (try (conv=>whnf));repeat' (first|refine Ok.seq ?_|((first|refine Ok.region tok ?_|refine Ok.cond ?_|refine Ok.skip ?_|refine Ok.ret ?_);conv=>whnf)|(refine Or.inl ?_;(conv=>whnf);(repeat (refine aI ?_;conv=>whnf));refine⟨_,r,rfl,?_⟩;conv=>whnf)|(refine Or.inl ?_;(conv=>whnf);(repeat (refine aI ?_;conv=>whnf));refine⟨_,f,rfl,?_⟩;conv=>whnf)|(refine Or.inl ?_;(conv=>whnf);(repeat (refine aI ?_;conv=>whnf));refine⟨_,munum_at e,rfl,?_⟩;conv=>whnf)|(refine Or.inl ?_;(conv=>whnf);(repeat (refine aI ?_;conv=>whnf));refine⟨_,mknown_at,rfl,?_⟩;conv=>whnf)|(refine Or.inr (Or.inl ?_);(conv=>whnf);(repeat (refine aI ?_;conv=>whnf));refine⟨_,htot , ?_⟩;rintro _ _ ⟨rfl,n,rfl,hn⟩<;>(conv=>whnf))|(refine Or.inr (Or.inl ?_);(conv=>whnf);(repeat (refine aI ?_;conv=>whnf));refine⟨_,p,?_⟩;rintro _ _ ⟨rfl,rfl⟩<;>(conv=>whnf))|(refine Or.inr (Or.inl ?_);(conv=>whnf);(repeat (refine aI ?_;conv=>whnf));refine⟨_,m,?_⟩;rintro _ _ ⟨rfl,rfl⟩<;>(conv=>whnf))|(refine bI ?_ ?_<;>intro<;>(conv=>whnf)<;>(try (exfalso;omega)))|fail)
       all_goals first
        | (exfalso;omega)
        | (refine Or.inl ?_;(conv=>whnf)
           first|rfl|exact absurd rfl (by assumption))
     . (try (conv=>whnf));repeat' (first|refine Ok.seq ?_|((first|refine Ok.region tok ?_|refine Ok.cond ?_|refine Ok.ret ?_);conv=>whnf)|(refine Or.inl ?_;(conv=>whnf);(repeat (refine aI ?_;conv=>whnf));refine⟨_,mknown_at,rfl,?_⟩;conv=>whnf)|(refine Or.inr (Or.inl ?_);(conv=>whnf);(repeat (refine aI ?_;conv=>whnf));refine⟨_,htot , ?_⟩;rintro _ _ ⟨rfl,n,rfl,hn⟩<;>(conv=>whnf))|(refine bI ?_ ?_<;>intro<;>(conv=>whnf)<;>(try (exfalso;omega)))|fail)
       all_goals first
        | (exfalso;omega)
        | (refine Or.inl ?_;(conv=>whnf)
           rfl)
   . (try (conv=>whnf));repeat' (first|refine Ok.seq ?_|((first|refine Ok.region tok ?_|refine Ok.cond ?_|refine Ok.ret ?_);conv=>whnf)|(refine Or.inl ?_;(conv=>whnf);(repeat (refine aI ?_;conv=>whnf));refine⟨_,mknown_at,rfl,?_⟩;conv=>whnf)|(refine bI ?_ ?_<;>intro<;>(conv=>whnf)<;>(try (exfalso;omega)))|fail)
     all_goals first
      | (exfalso;omega)
      | (refine Or.inl ?_;(conv=>whnf)
         rfl)
 . (try (conv=>whnf));repeat' (first|refine Ok.seq ?_|((first|refine Ok.region tok ?_|refine Ok.cond ?_|refine Ok.ret ?_);conv=>whnf)|(refine Or.inl ?_;(conv=>whnf);(repeat (refine aI ?_;conv=>whnf));refine⟨_,mknown_at,rfl,?_⟩;conv=>whnf)|(refine bI ?_ ?_<;>intro<;>(conv=>whnf)<;>(try (exfalso;omega)))|fail)
   all_goals first
    | (exfalso;omega)
    | (refine Or.inl ?_;(conv=>whnf)
       rfl)
end Go.Proofs.YtcglkonooeddfaaGreatDoor
namespace Go.Proofs.YtcglkonooeddfaaGreatDoor
open Go Go.Vx
theorem rowC(t:Str)(F:List SI)(r:Str)(sl:Prop)(B:List Box)(L:List Link)(S:List Slc){F' B' L' S':List (List D)}{nf nb nl ns:Nat}(hF:F.map SI.row=F')(hB:B.map Box.row=B')(hL:L.map Link.row=L')(hS:S.map Slc.row=S')
    (kf:F'.length=nf)(kb:B'.length=nb)(kl:L'.length=nl)(ks:S'.length=ns) :
    (⟨t,⟨F,[]⟩,r,sl,⟨B,[]⟩,⟨L,[]⟩,⟨S,[]⟩⟩:Config).row=[.s t,.lst 127 (F'.take nf) (F'.drop nf),.s r,.b sl,.lst 87 (B'.take nb) (B'.drop nb),.lst 91 (L'.take nl) (L'.drop nl),.lst 54 (S'.take ns) (S'.drop ns)]:=by
 subst hF hB hL hS kf kb kl ks
 simp only[List.take_length,List.drop_length,Config.row]
def marD(c:Config)(i:Nat)(b:Box):Config:=⟨c.title,⟨c.fields.l,[]⟩,c.routing,c.slim,⟨(c.boxes.l.map boxC).set i b,[]⟩,⟨c.links.l,[]⟩,⟨c.slices.l.map slcC,[]⟩⟩
theorem marD_b(c:Config)(i:Nat)(b:Box):(marD c i b).b=putB c.b i b.b:=by
 simp[marD,putB,Config.b,List.map_set,Function.comp_def,boxC_b,slcC_b]
theorem slcC_okM{x:Slc}(h:x.Ok):(slcC x).Ok:=⟨h.ports,h.whr⟩
theorem slcC_txM{x:Slc}(h:x.Tx):(slcC x).Tx:=⟨h.name,h.ports,h.whr⟩
theorem mem_set_or{α:Type}{l:List α}{i:Nat}{a x:α}(h:x ∈ l.set i a):x ∈ l\/x=a:=List.mem_or_eq_of_mem_set h
theorem marD_ok{c:Config}{i:Nat}{b:Box}(h:c.Ok)(hb:b.Ok):(marD c i b).Ok:=by
 refine⟨h.fields,by simpa[marD] using h.boxes,h.links,by simpa[marD] using h.slices,fun x hx=>?_,fun s hs=>?_⟩
 . rcases mem_set_or hx with hx|rfl
   . obtain⟨y,hy,rfl⟩:=List.mem_map.1 hx
     exact boxC_ok (h.box y hy)
   . exact hb
 . obtain⟨y,hy,rfl⟩:=List.mem_map.1 hs
   exact slcC_okM (h.slc y hy)
theorem marD_tx{c:Config}{i:Nat}{b:Box}(h:c.Tx)(hb:b.Tx):(marD c i b).Tx:=by
 refine⟨h.title,h.fields,h.routing,fun x hx=>?_,h.links,fun s hs=>?_⟩
 . rcases mem_set_or hx with hx|rfl
   . obtain⟨y,hy,rfl⟩:=List.mem_map.1 hx
     exact boxC_tx (h.boxes y hy)
   . exact hb
 . obtain⟨y,hy,rfl⟩:=List.mem_map.1 hs
   exact slcC_txM (h.slices y hy)
structure Mar(c:Config):Prop where
 ok:c.Ok
 tx:c.Tx
 z:(checkO c.b).1=0
theorem Mar.boxes{c:Config}(h:Mar c):c.boxes.l.length<=16:=by
 have:=(cnt_zero.1 (check_parts h.z).2.1).1
 simpa[Config.b] using this
theorem tailD{c:Config}(h:Mar c){i:Nat}(b:Box)(hb:b.Ok)(hbt:b.Tx){cells:List D}(hcell:b.row=cells)(e:Int)(s:Str)(hg:e ≠ 0->Few c.b->checkO (putB c.b i b.b)=(e,s)) :
    Ok Tryz.prog T (sndN 4 marC) marQ ⟨[(3,.bp 0 0),(7,.bp 4 0),(8,.i .i64 e),(9,.s s)],[c.row,us7,us7,us7,[.s c.title,.lst 127 ((c.fields.l.map SI.row).take c.fields.l.length) ((c.fields.l.map SI.row).drop c.fields.l.length),.s c.routing,.b c.slim,
     .lst 87 (((c.boxes.l.map fun x=>(boxC x).row).set i cells).take c.boxes.l.length) (((c.boxes.l.map fun x=>(boxC x).row).set i cells).drop c.boxes.l.length),.lst 91 ((c.links.l.map Link.row).take c.links.l.length) ((c.links.l.map Link.row).drop c.links.l.length),
     .lst 54 ((c.slices.l.map fun x=>(slcC x).row).take c.slices.l.length) ((c.slices.l.map fun x=>(slcC x).row).drop c.slices.l.length)]],[],Tryz.f12.ntmps⟩:=by
 have t:=mar_tail c h.ok h.z (marD c i b) (marD_ok h.ok hb) (marD_tx h.tx hbt) e s (by rw[marD_b];exact hg) (total_at c h.ok h.boxes)
 have r:(marD c i b).row=_:=rowC c.title c.fields.l c.routing c.slim ((c.boxes.l.map boxC).set i b) c.links.l (c.slices.l.map slcC) (F':=c.fields.l.map SI.row) (B':=(c.boxes.l.map fun x=>(boxC x).row).set i cells) (L':=c.links.l.map Link.row) (S':=c.slices.l.map fun x=>(slcC x).row)
  (nf:=c.fields.l.length) (nb:=c.boxes.l.length) (nl:=c.links.l.length) (ns:=c.slices.l.length) rfl (by simp[List.map_set,Function.comp_def,hcell]) rfl (by simp[Function.comp_def]) (by simp) (by simp) (by simp) (by simp)
 rw[r] at t
 exact t
set_option maxRecDepth 100000 in
set_option maxHeartbeats 16000000 in
/-- The copy,its lists told. -/
theorem mar_copy0(c:Config)(hc:c.Ok){i:Nat}{y:Box}(hy:c.boxes.l[i]? = some y){dw da:Int}{Q:Exit->St->Prop}
    (h:Ok Tryz.prog T (sndN 3 marC) Q ⟨[(1,.i .i64 dw),(2,.i .i64 da),(3,.bp 0 0),(7,.bp 4 0)],[c.row,us7,us7,us7,[.s c.title,.own 0 c.fields.l.length,.s c.routing,.b c.slim,.own 1 c.boxes.l.length,.own 2 c.links.l.length,.own 3 c.slices.l.length]],
        [some (127,c.fields.l.map SI.row),some (87,c.boxes.l.map fun x=>(boxC x).row),some (91,c.links.l.map Link.row),some (54,c.slices.l.map fun x=>(slcC x).row)],Tryz.f12.ntmps⟩) :
    Ok Tryz.prog T (sndN 2 marC) Q ⟨[(1,.i .i64 dw),(2,.i .i64 da),(3,.bp 0 0)],[c.row],[],Tryz.f12.ntmps⟩:=by
 refine mar_copy c hc hy fun d1 t1 d2 t2 d3 t3 r1 r2 r3=>?_
 have hil:i<(c.boxes.l.map fun x=>(boxC x).row).length:=by simpa using (List.getElem?_eq_some_iff.1 hy).1
 have hyr:(c.boxes.l.map fun x=>(boxC x).row)[i]? = some (boxC y).row:=by rw[List.getElem?_map,hy];rfl
 have hset:(c.boxes.l.map fun x=>(boxC x).row).set i (boxC y).row=c.boxes.l.map fun x=>(boxC x).row:=by
  apply List.ext_getElem?
  intro q
  by_cases hq:i=q
  . subst hq
    rw[List.getElem?_set_self hil,hyr]
  . rw[List.getElem?_set_ne hq]
 rw[show (boxC y).row=rawB y (.lst 9 (y.outs.l.map srow) []) (.lst 112 (y.guards.l.map fun g=>(lineC g).row) []) (.lst 115 (y.rules.l.map fun r=>(ruleC r).row) []) by simp[boxC,Box.row,rawB,Function.comp_def]] at hset
 have q1:=r1
 have q2:=r2
 have q3:=r3
 rcases r1 with h1|⟨g1,c1,e1⟩<;>rcases r2 with h2|⟨g2,c2,e2⟩<;>rcases r3 with h3|⟨g3,c3,e3⟩
 all_goals
  refine Ok.pubL 500 5 1 i 2 q1 rfl rfl rfl (by decide) (List.getElem?_set_self hil) rfl ?_
  (conv=>whnf)
  refine Ok.pubL 501 6 1 i 3 q2 rfl rfl rfl (by decide) (List.getElem?_set_self (by rw[List.length_set];exact hil)) rfl ?_
  (conv=>whnf)
  refine Ok.pubL 502 7 1 i 4 q3 rfl rfl rfl (by decide) (List.getElem?_set_self (by rw[List.length_set,List.length_set];exact hil)) rfl ?_
  (conv=>whnf)
  refine Ok.keep [1,2,3,7] 4 5 ?_
  (conv=>whnf)
  rw[List.set_set,List.set_set,List.set_set]
  refine Eq.mp (congrArg (fun z=>Ok Tryz.prog T (sndN 3 marC) Q ⟨[(1,.i .i64 dw),(2,.i .i64 da),(3,.bp 0 0),(7,.bp 4 0)],[c.row,us7,us7,us7,[.s c.title,.own 0 c.fields.l.length,.s c.routing,.b c.slim,.own 1 c.boxes.l.length,.own 2 c.links.l.length,.own 3 c.slices.l.length]],
      [some (127,c.fields.l.map SI.row),some (87,z),some (91,c.links.l.map Link.row),some (54,c.slices.l.map fun x=>(slcC x).row)],Tryz.f12.ntmps⟩) hset.symm) h
end Go.Proofs.YtcglkonooeddfaaGreatDoor
namespace Go.Proofs.YtcglkonooeddfaaGreatDoor
open Go Go.Vx
def marIx(a:Int)(n:Nat):Nat:=if a.tmod (n:Nat)<0 then 0 else (a.tmod (n:Nat)).toNat
noncomputable def marF:Code:=Tryz.f43.body.getD .ret
theorem marIx_lt{a:Int}{n:Nat}(h:0<n):marIx a n<n:=by
 have:=Int.tmod_lt_of_pos a (b:=(n:Int)) (by omega)
 unfold marIx
 split<;>omega
set_option maxRecDepth 100000 in
set_option maxHeartbeats 16000000 in
theorem mar_copyO(c:Config)(hc:c.Ok){i:Nat}{y:Box}(hy:c.boxes.l[i]? = some y){dw da:Int}{Q:Exit->St->Prop}
    (h:∀ d t,RawL 5 y.outs.l.length (y.outs.l.map srow) d t->Ok Tryz.prog T (sndN 3 marC) Q ⟨[(1,.i .i64 dw),(2,.i .i64 da),(3,.bp 0 0),(7,.bp 4 0),(500,t)],[c.row,us7,us7,us7,[.s c.title,.own 0 c.fields.l.length,.s c.routing,.b c.slim,.own 1 c.boxes.l.length,.own 2 c.links.l.length,.own 3 c.slices.l.length]],[some (127,c.fields.l.map SI.row),some (87,((c.boxes.l.map fun x=>(boxC x).row).set i (rawB y d (.lst 112 (y.guards.l.map fun g=>(lineC g).row) []) (.lst 115 (y.rules.l.map fun r=>(ruleC r).row) [])))),some (91,c.links.l.map Link.row),some (54,c.slices.l.map fun x=>(slcC x).row),none,some (9,y.outs.l.map srow)],Tryz.f12.ntmps⟩) :
    Ok Tryz.prog T (sndN 2 marC) Q ⟨[(1,.i .i64 dw),(2,.i .i64 da),(3,.bp 0 0)],[c.row],[],Tryz.f12.ntmps⟩:=by
 refine mar_copy c hc hy fun d1 t1 d2 t2 d3 t3 r1 r2 r3=>?_
 have hil:i<(c.boxes.l.map fun x=>(boxC x).row).length:=by simpa using (List.getElem?_eq_some_iff.1 hy).1
 have q1:=r1
 have q2:=r2
 have q3:=r3
 have hh:=h _ _ q1
 rcases r1 with h1|⟨g1,c1,e1⟩<;>rcases r2 with h2|⟨g2,c2,e2⟩<;>rcases r3 with h3|⟨g3,c3,e3⟩
 all_goals
  refine Ok.pubL 501 6 1 i 3 q2 rfl rfl rfl (by decide) (List.getElem?_set_self hil) rfl ?_
  (conv=>whnf)
  refine Ok.pubL 502 7 1 i 4 q3 rfl rfl rfl (by decide) (List.getElem?_set_self (by rw[List.length_set];exact hil)) rfl ?_
  (conv=>whnf)
  refine Ok.keep [1,2,3,7,500] 6 5 ?_
  (conv=>whnf)
  rw[List.set_set,List.set_set]
  exact hh
set_option maxRecDepth 100000 in
set_option maxHeartbeats 16000000 in
theorem mar_copyG(c:Config)(hc:c.Ok){i:Nat}{y:Box}(hy:c.boxes.l[i]? = some y){dw da:Int}{Q:Exit->St->Prop}
    (h:∀ d t,RawL 6 y.guards.l.length (y.guards.l.map fun g=>(lineC g).row) d t->Ok Tryz.prog T (sndN 3 marC) Q ⟨[(1,.i .i64 dw),(2,.i .i64 da),(3,.bp 0 0),(7,.bp 4 0),(501,t)],[c.row,us7,us7,us7,[.s c.title,.own 0 c.fields.l.length,.s c.routing,.b c.slim,.own 1 c.boxes.l.length,.own 2 c.links.l.length,.own 3 c.slices.l.length]],[some (127,c.fields.l.map SI.row),some (87,((c.boxes.l.map fun x=>(boxC x).row).set i (rawB y (.lst 9 (y.outs.l.map srow) []) d (.lst 115 (y.rules.l.map fun r=>(ruleC r).row) [])))),some (91,c.links.l.map Link.row),some (54,c.slices.l.map fun x=>(slcC x).row),none,none,some (112,y.guards.l.map fun g=>(lineC g).row)],Tryz.f12.ntmps⟩) :
    Ok Tryz.prog T (sndN 2 marC) Q ⟨[(1,.i .i64 dw),(2,.i .i64 da),(3,.bp 0 0)],[c.row],[],Tryz.f12.ntmps⟩:=by
 refine mar_copy c hc hy fun d1 t1 d2 t2 d3 t3 r1 r2 r3=>?_
 have hil:i<(c.boxes.l.map fun x=>(boxC x).row).length:=by simpa using (List.getElem?_eq_some_iff.1 hy).1
 have q1:=r1
 have q2:=r2
 have q3:=r3
 have hh:=h _ _ q2
 rcases r1 with h1|⟨g1,c1,e1⟩<;>rcases r2 with h2|⟨g2,c2,e2⟩<;>rcases r3 with h3|⟨g3,c3,e3⟩
 all_goals
  refine Ok.pubL 500 5 1 i 2 q1 rfl rfl rfl (by decide) (List.getElem?_set_self hil) rfl ?_
  (conv=>whnf)
  refine Ok.pubL 502 7 1 i 4 q3 rfl rfl rfl (by decide) (List.getElem?_set_self (by rw[List.length_set];exact hil)) rfl ?_
  (conv=>whnf)
  refine Ok.keep [1,2,3,7,501] 7 5 ?_
  (conv=>whnf)
  rw[List.set_set,List.set_set]
  exact hh
set_option maxRecDepth 100000 in
set_option maxHeartbeats 16000000 in
theorem mar_copyR(c:Config)(hc:c.Ok){i:Nat}{y:Box}(hy:c.boxes.l[i]? = some y){dw da:Int}{Q:Exit->St->Prop}
    (h:∀ d t,RawL 7 y.rules.l.length (y.rules.l.map fun r=>(ruleC r).row) d t->Ok Tryz.prog T (sndN 3 marC) Q ⟨[(1,.i .i64 dw),(2,.i .i64 da),(3,.bp 0 0),(7,.bp 4 0),(502,t)],[c.row,us7,us7,us7,[.s c.title,.own 0 c.fields.l.length,.s c.routing,.b c.slim,.own 1 c.boxes.l.length,.own 2 c.links.l.length,.own 3 c.slices.l.length]],[some (127,c.fields.l.map SI.row),some (87,((c.boxes.l.map fun x=>(boxC x).row).set i (rawB y (.lst 9 (y.outs.l.map srow) []) (.lst 112 (y.guards.l.map fun g=>(lineC g).row) []) d))),some (91,c.links.l.map Link.row),some (54,c.slices.l.map fun x=>(slcC x).row),none,none,none,some (115,y.rules.l.map fun r=>(ruleC r).row)],Tryz.f12.ntmps⟩) :
    Ok Tryz.prog T (sndN 2 marC) Q ⟨[(1,.i .i64 dw),(2,.i .i64 da),(3,.bp 0 0)],[c.row],[],Tryz.f12.ntmps⟩:=by
 refine mar_copy c hc hy fun d1 t1 d2 t2 d3 t3 r1 r2 r3=>?_
 have hil:i<(c.boxes.l.map fun x=>(boxC x).row).length:=by simpa using (List.getElem?_eq_some_iff.1 hy).1
 have q1:=r1
 have q2:=r2
 have q3:=r3
 have hh:=h _ _ q3
 rcases r1 with h1|⟨g1,c1,e1⟩<;>rcases r2 with h2|⟨g2,c2,e2⟩<;>rcases r3 with h3|⟨g3,c3,e3⟩
 all_goals
  refine Ok.pubL 500 5 1 i 2 q1 rfl rfl rfl (by decide) (List.getElem?_set_self hil) rfl ?_
  (conv=>whnf)
  refine Ok.pubL 501 6 1 i 3 q2 rfl rfl rfl (by decide) (List.getElem?_set_self (by rw[List.length_set];exact hil)) rfl ?_
  (conv=>whnf)
  refine Ok.keep [1,2,3,7,502] 8 5 ?_
  (conv=>whnf)
  rw[List.set_set,List.set_set]
  exact hh
set_option maxRecDepth 100000 in
set_option maxHeartbeats 16000000 in
theorem mar_pre0(c:Config)(hc:c.Ok)(h0:0<c.boxes.l.length){i:Nat}{dw da:Int}(hda:-9223372036854775808<=da/\da<=9223372036854775807)(hi:marIx da c.boxes.l.length=i){Q:Exit->St->Prop}
    (h:Ok Tryz.prog T (sndN 5 marF) Q ⟨[(0,.bp 4 0),(1,.i .i64 dw),(8,.i .i64 (i:Nat)),(9,.op 1 87 i 0),(213,.bp 0 0),(217,.bp 4 0)],[c.row,us7,us7,us7,[.s c.title,.own 0 c.fields.l.length,.s c.routing,.b c.slim,.own 1 c.boxes.l.length,.own 2 c.links.l.length,.own 3 c.slices.l.length]],[some (127,c.fields.l.map SI.row),some (87,(c.boxes.l.map fun x=>(boxC x).row)),some (91,c.links.l.map Link.row),some (54,c.slices.l.map fun x=>(slcC x).row)],Tryz.f43.ntmps⟩) :
    Ok Tryz.prog T marF Q ⟨[(0,.bp 4 0),(1,.i .i64 dw),(2,.i .i64 da),(213,.bp 0 0),(217,.bp 4 0)],[c.row,us7,us7,us7,[.s c.title,.own 0 c.fields.l.length,.s c.routing,.b c.slim,.own 1 c.boxes.l.length,.own 2 c.links.l.length,.own 3 c.slices.l.length]],[some (127,c.fields.l.map SI.row),some (87,(c.boxes.l.map fun x=>(boxC x).row)),some (91,c.links.l.map Link.row),some (54,c.slices.l.map fun x=>(slcC x).row)],Tryz.f43.ntmps⟩:=by
 have hbl:(c.boxes.l.map fun x=>(boxC x).row).length=c.boxes.l.length:=by simp
 have hB:=hc.boxes
 have hix:=marIx_lt (a:=da) h0
 rw[hi] at hix
 unfold marF at h ⊢
 by_cases hneg:da.tmod ((c.boxes.l.length:Nat):Int)<0
 . have hi0:i=0:=by rw[<- hi];exact if_pos hneg
   subst hi0
   (try (conv=>whnf));repeat' (first|(refine Ok.keep (c:=sndN 5 (Tryz.f43.body.getD .ret)) [0,1,8,9,213,217] 4 5 ?_;(conv=>whnf);exact h)|refine Ok.seq ?_|((first|refine Ok.region tok ?_|refine Ok.cond ?_|refine Ok.skip ?_);conv=>whnf)|(refine bI ?_ ?_<;>intro<;>(conv=>whnf)<;>(try (exfalso;omega)))|((first|refine aJ ?_|refine num_any ?_);conv=>whnf)|fail)
   all_goals first
    | (exfalso;omega)
 . have hrem:da.tmod ((c.boxes.l.length:Nat):Int)=((i:Nat):Int):=by rw[<- hi];unfold marIx;rw[if_neg hneg];omega
   (try (conv=>whnf));repeat' (first|(refine Ok.keep (c:=sndN 5 (Tryz.f43.body.getD .ret)) [0,1,8,9,213,217] 4 5 ?_;(conv=>whnf);exact h)|refine Ok.seq ?_|((first|refine Ok.region tok ?_|refine⟨_,(hrem).symm,?_⟩|refine Ok.cond ?_|refine Ok.skip ?_);conv=>whnf)|(refine bI ?_ ?_<;>intro<;>(conv=>whnf)<;>(try (exfalso;omega)))|(refine aJ ?_;conv=>whnf)|fail)
   all_goals first
    | (exfalso;omega)
set_option maxRecDepth 100000 in
set_option maxHeartbeats 16000000 in
theorem mar_preO(c:Config)(hc:c.Ok)(h0:0<c.boxes.l.length){i:Nat}{y:Box}{dw da:Int}(hda:-9223372036854775808<=da/\da<=9223372036854775807)(hi:marIx da c.boxes.l.length=i){Q:Exit->St->Prop}{d t:D}(hr:RawL 5 y.outs.l.length (y.outs.l.map srow) d t)
    (h:Ok Tryz.prog T (sndN 5 marF) Q ⟨[(0,.bp 4 0),(1,.i .i64 dw),(8,.i .i64 (i:Nat)),(9,.op 1 87 i 0),(213,.bp 0 0),(217,.bp 4 0),(710,t)],[c.row,us7,us7,us7,[.s c.title,.own 0 c.fields.l.length,.s c.routing,.b c.slim,.own 1 c.boxes.l.length,.own 2 c.links.l.length,.own 3 c.slices.l.length]],[some (127,c.fields.l.map SI.row),some (87,((c.boxes.l.map fun x=>(boxC x).row).set i (rawB y d (.lst 112 (y.guards.l.map fun g=>(lineC g).row) []) (.lst 115 (y.rules.l.map fun r=>(ruleC r).row) [])))),some (91,c.links.l.map Link.row),some (54,c.slices.l.map fun x=>(slcC x).row),none,some (9,y.outs.l.map srow)],Tryz.f43.ntmps⟩) :
    Ok Tryz.prog T marF Q ⟨[(0,.bp 4 0),(1,.i .i64 dw),(2,.i .i64 da),(213,.bp 0 0),(217,.bp 4 0),(710,t)],[c.row,us7,us7,us7,[.s c.title,.own 0 c.fields.l.length,.s c.routing,.b c.slim,.own 1 c.boxes.l.length,.own 2 c.links.l.length,.own 3 c.slices.l.length]],[some (127,c.fields.l.map SI.row),some (87,((c.boxes.l.map fun x=>(boxC x).row).set i (rawB y d (.lst 112 (y.guards.l.map fun g=>(lineC g).row) []) (.lst 115 (y.rules.l.map fun r=>(ruleC r).row) [])))),some (91,c.links.l.map Link.row),some (54,c.slices.l.map fun x=>(slcC x).row),none,some (9,y.outs.l.map srow)],Tryz.f43.ntmps⟩:=by
 have hbl:(c.boxes.l.map fun x=>(boxC x).row).length=c.boxes.l.length:=by simp
 have hbs:((c.boxes.l.map fun x=>(boxC x).row).set i (rawB y d (.lst 112 (y.guards.l.map fun g=>(lineC g).row) []) (.lst 115 (y.rules.l.map fun r=>(ruleC r).row) []))).length=c.boxes.l.length:=by simp
 have hB:=hc.boxes
 have hix:=marIx_lt (a:=da) h0
 rw[hi] at hix
 unfold marF at h ⊢
 rcases hr with hr|⟨g,cp,hr⟩
 all_goals
  by_cases hneg:da.tmod ((c.boxes.l.length:Nat):Int)<0
  . have hi0:i=0:=by rw[<- hi];exact if_pos hneg
    subst hi0
    (try (conv=>whnf));repeat' (first|(refine Ok.keep (c:=sndN 5 (Tryz.f43.body.getD .ret)) [0,1,8,9,213,217,710] 6 5 ?_;(conv=>whnf);exact h)|refine Ok.seq ?_|((first|refine Ok.region tok ?_|refine Ok.cond ?_|refine Ok.skip ?_);conv=>whnf)|(refine bI ?_ ?_<;>intro<;>(conv=>whnf)<;>(try (exfalso;omega)))|((first|refine aJ ?_|refine num_any ?_);conv=>whnf)|fail)
    all_goals first
     | (exfalso;omega)
  . have hrem:da.tmod ((c.boxes.l.length:Nat):Int)=((i:Nat):Int):=by rw[<- hi];unfold marIx;rw[if_neg hneg];omega
    (try (conv=>whnf));repeat' (first|(refine Ok.keep (c:=sndN 5 (Tryz.f43.body.getD .ret)) [0,1,8,9,213,217,710] 6 5 ?_;(conv=>whnf);exact h)|refine Ok.seq ?_|((first|refine Ok.region tok ?_|refine⟨_,(hrem).symm,?_⟩|refine Ok.cond ?_|refine Ok.skip ?_);conv=>whnf)|(refine bI ?_ ?_<;>intro<;>(conv=>whnf)<;>(try (exfalso;omega)))|(refine aJ ?_;conv=>whnf)|fail)
    all_goals first
     | (exfalso;omega)
set_option maxRecDepth 100000 in
set_option maxHeartbeats 16000000 in
theorem mar_preG(c:Config)(hc:c.Ok)(h0:0<c.boxes.l.length){i:Nat}{y:Box}{dw da:Int}(hda:-9223372036854775808<=da/\da<=9223372036854775807)(hi:marIx da c.boxes.l.length=i){Q:Exit->St->Prop}{d t:D}(hr:RawL 6 y.guards.l.length (y.guards.l.map fun g=>(lineC g).row) d t)
    (h:Ok Tryz.prog T (sndN 5 marF) Q ⟨[(0,.bp 4 0),(1,.i .i64 dw),(8,.i .i64 (i:Nat)),(9,.op 1 87 i 0),(213,.bp 0 0),(217,.bp 4 0),(711,t)],[c.row,us7,us7,us7,[.s c.title,.own 0 c.fields.l.length,.s c.routing,.b c.slim,.own 1 c.boxes.l.length,.own 2 c.links.l.length,.own 3 c.slices.l.length]],[some (127,c.fields.l.map SI.row),some (87,((c.boxes.l.map fun x=>(boxC x).row).set i (rawB y (.lst 9 (y.outs.l.map srow) []) d (.lst 115 (y.rules.l.map fun r=>(ruleC r).row) [])))),some (91,c.links.l.map Link.row),some (54,c.slices.l.map fun x=>(slcC x).row),none,none,some (112,y.guards.l.map fun g=>(lineC g).row)],Tryz.f43.ntmps⟩) :
    Ok Tryz.prog T marF Q ⟨[(0,.bp 4 0),(1,.i .i64 dw),(2,.i .i64 da),(213,.bp 0 0),(217,.bp 4 0),(711,t)],[c.row,us7,us7,us7,[.s c.title,.own 0 c.fields.l.length,.s c.routing,.b c.slim,.own 1 c.boxes.l.length,.own 2 c.links.l.length,.own 3 c.slices.l.length]],[some (127,c.fields.l.map SI.row),some (87,((c.boxes.l.map fun x=>(boxC x).row).set i (rawB y (.lst 9 (y.outs.l.map srow) []) d (.lst 115 (y.rules.l.map fun r=>(ruleC r).row) [])))),some (91,c.links.l.map Link.row),some (54,c.slices.l.map fun x=>(slcC x).row),none,none,some (112,y.guards.l.map fun g=>(lineC g).row)],Tryz.f43.ntmps⟩:=by
 have hbl:(c.boxes.l.map fun x=>(boxC x).row).length=c.boxes.l.length:=by simp
 have hbs:((c.boxes.l.map fun x=>(boxC x).row).set i (rawB y (.lst 9 (y.outs.l.map srow) []) d (.lst 115 (y.rules.l.map fun r=>(ruleC r).row) []))).length=c.boxes.l.length:=by simp
 have hB:=hc.boxes
 have hix:=marIx_lt (a:=da) h0
 rw[hi] at hix
 unfold marF at h ⊢
 rcases hr with hr|⟨g,cp,hr⟩
 all_goals
  by_cases hneg:da.tmod ((c.boxes.l.length:Nat):Int)<0
  . have hi0:i=0:=by rw[<- hi];exact if_pos hneg
    subst hi0
    (try (conv=>whnf));repeat' (first|(refine Ok.keep (c:=sndN 5 (Tryz.f43.body.getD .ret)) [0,1,8,9,213,217,711] 7 5 ?_;(conv=>whnf);exact h)|refine Ok.seq ?_|((first|refine Ok.region tok ?_|refine Ok.cond ?_|refine Ok.skip ?_);conv=>whnf)|(refine bI ?_ ?_<;>intro<;>(conv=>whnf)<;>(try (exfalso;omega)))|((first|refine aJ ?_|refine num_any ?_);conv=>whnf)|fail)
    all_goals first
     | (exfalso;omega)
  . have hrem:da.tmod ((c.boxes.l.length:Nat):Int)=((i:Nat):Int):=by rw[<- hi];unfold marIx;rw[if_neg hneg];omega
    (try (conv=>whnf));repeat' (first|(refine Ok.keep (c:=sndN 5 (Tryz.f43.body.getD .ret)) [0,1,8,9,213,217,711] 7 5 ?_;(conv=>whnf);exact h)|refine Ok.seq ?_|((first|refine Ok.region tok ?_|refine⟨_,(hrem).symm,?_⟩|refine Ok.cond ?_|refine Ok.skip ?_);conv=>whnf)|(refine bI ?_ ?_<;>intro<;>(conv=>whnf)<;>(try (exfalso;omega)))|(refine aJ ?_;conv=>whnf)|fail)
    all_goals first
     | (exfalso;omega)
set_option maxRecDepth 100000 in
set_option maxHeartbeats 16000000 in
theorem mar_preR(c:Config)(hc:c.Ok)(h0:0<c.boxes.l.length){i:Nat}{y:Box}{dw da:Int}(hda:-9223372036854775808<=da/\da<=9223372036854775807)(hi:marIx da c.boxes.l.length=i){Q:Exit->St->Prop}{d t:D}(hr:RawL 7 y.rules.l.length (y.rules.l.map fun r=>(ruleC r).row) d t)
    (h:Ok Tryz.prog T (sndN 5 marF) Q ⟨[(0,.bp 4 0),(1,.i .i64 dw),(8,.i .i64 (i:Nat)),(9,.op 1 87 i 0),(213,.bp 0 0),(217,.bp 4 0),(712,t)],[c.row,us7,us7,us7,[.s c.title,.own 0 c.fields.l.length,.s c.routing,.b c.slim,.own 1 c.boxes.l.length,.own 2 c.links.l.length,.own 3 c.slices.l.length]],[some (127,c.fields.l.map SI.row),some (87,((c.boxes.l.map fun x=>(boxC x).row).set i (rawB y (.lst 9 (y.outs.l.map srow) []) (.lst 112 (y.guards.l.map fun g=>(lineC g).row) []) d))),some (91,c.links.l.map Link.row),some (54,c.slices.l.map fun x=>(slcC x).row),none,none,none,some (115,y.rules.l.map fun r=>(ruleC r).row)],Tryz.f43.ntmps⟩) :
    Ok Tryz.prog T marF Q ⟨[(0,.bp 4 0),(1,.i .i64 dw),(2,.i .i64 da),(213,.bp 0 0),(217,.bp 4 0),(712,t)],[c.row,us7,us7,us7,[.s c.title,.own 0 c.fields.l.length,.s c.routing,.b c.slim,.own 1 c.boxes.l.length,.own 2 c.links.l.length,.own 3 c.slices.l.length]],[some (127,c.fields.l.map SI.row),some (87,((c.boxes.l.map fun x=>(boxC x).row).set i (rawB y (.lst 9 (y.outs.l.map srow) []) (.lst 112 (y.guards.l.map fun g=>(lineC g).row) []) d))),some (91,c.links.l.map Link.row),some (54,c.slices.l.map fun x=>(slcC x).row),none,none,none,some (115,y.rules.l.map fun r=>(ruleC r).row)],Tryz.f43.ntmps⟩:=by
 have hbl:(c.boxes.l.map fun x=>(boxC x).row).length=c.boxes.l.length:=by simp
 have hbs:((c.boxes.l.map fun x=>(boxC x).row).set i (rawB y (.lst 9 (y.outs.l.map srow) []) (.lst 112 (y.guards.l.map fun g=>(lineC g).row) []) d)).length=c.boxes.l.length:=by simp
 have hB:=hc.boxes
 have hix:=marIx_lt (a:=da) h0
 rw[hi] at hix
 unfold marF at h ⊢
 rcases hr with hr|⟨g,cp,hr⟩
 all_goals
  by_cases hneg:da.tmod ((c.boxes.l.length:Nat):Int)<0
  . have hi0:i=0:=by rw[<- hi];exact if_pos hneg
    subst hi0
    (try (conv=>whnf));repeat' (first|(refine Ok.keep (c:=sndN 5 (Tryz.f43.body.getD .ret)) [0,1,8,9,213,217,712] 8 5 ?_;(conv=>whnf);exact h)|refine Ok.seq ?_|((first|refine Ok.region tok ?_|refine Ok.cond ?_|refine Ok.skip ?_);conv=>whnf)|(refine bI ?_ ?_<;>intro<;>(conv=>whnf)<;>(try (exfalso;omega)))|((first|refine aJ ?_|refine num_any ?_);conv=>whnf)|fail)
    all_goals first
     | (exfalso;omega)
  . have hrem:da.tmod ((c.boxes.l.length:Nat):Int)=((i:Nat):Int):=by rw[<- hi];unfold marIx;rw[if_neg hneg];omega
    (try (conv=>whnf));repeat' (first|(refine Ok.keep (c:=sndN 5 (Tryz.f43.body.getD .ret)) [0,1,8,9,213,217,712] 8 5 ?_;(conv=>whnf);exact h)|refine Ok.seq ?_|((first|refine Ok.region tok ?_|refine⟨_,(hrem).symm,?_⟩|refine Ok.cond ?_|refine Ok.skip ?_);conv=>whnf)|(refine bI ?_ ?_<;>intro<;>(conv=>whnf)<;>(try (exfalso;omega)))|(refine aJ ?_;conv=>whnf)|fail)
    all_goals first
     | (exfalso;omega)
end Go.Proofs.YtcglkonooeddfaaGreatDoor
namespace Go.Proofs.YtcglkonooeddfaaGreatDoor
open Go Go.Vx
theorem tailG{c:Config}(h:Mar c)(d:Config)(hd:d.Ok)(ht:d.Tx)(e:Int)(s:Str)(hg:e ≠ 0->Few c.b->checkO d.b=(e,s)){cells:List D}(hrow:d.row=cells) :
    Ok Tryz.prog T (sndN 4 marC) marQ ⟨[(3,.bp 0 0),(7,.bp 4 0),(8,.i .i64 e),(9,.s s)],[c.row,us7,us7,us7,cells],[],Tryz.f12.ntmps⟩:=by
 subst hrow
 exact mar_tail c h.ok h.z d hd ht e s hg (total_at c h.ok h.boxes)
theorem sok_S{s:Str}(h:s.length<=1048576):SOk s:=h
def conf0(c:Config):Config:=configC c
def confM(c:Config)(F:List SI)(r:Str)(q:Prop)(L:List Link)(S:List Slc):Config:=⟨c.title,⟨F,[]⟩,r,q,⟨c.boxes.l.map boxC,[]⟩,⟨L,[]⟩,⟨S,[]⟩⟩
theorem confM_b(c:Config)(F:List SI)(r:Str)(q:Prop)(L:List Link)(S:List Slc):(confM c F r q L S).b={ c.b with fields:=F,routing:=r,slim:=q,links:=L,slices:=S.map Slc.b }:=by
 simp[confM,Config.b,Function.comp_def,boxC_b]
theorem slcM_b(c:Config):(c.slices.l.map slcC).map Slc.b=c.b.slices:=by simp[Config.b,Function.comp_def,slcC_b]
theorem confM_ok{c:Config}(h:c.Ok){F:List SI}{r:Str}{q:Prop}{L:List Link}{S:List Slc}(hF:F.length<=1048576)(hL:L.length<=1048576)(hS:S.length<=1048576)(hs:∀ s ∈ S,s.Ok):(confM c F r q L S).Ok:=by
 refine⟨hF,by simpa[confM] using h.boxes,hL,hS,fun x hx=>?_,hs⟩
 obtain⟨y,hy,rfl⟩:=List.mem_map.1 hx
 exact boxC_ok (h.box y hy)
theorem confM_tx{c:Config}(h:c.Tx){F:List SI}{r:Str}{q:Prop}{L:List Link}{S:List Slc}(hF:∀ x ∈ F,x.Tx)(hr:SOk r)(hL:∀ x ∈ L,x.Tx)(hs:∀ s ∈ S,s.Tx):(confM c F r q L S).Tx:=by
 refine⟨h.title,hF,hr,fun x hx=>?_,hL,hs⟩
 obtain⟨y,hy,rfl⟩:=List.mem_map.1 hx
 exact boxC_tx (h.boxes y hy)
theorem slcs_ok{c:Config}(h:c.Ok):∀ s ∈ c.slices.l.map slcC,s.Ok:=fun s hs=>by
 obtain⟨y,hy,rfl⟩:=List.mem_map.1 hs
 exact slcC_okM (h.slc y hy)
theorem slcs_tx{c:Config}(h:c.Tx):∀ s ∈ c.slices.l.map slcC,s.Tx:=fun s hs=>by
 obtain⟨y,hy,rfl⟩:=List.mem_map.1 hs
 exact slcC_txM (h.slices y hy)
theorem conf0_ok{c:Config}(h:c.Ok):(conf0 c).Ok:=by
 refine⟨h.fields,by simpa[conf0,configC] using h.boxes,h.links,by simpa[conf0,configC] using h.slices,fun x hx=>?_,fun s hs=>?_⟩
 . obtain⟨y,hy,rfl⟩:=List.mem_map.1 hx
   exact boxC_ok (h.box y hy)
 . obtain⟨y,hy,rfl⟩:=List.mem_map.1 hs
   exact slcC_okM (h.slc y hy)
theorem conf0_tx{c:Config}(h:c.Tx):(conf0 c).Tx:=by
 refine⟨h.title,h.fields,h.routing,fun x hx=>?_,h.links,fun s hs=>?_⟩
 . obtain⟨y,hy,rfl⟩:=List.mem_map.1 hx
   exact boxC_tx (h.boxes y hy)
 . obtain⟨y,hy,rfl⟩:=List.mem_map.1 hs
   exact slcC_txM (h.slices y hy)
theorem front_w9{c:Config}(h:Mar c){x:Link}(hx:c.links.l[0]? = some x):x.frm ∉ fullIn c.b:=by
 have h1:=side_mem h.z (link_ok h.z hx).1
 unfold fullOut at h1
 obtain⟨b,hb,ho⟩:=List.mem_flatMap.1 h1
 obtain⟨o,ho,e⟩:=List.mem_map.1 ho
 obtain⟨k,hk⟩:=List.getElem?_of_mem hb
 rw[<- e]
 exact front_in h.z hk ho dotN_inj
set_option maxRecDepth 100000 in
set_option maxHeartbeats 16000000 in
theorem way0{c:Config}(h:Mar c){i:Nat}{y:Box}(hy:c.boxes.l[i]? = some y){da:Int}(hda:-9223372036854775808<=da/\da<=9223372036854775807)(hi:marIx da c.boxes.l.length=i) :
    Ok Tryz.prog T (sndN 2 marC) marQ ⟨[(1,.i .i64 0),(2,.i .i64 da),(3,.bp 0 0)],[c.row],[],Tryz.f12.ntmps⟩:=by
 have hil:=(List.getElem?_eq_some_iff.1 hy).1
 have hyb:c.b.boxes[i]? = some y.b:=by show (c.boxes.l.map Box.b)[i]? = _;rw[List.getElem?_map,hy];rfl
 have hyo:=boxC_ok (h.ok.box y (List.mem_of_getElem? hy))
 have hyx:=boxC_tx (h.tx.boxes y (List.mem_of_getElem? hy))
 have hyr:(c.boxes.l.map fun x=>(boxC x).row)[i]? = some (rawB y (.lst 9 (y.outs.l.map srow) []) (.lst 112 (y.guards.l.map fun g=>(lineC g).row) []) (.lst 115 (y.rules.l.map fun r=>(ruleC r).row) [])):=by
  rw[List.getElem?_map,hy]
  simp[boxC,Box.row,rawB,Function.comp_def]
 have hbl:(c.boxes.l.map fun x=>(boxC x).row).length=c.boxes.l.length:=by simp
 have hll:(c.links.l.map Link.row).length=c.links.l.length:=by simp
 have hfl:(c.fields.l.map SI.row).length=c.fields.l.length:=by simp
 have hL:=h.ok.links
 have hb:({ boxC y with name:=sliceW }:Box).b={ y.b with name:=sliceW }:=by rw[<- boxC_b y];rfl
 have e1:({ boxC y with name:=sliceW }:Box).Ok:=⟨hyo.ins,hyo.outs,hyo.guards,hyo.rules,hyo.owns,hyo.routes,hyo.line,hyo.rule⟩
 have e2:({ boxC y with name:=sliceW }:Box).Tx:=⟨sok_S (show sliceW.length<=1048576 by decide),hyx.ins,hyx.outs,hyx.guards,hyx.rules,hyx.owns,hyx.routes⟩
 have e3:({ boxC y with name:=sliceW }:Box).row=setCells (rawB y (.lst 9 (y.outs.l.map srow) []) (.lst 112 (y.guards.l.map fun g=>(lineC g).row) []) (.lst 115 (y.rules.l.map fun r=>(ruleC r).row) [])) (0+0) [.s sliceW]:=by simp[boxC,Box.row,rawB,setCells,Function.comp_def]
 have e4:(36:Int) ≠ 0->Few c.b->checkO (putB c.b i ({ boxC y with name:=sliceW }:Box).b)=(36,sliceW):=fun _ _=>by rw[hb];exact mar0 h.z hyb
 refine mar_copy0 c h.ok hy ?_
 unfold marC marQ
 (try (conv=>whnf));repeat' (first|refine Ok.seq ?_|(refine Ok.region tok ?_;conv=>whnf)|fail)
 refine Or.inr (Or.inr (Or.inl ?_));(conv=>whnf);refine⟨_,_,Tryz.func43,rfl,Tryz.call43,?_⟩;(conv=>whnf)
 refine Ok.keep [0,1,2,213,217] 4 5 ?_
 (conv=>whnf)
 refine mar_pre0 c h.ok (by omega) hda hi ?_
 unfold marF
 (try (conv=>whnf));repeat' (first|(refine Ok.pub (c:=sndN 4 (Tryz.f12.body.getD .ret)) 0 ?_;(conv=>whnf);refine Ok.pub 1 ?_;(conv=>whnf);refine Ok.pub 2 ?_;(conv=>whnf);refine Ok.pub 3 ?_;(conv=>whnf);refine Ok.keep [3,7,8,9] 0 5 ?_;(conv=>whnf);exact tailD h { boxC y with name:=sliceW } e1 e2 e3 36 sliceW e4)|refine Ok.seq ?_|((first|refine Ok.region tok ?_|refine Ok.cond ?_);conv=>whnf)|refine Ok.block ?_|((first|refine Ok.ret ?_|refine⟨_,by assumption,?_⟩);conv=>whnf)|(refine bI ?_ ?_<;>intro<;>(conv=>whnf)<;>(try (exfalso;omega)))|((first|refine aJ ?_|refine⟨_,rfl,?_⟩);conv=>whnf)|fail)
 all_goals first
  | (exfalso;omega)
set_option maxRecDepth 100000 in
set_option maxHeartbeats 16000000 in
theorem way1a{c:Config}(h:Mar c){i:Nat}{y:Box}(hy:c.boxes.l[i]? = some y){da:Int}(hda:-9223372036854775808<=da/\da<=9223372036854775807)(hi:marIx da c.boxes.l.length=i)(hi0:i=0) :
    Ok Tryz.prog T (sndN 2 marC) marQ ⟨[(1,.i .i64 1),(2,.i .i64 da),(3,.bp 0 0)],[c.row],[],Tryz.f12.ntmps⟩:=by
 have hil:=(List.getElem?_eq_some_iff.1 hy).1
 have hyb:c.b.boxes[i]? = some y.b:=by show (c.boxes.l.map Box.b)[i]? = _;rw[List.getElem?_map,hy];rfl
 have hyo:=boxC_ok (h.ok.box y (List.mem_of_getElem? hy))
 have hyx:=boxC_tx (h.tx.boxes y (List.mem_of_getElem? hy))
 have hyr:(c.boxes.l.map fun x=>(boxC x).row)[i]? = some (rawB y (.lst 9 (y.outs.l.map srow) []) (.lst 112 (y.guards.l.map fun g=>(lineC g).row) []) (.lst 115 (y.rules.l.map fun r=>(ruleC r).row) [])):=by
  rw[List.getElem?_map,hy]
  simp[boxC,Box.row,rawB,Function.comp_def]
 have hbl:(c.boxes.l.map fun x=>(boxC x).row).length=c.boxes.l.length:=by simp
 have hll:(c.links.l.map Link.row).length=c.links.l.length:=by simp
 have hfl:(c.fields.l.map SI.row).length=c.fields.l.length:=by simp
 have hL:=h.ok.links
 subst hi0
 refine mar_copy0 c h.ok hy ?_
 unfold marC marQ
 (try (conv=>whnf));repeat' (first|refine Ok.seq ?_|(refine Ok.region tok ?_;conv=>whnf)|fail)
 refine Or.inr (Or.inr (Or.inl ?_));(conv=>whnf);refine⟨_,_,Tryz.func43,rfl,Tryz.call43,?_⟩;(conv=>whnf)
 refine Ok.keep [0,1,2,213,217] 4 5 ?_
 (conv=>whnf)
 refine mar_pre0 c h.ok (by omega) hda hi ?_
 unfold marF
 (try (conv=>whnf));repeat' (first|(refine Ok.pub (c:=sndN 4 (Tryz.f12.body.getD .ret)) 0 ?_;(conv=>whnf);refine Ok.pub 1 ?_;(conv=>whnf);refine Ok.pub 2 ?_;(conv=>whnf);refine Ok.pub 3 ?_;(conv=>whnf);refine Ok.keep [3,7,8,9] 0 5 ?_;(conv=>whnf);exact tailG h (conf0 c) (conf0_ok h.ok) (conf0_tx h.tx) 0 _ (fun q=>absurd rfl q) (rowC c.title c.fields.l c.routing c.slim (c.boxes.l.map boxC) c.links.l (c.slices.l.map slcC) rfl (by rw[List.map_map];rfl) rfl (by rw[List.map_map];rfl) (by simp) (by simp) (by simp) (by simp)))|refine Ok.seq ?_|((first|refine Ok.region tok ?_|refine Ok.cond ?_);conv=>whnf)|refine Ok.block ?_|(refine Ok.ret ?_;conv=>whnf)|(refine bI ?_ ?_<;>intro<;>(conv=>whnf)<;>(try (exfalso;omega)))|fail)
 all_goals first
  | (exfalso;omega)
set_option maxRecDepth 100000 in
set_option maxHeartbeats 16000000 in
theorem way1b{c:Config}(h:Mar c){i:Nat}{y:Box}(hy:c.boxes.l[i]? = some y){da:Int}(hda:-9223372036854775808<=da/\da<=9223372036854775807)(hi:marIx da c.boxes.l.length=i)(hi0:i ≠ 0){z:Box}(hz:c.boxes.l[0]? = some z) :
    Ok Tryz.prog T (sndN 2 marC) marQ ⟨[(1,.i .i64 1),(2,.i .i64 da),(3,.bp 0 0)],[c.row],[],Tryz.f12.ntmps⟩:=by
 have hil:=(List.getElem?_eq_some_iff.1 hy).1
 have hyb:c.b.boxes[i]? = some y.b:=by show (c.boxes.l.map Box.b)[i]? = _;rw[List.getElem?_map,hy];rfl
 have hyo:=boxC_ok (h.ok.box y (List.mem_of_getElem? hy))
 have hyx:=boxC_tx (h.tx.boxes y (List.mem_of_getElem? hy))
 have hyr:(c.boxes.l.map fun x=>(boxC x).row)[i]? = some (rawB y (.lst 9 (y.outs.l.map srow) []) (.lst 112 (y.guards.l.map fun g=>(lineC g).row) []) (.lst 115 (y.rules.l.map fun r=>(ruleC r).row) [])):=by
  rw[List.getElem?_map,hy]
  simp[boxC,Box.row,rawB,Function.comp_def]
 have hbl:(c.boxes.l.map fun x=>(boxC x).row).length=c.boxes.l.length:=by simp
 have hll:(c.links.l.map Link.row).length=c.links.l.length:=by simp
 have hfl:(c.fields.l.map SI.row).length=c.fields.l.length:=by simp
 have hL:=h.ok.links
 have hzb:c.b.boxes[0]? = some z.b:=by show (c.boxes.l.map Box.b)[0]? = _;rw[List.getElem?_map,hz];rfl
 have hzx:=h.tx.boxes z (List.mem_of_getElem? hz)
 have hzr:(c.boxes.l.map fun x=>(boxC x).row)[0]? = some (boxC z).row:=by rw[List.getElem?_map,hz];rfl
 have hb:({ boxC y with name:=z.name }:Box).b={ y.b with name:=z.name }:=by rw[<- boxC_b y];rfl
 refine mar_copy0 c h.ok hy ?_
 unfold marC marQ
 (try (conv=>whnf));repeat' (first|refine Ok.seq ?_|(refine Ok.region tok ?_;conv=>whnf)|fail)
 refine Or.inr (Or.inr (Or.inl ?_));(conv=>whnf);refine⟨_,_,Tryz.func43,rfl,Tryz.call43,?_⟩;(conv=>whnf)
 refine Ok.keep [0,1,2,213,217] 4 5 ?_
 (conv=>whnf)
 refine mar_pre0 c h.ok (by omega) hda hi ?_
 unfold marF
 have hyr2:((c.boxes.l.map fun x=>(boxC x).row).set i (setCells (rawB y (.lst 9 (y.outs.l.map srow) []) (.lst 112 (y.guards.l.map fun g=>(lineC g).row) []) (.lst 115 (y.rules.l.map fun r=>(ruleC r).row) [])) (0+0) [.s z.name]))[i]? = some (setCells (rawB y (.lst 9 (y.outs.l.map srow) []) (.lst 112 (y.guards.l.map fun g=>(lineC g).row) []) (.lst 115 (y.rules.l.map fun r=>(ruleC r).row) [])) (0+0) [.s z.name]):=List.getElem?_set_self (by omega)
 (try (conv=>whnf));repeat' (first|(refine Ok.pub (c:=sndN 4 (Tryz.f12.body.getD .ret)) 0 ?_;(conv=>whnf);refine Ok.pub 1 ?_;(conv=>whnf);refine Ok.pub 2 ?_;(conv=>whnf);refine Ok.pub 3 ?_;(conv=>whnf);refine Ok.keep [3,7,8,9] 0 5 ?_;(conv=>whnf);exact tailD h { boxC y with name:=z.name } ⟨hyo.ins,hyo.outs,hyo.guards,hyo.rules,hyo.owns,hyo.routes,hyo.line,hyo.rule⟩ ⟨hzx.name,hyx.ins,hyx.outs,hyx.guards,hyx.rules,hyx.owns,hyx.routes⟩ (by simp[boxC,Box.row,rawB,setCells,Function.comp_def]) 72 z.name (fun _ _=>by rw[hb];exact mar1 h.z hyb hi0 hzb))|refine Ok.seq ?_|((first|refine Ok.region tok ?_|refine Ok.region_draw tok follows (by kernel_rfl) ?_|refine Ok.cond ?_);conv=>whnf)|refine Ok.block ?_|((first|refine Ok.skip ?_|refine Ok.ret ?_|refine⟨_,by assumption,?_⟩|refine rd rfl (by assumption) ?_);conv=>whnf)|(refine bI ?_ ?_<;>intro<;>(conv=>whnf)<;>(try (exfalso;omega)))|((first|refine aJ ?_|refine⟨_,rfl,?_⟩);conv=>whnf)|fail)
 all_goals first
  | (exfalso;omega)
set_option maxRecDepth 100000 in
set_option maxHeartbeats 16000000 in
theorem way7a{c:Config}(h:Mar c){i:Nat}{y:Box}(hy:c.boxes.l[i]? = some y){da:Int}(hda:-9223372036854775808<=da/\da<=9223372036854775807)(hi:marIx da c.boxes.l.length=i)(hx:c.links.l=[]) :
    Ok Tryz.prog T (sndN 2 marC) marQ ⟨[(1,.i .i64 7),(2,.i .i64 da),(3,.bp 0 0)],[c.row],[],Tryz.f12.ntmps⟩:=by
 have hil:=(List.getElem?_eq_some_iff.1 hy).1
 have hyb:c.b.boxes[i]? = some y.b:=by show (c.boxes.l.map Box.b)[i]? = _;rw[List.getElem?_map,hy];rfl
 have hyo:=boxC_ok (h.ok.box y (List.mem_of_getElem? hy))
 have hyx:=boxC_tx (h.tx.boxes y (List.mem_of_getElem? hy))
 have hyr:(c.boxes.l.map fun x=>(boxC x).row)[i]? = some (rawB y (.lst 9 (y.outs.l.map srow) []) (.lst 112 (y.guards.l.map fun g=>(lineC g).row) []) (.lst 115 (y.rules.l.map fun r=>(ruleC r).row) [])):=by
  rw[List.getElem?_map,hy]
  simp[boxC,Box.row,rawB,Function.comp_def]
 have hbl:(c.boxes.l.map fun x=>(boxC x).row).length=c.boxes.l.length:=by simp
 have hll:(c.links.l.map Link.row).length=c.links.l.length:=by simp
 have hfl:(c.fields.l.map SI.row).length=c.fields.l.length:=by simp
 have hL:=h.ok.links
 have hl0:c.links.l.length=0:=by rw[hx];rfl
 refine mar_copy0 c h.ok hy ?_
 unfold marC marQ
 (try (conv=>whnf));repeat' (first|refine Ok.seq ?_|(refine Ok.region tok ?_;conv=>whnf)|fail)
 refine Or.inr (Or.inr (Or.inl ?_));(conv=>whnf);refine⟨_,_,Tryz.func43,rfl,Tryz.call43,?_⟩;(conv=>whnf)
 refine Ok.keep [0,1,2,213,217] 4 5 ?_
 (conv=>whnf)
 refine mar_pre0 c h.ok (by omega) hda hi ?_
 unfold marF
 (try (conv=>whnf));repeat' (first|refine Ok.seq ?_|((first|refine Ok.region tok ?_|refine Ok.cond ?_);conv=>whnf)|refine Ok.block ?_|(refine Ok.skip ?_;conv=>whnf)|(refine bI ?_ ?_<;>intro<;>(conv=>whnf)<;>(try (exfalso;omega)))|fail)
 refine Or.inr (Or.inr (Or.inl ?_));(conv=>whnf);refine⟨_,_,Tryz.func87,rfl,Tryz.call87,?_⟩;(conv=>whnf)
 (try (conv=>whnf));repeat' (first|(refine Ok.pub (c:=sndN 4 (Tryz.f12.body.getD .ret)) 0 ?_;(conv=>whnf);refine Ok.pub 1 ?_;(conv=>whnf);refine Ok.pub 2 ?_;(conv=>whnf);refine Ok.pub 3 ?_;(conv=>whnf);refine Ok.keep [3,7,8,9] 0 5 ?_;(conv=>whnf);exact tailG h (conf0 c) (conf0_ok h.ok) (conf0_tx h.tx) 0 _ (fun q=>absurd rfl q) (rowC c.title c.fields.l c.routing c.slim (c.boxes.l.map boxC) c.links.l (c.slices.l.map slcC) rfl (by rw[List.map_map];rfl) rfl (by rw[List.map_map];rfl) (by simp) (by simp) (by simp) (by simp)))|refine Ok.seq ?_|((first|refine Ok.region tok ?_|refine Ok.cond ?_);conv=>whnf)|refine Ok.block ?_|(refine Ok.ret ?_;conv=>whnf)|(refine bI ?_ ?_<;>intro<;>(conv=>whnf)<;>(try (exfalso;omega)))|fail)
 all_goals first
  | (exfalso;omega)
set_option maxRecDepth 100000 in
set_option maxHeartbeats 16000000 in
theorem way8a{c:Config}(h:Mar c){i:Nat}{y:Box}(hy:c.boxes.l[i]? = some y){da:Int}(hda:-9223372036854775808<=da/\da<=9223372036854775807)(hi:marIx da c.boxes.l.length=i)(hx:c.links.l=[]) :
    Ok Tryz.prog T (sndN 2 marC) marQ ⟨[(1,.i .i64 8),(2,.i .i64 da),(3,.bp 0 0)],[c.row],[],Tryz.f12.ntmps⟩:=by
 have hil:=(List.getElem?_eq_some_iff.1 hy).1
 have hyb:c.b.boxes[i]? = some y.b:=by show (c.boxes.l.map Box.b)[i]? = _;rw[List.getElem?_map,hy];rfl
 have hyo:=boxC_ok (h.ok.box y (List.mem_of_getElem? hy))
 have hyx:=boxC_tx (h.tx.boxes y (List.mem_of_getElem? hy))
 have hyr:(c.boxes.l.map fun x=>(boxC x).row)[i]? = some (rawB y (.lst 9 (y.outs.l.map srow) []) (.lst 112 (y.guards.l.map fun g=>(lineC g).row) []) (.lst 115 (y.rules.l.map fun r=>(ruleC r).row) [])):=by
  rw[List.getElem?_map,hy]
  simp[boxC,Box.row,rawB,Function.comp_def]
 have hbl:(c.boxes.l.map fun x=>(boxC x).row).length=c.boxes.l.length:=by simp
 have hll:(c.links.l.map Link.row).length=c.links.l.length:=by simp
 have hfl:(c.fields.l.map SI.row).length=c.fields.l.length:=by simp
 have hL:=h.ok.links
 have hl0:c.links.l.length=0:=by rw[hx];rfl
 refine mar_copy0 c h.ok hy ?_
 unfold marC marQ
 (try (conv=>whnf));repeat' (first|refine Ok.seq ?_|(refine Ok.region tok ?_;conv=>whnf)|fail)
 refine Or.inr (Or.inr (Or.inl ?_));(conv=>whnf);refine⟨_,_,Tryz.func43,rfl,Tryz.call43,?_⟩;(conv=>whnf)
 refine Ok.keep [0,1,2,213,217] 4 5 ?_
 (conv=>whnf)
 refine mar_pre0 c h.ok (by omega) hda hi ?_
 unfold marF
 (try (conv=>whnf));repeat' (first|refine Ok.seq ?_|((first|refine Ok.region tok ?_|refine Ok.cond ?_);conv=>whnf)|refine Ok.block ?_|(refine Ok.skip ?_;conv=>whnf)|(refine bI ?_ ?_<;>intro<;>(conv=>whnf)<;>(try (exfalso;omega)))|fail)
 refine Or.inr (Or.inr (Or.inl ?_));(conv=>whnf);refine⟨_,_,Tryz.func87,rfl,Tryz.call87,?_⟩;(conv=>whnf)
 (try (conv=>whnf));repeat' (first|(refine Ok.pub (c:=sndN 4 (Tryz.f12.body.getD .ret)) 0 ?_;(conv=>whnf);refine Ok.pub 1 ?_;(conv=>whnf);refine Ok.pub 2 ?_;(conv=>whnf);refine Ok.pub 3 ?_;(conv=>whnf);refine Ok.keep [3,7,8,9] 0 5 ?_;(conv=>whnf);exact tailG h (conf0 c) (conf0_ok h.ok) (conf0_tx h.tx) 0 _ (fun q=>absurd rfl q) (rowC c.title c.fields.l c.routing c.slim (c.boxes.l.map boxC) c.links.l (c.slices.l.map slcC) rfl (by rw[List.map_map];rfl) rfl (by rw[List.map_map];rfl) (by simp) (by simp) (by simp) (by simp)))|refine Ok.seq ?_|((first|refine Ok.region tok ?_|refine Ok.cond ?_);conv=>whnf)|refine Ok.block ?_|(refine Ok.ret ?_;conv=>whnf)|(refine bI ?_ ?_<;>intro<;>(conv=>whnf)<;>(try (exfalso;omega)))|fail)
 all_goals first
  | (exfalso;omega)
set_option maxRecDepth 100000 in
set_option maxHeartbeats 16000000 in
theorem way9a{c:Config}(h:Mar c){i:Nat}{y:Box}(hy:c.boxes.l[i]? = some y){da:Int}(hda:-9223372036854775808<=da/\da<=9223372036854775807)(hi:marIx da c.boxes.l.length=i)(hx:c.links.l=[]) :
    Ok Tryz.prog T (sndN 2 marC) marQ ⟨[(1,.i .i64 9),(2,.i .i64 da),(3,.bp 0 0)],[c.row],[],Tryz.f12.ntmps⟩:=by
 have hil:=(List.getElem?_eq_some_iff.1 hy).1
 have hyb:c.b.boxes[i]? = some y.b:=by show (c.boxes.l.map Box.b)[i]? = _;rw[List.getElem?_map,hy];rfl
 have hyo:=boxC_ok (h.ok.box y (List.mem_of_getElem? hy))
 have hyx:=boxC_tx (h.tx.boxes y (List.mem_of_getElem? hy))
 have hyr:(c.boxes.l.map fun x=>(boxC x).row)[i]? = some (rawB y (.lst 9 (y.outs.l.map srow) []) (.lst 112 (y.guards.l.map fun g=>(lineC g).row) []) (.lst 115 (y.rules.l.map fun r=>(ruleC r).row) [])):=by
  rw[List.getElem?_map,hy]
  simp[boxC,Box.row,rawB,Function.comp_def]
 have hbl:(c.boxes.l.map fun x=>(boxC x).row).length=c.boxes.l.length:=by simp
 have hll:(c.links.l.map Link.row).length=c.links.l.length:=by simp
 have hfl:(c.fields.l.map SI.row).length=c.fields.l.length:=by simp
 have hL:=h.ok.links
 have hl0:c.links.l.length=0:=by rw[hx];rfl
 refine mar_copy0 c h.ok hy ?_
 unfold marC marQ
 (try (conv=>whnf));repeat' (first|refine Ok.seq ?_|(refine Ok.region tok ?_;conv=>whnf)|fail)
 refine Or.inr (Or.inr (Or.inl ?_));(conv=>whnf);refine⟨_,_,Tryz.func43,rfl,Tryz.call43,?_⟩;(conv=>whnf)
 refine Ok.keep [0,1,2,213,217] 4 5 ?_
 (conv=>whnf)
 refine mar_pre0 c h.ok (by omega) hda hi ?_
 unfold marF
 (try (conv=>whnf));repeat' (first|refine Ok.seq ?_|((first|refine Ok.region tok ?_|refine Ok.cond ?_);conv=>whnf)|refine Ok.block ?_|(refine Ok.skip ?_;conv=>whnf)|(refine bI ?_ ?_<;>intro<;>(conv=>whnf)<;>(try (exfalso;omega)))|fail)
 refine Or.inr (Or.inr (Or.inl ?_));(conv=>whnf);refine⟨_,_,Tryz.func87,rfl,Tryz.call87,?_⟩;(conv=>whnf)
 (try (conv=>whnf));repeat' (first|(refine Ok.pub (c:=sndN 4 (Tryz.f12.body.getD .ret)) 0 ?_;(conv=>whnf);refine Ok.pub 1 ?_;(conv=>whnf);refine Ok.pub 2 ?_;(conv=>whnf);refine Ok.pub 3 ?_;(conv=>whnf);refine Ok.keep [3,7,8,9] 0 5 ?_;(conv=>whnf);exact tailG h (conf0 c) (conf0_ok h.ok) (conf0_tx h.tx) 0 _ (fun q=>absurd rfl q) (rowC c.title c.fields.l c.routing c.slim (c.boxes.l.map boxC) c.links.l (c.slices.l.map slcC) rfl (by rw[List.map_map];rfl) rfl (by rw[List.map_map];rfl) (by simp) (by simp) (by simp) (by simp)))|refine Ok.seq ?_|((first|refine Ok.region tok ?_|refine Ok.cond ?_);conv=>whnf)|refine Ok.block ?_|(refine Ok.ret ?_;conv=>whnf)|(refine bI ?_ ?_<;>intro<;>(conv=>whnf)<;>(try (exfalso;omega)))|fail)
 all_goals first
  | (exfalso;omega)
set_option maxRecDepth 100000 in
set_option maxHeartbeats 16000000 in
theorem way7b{c:Config}(h:Mar c){i:Nat}{y:Box}(hy:c.boxes.l[i]? = some y){da:Int}(hda:-9223372036854775808<=da/\da<=9223372036854775807)(hi:marIx da c.boxes.l.length=i){x:Link}(hx:c.links.l[0]? = some x) :
    Ok Tryz.prog T (sndN 2 marC) marQ ⟨[(1,.i .i64 7),(2,.i .i64 da),(3,.bp 0 0)],[c.row],[],Tryz.f12.ntmps⟩:=by
 have hil:=(List.getElem?_eq_some_iff.1 hy).1
 have hyb:c.b.boxes[i]? = some y.b:=by show (c.boxes.l.map Box.b)[i]? = _;rw[List.getElem?_map,hy];rfl
 have hyo:=boxC_ok (h.ok.box y (List.mem_of_getElem? hy))
 have hyx:=boxC_tx (h.tx.boxes y (List.mem_of_getElem? hy))
 have hyr:(c.boxes.l.map fun x=>(boxC x).row)[i]? = some (rawB y (.lst 9 (y.outs.l.map srow) []) (.lst 112 (y.guards.l.map fun g=>(lineC g).row) []) (.lst 115 (y.rules.l.map fun r=>(ruleC r).row) [])):=by
  rw[List.getElem?_map,hy]
  simp[boxC,Box.row,rawB,Function.comp_def]
 have hbl:(c.boxes.l.map fun x=>(boxC x).row).length=c.boxes.l.length:=by simp
 have hll:(c.links.l.map Link.row).length=c.links.l.length:=by simp
 have hfl:(c.fields.l.map SI.row).length=c.fields.l.length:=by simp
 have hL:=h.ok.links
 have hxx:=h.tx.links x (List.mem_of_getElem? hx)
 have hxr:(c.links.l.map Link.row)[0]? = some [.s x.frm,.s x.dst,.i .i64 x.cost]:=by rw[List.getElem?_map,hx];rfl
 have hxl:=(List.getElem?_eq_some_iff.1 hx).1
 have hxr2:(c.links.l.map Link.row++[[.s x.frm,.s x.dst,.i .i64 x.cost]])[0]? = some [.s x.frm,.s x.dst,.i .i64 x.cost]:=by rw[List.getElem?_append_left (by omega)];exact hxr
 have hdb:(confM c c.fields.l c.routing c.slim (c.links.l++[x]) (c.slices.l.map slcC)).b={ c.b with links:=c.b.links++[x] }:=by rw[confM_b,slcM_b];rfl
 have hnl:c.links.l.length<=48:=(cnt_zero.1 (check_parts h.z).2.1).2.2.2.2.2.1
 have e1:(confM c c.fields.l c.routing c.slim (c.links.l++[x]) (c.slices.l.map slcC)).Ok:=confM_ok h.ok h.ok.fields (by simp;omega) (by simpa using h.ok.slices) (slcs_ok h.ok)
 have e2:(confM c c.fields.l c.routing c.slim (c.links.l++[x]) (c.slices.l.map slcC)).Tx:=confM_tx h.tx h.tx.fields h.tx.routing (fun z hz=>by rcases List.mem_append.1 hz with hz|hz;exact h.tx.links z hz;simp at hz;subst hz;exact hxx) (slcs_tx h.tx)
 have e4:(75:Int) ≠ 0->Few c.b->checkO (confM c c.fields.l c.routing c.slim (c.links.l++[x]) (c.slices.l.map slcC)).b=(75,x.frm):=fun _ f=>by rw[hdb];exact mar7 h.z hx f.2.2.2.2.1
 refine mar_copy0 c h.ok hy ?_
 unfold marC marQ
 (try (conv=>whnf));repeat' (first|refine Ok.seq ?_|(refine Ok.region tok ?_;conv=>whnf)|fail)
 refine Or.inr (Or.inr (Or.inl ?_));(conv=>whnf);refine⟨_,_,Tryz.func43,rfl,Tryz.call43,?_⟩;(conv=>whnf)
 refine Ok.keep [0,1,2,213,217] 4 5 ?_
 (conv=>whnf)
 refine mar_pre0 c h.ok (by omega) hda hi ?_
 unfold marF
 (try (conv=>whnf));repeat' (first|refine Ok.seq ?_|((first|refine Ok.region tok ?_|refine Ok.cond ?_);conv=>whnf)|refine Ok.block ?_|(refine Ok.skip ?_;conv=>whnf)|(refine bI ?_ ?_<;>intro<;>(conv=>whnf)<;>(try (exfalso;omega)))|fail)
 refine Or.inr (Or.inr (Or.inl ?_));(conv=>whnf);refine⟨_,_,Tryz.func87,rfl,Tryz.call87,?_⟩;(conv=>whnf)
 (try (conv=>whnf));repeat' (first|(refine Ok.pub (c:=sndN 4 (Tryz.f12.body.getD .ret)) 0 ?_;(conv=>whnf);refine Ok.pub 1 ?_;(conv=>whnf);refine Ok.pub 2 ?_;(conv=>whnf);refine Ok.pub 3 ?_;(conv=>whnf);refine Ok.keep [3,7,8,9] 0 5 ?_;(conv=>whnf);exact tailG h _ e1 e2 75 x.frm e4 (rowC c.title c.fields.l c.routing c.slim (c.boxes.l.map boxC) (c.links.l++[x]) (c.slices.l.map slcC) rfl (by rw[List.map_map];rfl) (by simp[Link.row]) (by rw[List.map_map];rfl) (by simp) (by simp) (by simp) (by simp)))|refine Ok.seq ?_|((first|refine Ok.region tok ?_|refine Ok.region_plan (id:=5) tok follows [(8,11,[10,9]),(10,11,[]),(1,12,[4,3,2]),(2,12,[4,3]),(3,12,[4]),(4,12,[]),(5,12,[11,10,9,8,7,6]),(6,12,[11,10,9,8,7]),(7,12,[11,10,9,8]),(8,12,[11,10,9]),(9,12,[11,10]),(10,12,[11]),(11,12,[]),(4,15,[]),(8,15,[]),(10,15,[]),(11,15,[]),(12,15,[])] [.q 0,.q 1,.q 2,.q 3,.q 4,.q 5,.q 6,.q 7,.q 8,.q 9,.q 10,.l 11,.l 12,.q 13,.q 14,.l 15] (by kernel_rfl) ?_|refine Ok.region_draw tok follows (by kernel_rfl) ?_|refine Ok.cond ?_);conv=>whnf)|refine Ok.block ?_|((first|refine Ok.skip ?_|refine Ok.ret ?_|refine⟨_,by assumption,?_⟩|refine Alt2.l (aI ?_)|refine rd rfl (by assumption) ?_|refine⟨_,.inl ⟨rfl,rfl⟩,?_⟩|refine⟨_,_,rfl,rfl,?_⟩);conv=>whnf)|(refine bI ?_ ?_<;>intro<;>(conv=>whnf)<;>(try (exfalso;omega)))|(refine aJ ?_;conv=>whnf)|fail)
 all_goals first
  | (exfalso;omega)
set_option maxRecDepth 100000 in
set_option maxHeartbeats 16000000 in
theorem way8b{c:Config}(h:Mar c){i:Nat}{y:Box}(hy:c.boxes.l[i]? = some y){da:Int}(hda:-9223372036854775808<=da/\da<=9223372036854775807)(hi:marIx da c.boxes.l.length=i){x:Link}(hx:c.links.l[0]? = some x) :
    Ok Tryz.prog T (sndN 2 marC) marQ ⟨[(1,.i .i64 8),(2,.i .i64 da),(3,.bp 0 0)],[c.row],[],Tryz.f12.ntmps⟩:=by
 have hil:=(List.getElem?_eq_some_iff.1 hy).1
 have hyb:c.b.boxes[i]? = some y.b:=by show (c.boxes.l.map Box.b)[i]? = _;rw[List.getElem?_map,hy];rfl
 have hyo:=boxC_ok (h.ok.box y (List.mem_of_getElem? hy))
 have hyx:=boxC_tx (h.tx.boxes y (List.mem_of_getElem? hy))
 have hyr:(c.boxes.l.map fun x=>(boxC x).row)[i]? = some (rawB y (.lst 9 (y.outs.l.map srow) []) (.lst 112 (y.guards.l.map fun g=>(lineC g).row) []) (.lst 115 (y.rules.l.map fun r=>(ruleC r).row) [])):=by
  rw[List.getElem?_map,hy]
  simp[boxC,Box.row,rawB,Function.comp_def]
 have hbl:(c.boxes.l.map fun x=>(boxC x).row).length=c.boxes.l.length:=by simp
 have hll:(c.links.l.map Link.row).length=c.links.l.length:=by simp
 have hfl:(c.fields.l.map SI.row).length=c.fields.l.length:=by simp
 have hL:=h.ok.links
 have hxx:=h.tx.links x (List.mem_of_getElem? hx)
 have hxr:(c.links.l.map Link.row)[0]? = some [.s x.frm,.s x.dst,.i .i64 x.cost]:=by rw[List.getElem?_map,hx];rfl
 have hxl:=(List.getElem?_eq_some_iff.1 hx).1
 have hxr2:((c.links.l.map Link.row).set 0 (setCells [.s x.frm,.s x.dst,.i .i64 x.cost] (0+2) [.i .i64 10000]))[0]? = some (setCells [.s x.frm,.s x.dst,.i .i64 x.cost] (0+2) [.i .i64 10000]):=List.getElem?_set_self (by omega)
 have hdb:(confM c c.fields.l c.routing c.slim (c.links.l.set 0 { x with cost:=10000 }) (c.slices.l.map slcC)).b={ c.b with links:=c.b.links.set 0 { x with cost:=10000 } }:=by rw[confM_b,slcM_b];rfl
 have e1:(confM c c.fields.l c.routing c.slim (c.links.l.set 0 { x with cost:=10000 }) (c.slices.l.map slcC)).Ok:=confM_ok h.ok h.ok.fields (by simpa using h.ok.links) (by simpa using h.ok.slices) (slcs_ok h.ok)
 have e2:(confM c c.fields.l c.routing c.slim (c.links.l.set 0 { x with cost:=10000 }) (c.slices.l.map slcC)).Tx:=confM_tx h.tx h.tx.fields h.tx.routing (fun z hz=>by rcases mem_set_or hz with hz|rfl;exact h.tx.links z hz;exact⟨hxx.frm,hxx.dst,by show IOk 10000;unfold IOk;omega⟩) (slcs_tx h.tx)
 have e4:(71:Int) ≠ 0->Few c.b->checkO (confM c c.fields.l c.routing c.slim (c.links.l.set 0 { x with cost:=10000 }) (c.slices.l.map slcC)).b=(71,x.frm):=fun _ f=>by rw[hdb];exact mar8 h.z hx
 refine mar_copy0 c h.ok hy ?_
 unfold marC marQ
 (try (conv=>whnf));repeat' (first|refine Ok.seq ?_|(refine Ok.region tok ?_;conv=>whnf)|fail)
 refine Or.inr (Or.inr (Or.inl ?_));(conv=>whnf);refine⟨_,_,Tryz.func43,rfl,Tryz.call43,?_⟩;(conv=>whnf)
 refine Ok.keep [0,1,2,213,217] 4 5 ?_
 (conv=>whnf)
 refine mar_pre0 c h.ok (by omega) hda hi ?_
 unfold marF
 (try (conv=>whnf));repeat' (first|refine Ok.seq ?_|((first|refine Ok.region tok ?_|refine Ok.cond ?_);conv=>whnf)|refine Ok.block ?_|(refine Ok.skip ?_;conv=>whnf)|(refine bI ?_ ?_<;>intro<;>(conv=>whnf)<;>(try (exfalso;omega)))|fail)
 refine Or.inr (Or.inr (Or.inl ?_));(conv=>whnf);refine⟨_,_,Tryz.func87,rfl,Tryz.call87,?_⟩;(conv=>whnf)
 (try (conv=>whnf));repeat' (first|(refine Ok.pub (c:=sndN 4 (Tryz.f12.body.getD .ret)) 0 ?_;(conv=>whnf);refine Ok.pub 1 ?_;(conv=>whnf);refine Ok.pub 2 ?_;(conv=>whnf);refine Ok.pub 3 ?_;(conv=>whnf);refine Ok.keep [3,7,8,9] 0 5 ?_;(conv=>whnf);exact tailG h _ e1 e2 71 x.frm e4 (rowC c.title c.fields.l c.routing c.slim (c.boxes.l.map boxC) (c.links.l.set 0 { x with cost:=10000 }) (c.slices.l.map slcC) rfl (by rw[List.map_map];rfl) (by rw[List.map_set];rfl) (by rw[List.map_map];rfl) (by simp) (by simp) (by simp) (by simp)))|refine Ok.seq ?_|((first|refine Ok.region tok ?_|refine Ok.region_draw tok follows (by kernel_rfl) ?_|refine Ok.cond ?_);conv=>whnf)|refine Ok.block ?_|((first|refine Ok.skip ?_|refine Ok.ret ?_|refine⟨_,by assumption,?_⟩);conv=>whnf)|(refine bI ?_ ?_<;>intro<;>(conv=>whnf)<;>(try (exfalso;omega)))|((first|refine aJ ?_|refine⟨_,rfl,?_⟩);conv=>whnf)|fail)
 all_goals first
  | (exfalso;omega)
set_option maxRecDepth 100000 in
set_option maxHeartbeats 16000000 in
theorem way9b{c:Config}(h:Mar c){i:Nat}{y:Box}(hy:c.boxes.l[i]? = some y){da:Int}(hda:-9223372036854775808<=da/\da<=9223372036854775807)(hi:marIx da c.boxes.l.length=i){x:Link}(hx:c.links.l[0]? = some x) :
    Ok Tryz.prog T (sndN 2 marC) marQ ⟨[(1,.i .i64 9),(2,.i .i64 da),(3,.bp 0 0)],[c.row],[],Tryz.f12.ntmps⟩:=by
 have hil:=(List.getElem?_eq_some_iff.1 hy).1
 have hyb:c.b.boxes[i]? = some y.b:=by show (c.boxes.l.map Box.b)[i]? = _;rw[List.getElem?_map,hy];rfl
 have hyo:=boxC_ok (h.ok.box y (List.mem_of_getElem? hy))
 have hyx:=boxC_tx (h.tx.boxes y (List.mem_of_getElem? hy))
 have hyr:(c.boxes.l.map fun x=>(boxC x).row)[i]? = some (rawB y (.lst 9 (y.outs.l.map srow) []) (.lst 112 (y.guards.l.map fun g=>(lineC g).row) []) (.lst 115 (y.rules.l.map fun r=>(ruleC r).row) [])):=by
  rw[List.getElem?_map,hy]
  simp[boxC,Box.row,rawB,Function.comp_def]
 have hbl:(c.boxes.l.map fun x=>(boxC x).row).length=c.boxes.l.length:=by simp
 have hll:(c.links.l.map Link.row).length=c.links.l.length:=by simp
 have hfl:(c.fields.l.map SI.row).length=c.fields.l.length:=by simp
 have hL:=h.ok.links
 have hxx:=h.tx.links x (List.mem_of_getElem? hx)
 have hxr:(c.links.l.map Link.row)[0]? = some [.s x.frm,.s x.dst,.i .i64 x.cost]:=by rw[List.getElem?_map,hx];rfl
 have hxl:=(List.getElem?_eq_some_iff.1 hx).1
 have hxr2:((c.links.l.map Link.row).set 0 (setCells [.s x.frm,.s x.dst,.i .i64 x.cost] (0+1) [.s x.frm]))[0]? = some (setCells [.s x.frm,.s x.dst,.i .i64 x.cost] (0+1) [.s x.frm]):=List.getElem?_set_self (by omega)
 have hdb:(confM c c.fields.l c.routing c.slim (c.links.l.set 0 { x with dst:=x.frm }) (c.slices.l.map slcC)).b={ c.b with links:=c.b.links.set 0 { x with dst:=x.frm } }:=by rw[confM_b,slcM_b];rfl
 have e1:(confM c c.fields.l c.routing c.slim (c.links.l.set 0 { x with dst:=x.frm }) (c.slices.l.map slcC)).Ok:=confM_ok h.ok h.ok.fields (by simpa using h.ok.links) (by simpa using h.ok.slices) (slcs_ok h.ok)
 have e2:(confM c c.fields.l c.routing c.slim (c.links.l.set 0 { x with dst:=x.frm }) (c.slices.l.map slcC)).Tx:=confM_tx h.tx h.tx.fields h.tx.routing (fun z hz=>by rcases mem_set_or hz with hz|rfl;exact h.tx.links z hz;exact⟨hxx.frm,hxx.frm,hxx.cost⟩) (slcs_tx h.tx)
 have e4:(74:Int) ≠ 0->Few c.b->checkO (confM c c.fields.l c.routing c.slim (c.links.l.set 0 { x with dst:=x.frm }) (c.slices.l.map slcC)).b=(74,x.frm):=fun _ f=>by rw[hdb];exact mar9 h.z hx (front_w9 h hx)
 refine mar_copy0 c h.ok hy ?_
 unfold marC marQ
 (try (conv=>whnf));repeat' (first|refine Ok.seq ?_|(refine Ok.region tok ?_;conv=>whnf)|fail)
 refine Or.inr (Or.inr (Or.inl ?_));(conv=>whnf);refine⟨_,_,Tryz.func43,rfl,Tryz.call43,?_⟩;(conv=>whnf)
 refine Ok.keep [0,1,2,213,217] 4 5 ?_
 (conv=>whnf)
 refine mar_pre0 c h.ok (by omega) hda hi ?_
 unfold marF
 (try (conv=>whnf));repeat' (first|refine Ok.seq ?_|((first|refine Ok.region tok ?_|refine Ok.cond ?_);conv=>whnf)|refine Ok.block ?_|(refine Ok.skip ?_;conv=>whnf)|(refine bI ?_ ?_<;>intro<;>(conv=>whnf)<;>(try (exfalso;omega)))|fail)
 refine Or.inr (Or.inr (Or.inl ?_));(conv=>whnf);refine⟨_,_,Tryz.func87,rfl,Tryz.call87,?_⟩;(conv=>whnf)
 (try (conv=>whnf));repeat' (first|(refine Ok.pub (c:=sndN 4 (Tryz.f12.body.getD .ret)) 0 ?_;(conv=>whnf);refine Ok.pub 1 ?_;(conv=>whnf);refine Ok.pub 2 ?_;(conv=>whnf);refine Ok.pub 3 ?_;(conv=>whnf);refine Ok.keep [3,7,8,9] 0 5 ?_;(conv=>whnf);exact tailG h _ e1 e2 74 x.frm e4 (rowC c.title c.fields.l c.routing c.slim (c.boxes.l.map boxC) (c.links.l.set 0 { x with dst:=x.frm }) (c.slices.l.map slcC) rfl (by rw[List.map_map];rfl) (by rw[List.map_set];rfl) (by rw[List.map_map];rfl) (by simp) (by simp) (by simp) (by simp)))|refine Ok.seq ?_|((first|refine Ok.region tok ?_|refine Ok.region_plan (id:=15) tok follows [(3,13,[]),(7,13,[]),(10,13,[])] [.q 0,.q 1,.q 2,.q 3,.q 4,.q 5,.q 6,.q 7,.q 8,.q 9,.q 10,.q 11,.q 12,.l 13] (by kernel_rfl) ?_|refine Ok.region_draw tok follows (by kernel_rfl) ?_|refine Ok.cond ?_);conv=>whnf)|refine Ok.block ?_|((first|refine Ok.skip ?_|refine Ok.ret ?_|refine⟨_,by assumption,?_⟩|refine rd rfl (by assumption) ?_);conv=>whnf)|(refine bI ?_ ?_<;>intro<;>(conv=>whnf)<;>(try (exfalso;omega)))|((first|refine aJ ?_|refine⟨_,rfl,?_⟩);conv=>whnf)|fail)
 all_goals first
  | (exfalso;omega)
end Go.Proofs.YtcglkonooeddfaaGreatDoor
namespace Go.Proofs.YtcglkonooeddfaaGreatDoor
open Go Go.Vx
def n1:Node:=⟨1,[],0,0,0,0,0,[]⟩
theorem n1_tx:n1.Tx:=by
 refine⟨?_,?_,?_,?_,?_,?_,?_,?_⟩<;>first|(show IOk _;unfold IOk;dsimp only[n1];omega)|(show SOk _;unfold SOk;decide)
theorem any1_at:FSpec Tryz.prog T 85 [] (fun d rows=>d = .own 0 1/\rows=[some (219,[n1.row])]):=by
 refine FSpec.of_ok tok Tryz.func85 rfl Tryz.call85 (by simp) ?_
 (try (conv=>whnf));repeat' (first|refine Ok.seq ?_|((first|refine Ok.region tok ?_|refine Ok.ret ?_);conv=>whnf)|fail)
 refine Or.inr (Or.inl ?_);(conv=>whnf)
 exact⟨rfl,rfl⟩
set_option maxRecDepth 100000 in
set_option maxHeartbeats 16000000 in
theorem way11{c:Config}(h:Mar c){i:Nat}{y:Box}(hy:c.boxes.l[i]? = some y){da:Int}(hda:-9223372036854775808<=da/\da<=9223372036854775807)(hi:marIx da c.boxes.l.length=i) :
    Ok Tryz.prog T (sndN 2 marC) marQ ⟨[(1,.i .i64 11),(2,.i .i64 da),(3,.bp 0 0)],[c.row],[],Tryz.f12.ntmps⟩:=by
 have hil:=(List.getElem?_eq_some_iff.1 hy).1
 have hyb:c.b.boxes[i]? = some y.b:=by show (c.boxes.l.map Box.b)[i]? = _;rw[List.getElem?_map,hy];rfl
 have hyo:=boxC_ok (h.ok.box y (List.mem_of_getElem? hy))
 have hyx:=boxC_tx (h.tx.boxes y (List.mem_of_getElem? hy))
 have hyr:(c.boxes.l.map fun x=>(boxC x).row)[i]? = some (rawB y (.lst 9 (y.outs.l.map srow) []) (.lst 112 (y.guards.l.map fun g=>(lineC g).row) []) (.lst 115 (y.rules.l.map fun r=>(ruleC r).row) [])):=by
  rw[List.getElem?_map,hy]
  simp[boxC,Box.row,rawB,Function.comp_def]
 have hbl:(c.boxes.l.map fun x=>(boxC x).row).length=c.boxes.l.length:=by simp
 have hll:(c.links.l.map Link.row).length=c.links.l.length:=by simp
 have hfl:(c.fields.l.map SI.row).length=c.fields.l.length:=by simp
 have hL:=h.ok.links
 have hdb:(confM c c.fields.l c.routing c.slim c.links.l [⟨nameS,⟨[nobody],[]⟩,⟨[n1],[]⟩⟩]).b={ c.b with slices:=[(⟨nameS,⟨[nobody],[]⟩,⟨[n1],[]⟩⟩:Slc).b] }:=by rw[confM_b];rfl
 have e1:(confM c c.fields.l c.routing c.slim c.links.l [⟨nameS,⟨[nobody],[]⟩,⟨[n1],[]⟩⟩]).Ok:=confM_ok h.ok h.ok.fields h.ok.links (by simp) (fun s hs=>by simp at hs;subst hs;exact⟨by simp,by simp⟩)
 have e2:(confM c c.fields.l c.routing c.slim c.links.l [⟨nameS,⟨[nobody],[]⟩,⟨[n1],[]⟩⟩]).Tx:=confM_tx h.tx h.tx.fields h.tx.routing h.tx.links (fun s hs=>by simp at hs;subst hs;exact⟨sok_S (show nameS.length<=1048576 by decide),fun p hp=>by simp at hp;subst hp;exact sok_S (by decide),fun n hn=>by simp at hn;subst hn;exact n1_tx⟩)
 have e4:(73:Int) ≠ 0->Few c.b->checkO (confM c c.fields.l c.routing c.slim c.links.l [⟨nameS,⟨[nobody],[]⟩,⟨[n1],[]⟩⟩]).b=(73,nobody):=fun _ f=>by rw[hdb];exact mar11 h.z mname_S
 refine mar_copy0 c h.ok hy ?_
 unfold marC marQ
 (try (conv=>whnf));repeat' (first|refine Ok.seq ?_|(refine Ok.region tok ?_;conv=>whnf)|fail)
 refine Or.inr (Or.inr (Or.inl ?_));(conv=>whnf);refine⟨_,_,Tryz.func43,rfl,Tryz.call43,?_⟩;(conv=>whnf)
 refine Ok.keep [0,1,2,213,217] 4 5 ?_
 (conv=>whnf)
 refine mar_pre0 c h.ok (by omega) hda hi ?_
 unfold marF
 (try (conv=>whnf));repeat' (first|refine Ok.seq ?_|((first|refine Ok.region tok ?_|refine Ok.cond ?_);conv=>whnf)|refine Ok.block ?_|(refine Ok.skip ?_;conv=>whnf)|(refine bI ?_ ?_<;>intro<;>(conv=>whnf)<;>(try (exfalso;omega)))|fail)
 refine Or.inr (Or.inr (Or.inl ?_));(conv=>whnf);refine⟨_,_,Tryz.func87,rfl,Tryz.call87,?_⟩;(conv=>whnf)
 (try (conv=>whnf));repeat' (first|(refine Ok.pub (c:=sndN 4 (Tryz.f12.body.getD .ret)) 0 ?_;(conv=>whnf);refine Ok.pub 1 ?_;(conv=>whnf);refine Ok.pub 2 ?_;(conv=>whnf);refine Ok.pub 6 ?_;(conv=>whnf);refine Ok.keep [3,7,8,9] 0 5 ?_;(conv=>whnf);exact tailG h _ e1 e2 73 nobody e4 (rowC c.title c.fields.l c.routing c.slim (c.boxes.l.map boxC) c.links.l [⟨nameS,⟨[nobody],[]⟩,⟨[n1],[]⟩⟩] rfl (by rw[List.map_map];rfl) rfl rfl (by simp) (by simp) (by simp) (by simp)))|refine Ok.seq ?_|((first|refine Ok.region tok ?_|refine Ok.cond ?_);conv=>whnf)|refine Ok.block ?_|(refine Ok.ret ?_;conv=>whnf)|(refine Or.inr (Or.inl ?_);(conv=>whnf);(repeat (refine aI ?_;conv=>whnf));refine⟨_,any1_at , ?_⟩;rintro _ _ ⟨rfl,rfl⟩<;>(conv=>whnf))|(refine bI ?_ ?_<;>intro<;>(conv=>whnf)<;>(try (exfalso;omega)))|fail)
 all_goals first
  | (exfalso;omega)
set_option maxRecDepth 100000 in
set_option maxHeartbeats 16000000 in
theorem way12{c:Config}(h:Mar c){i:Nat}{y:Box}(hy:c.boxes.l[i]? = some y){da:Int}(hda:-9223372036854775808<=da/\da<=9223372036854775807)(hi:marIx da c.boxes.l.length=i) :
    Ok Tryz.prog T (sndN 2 marC) marQ ⟨[(1,.i .i64 12),(2,.i .i64 da),(3,.bp 0 0)],[c.row],[],Tryz.f12.ntmps⟩:=by
 have hil:=(List.getElem?_eq_some_iff.1 hy).1
 have hyb:c.b.boxes[i]? = some y.b:=by show (c.boxes.l.map Box.b)[i]? = _;rw[List.getElem?_map,hy];rfl
 have hyo:=boxC_ok (h.ok.box y (List.mem_of_getElem? hy))
 have hyx:=boxC_tx (h.tx.boxes y (List.mem_of_getElem? hy))
 have hyr:(c.boxes.l.map fun x=>(boxC x).row)[i]? = some (rawB y (.lst 9 (y.outs.l.map srow) []) (.lst 112 (y.guards.l.map fun g=>(lineC g).row) []) (.lst 115 (y.rules.l.map fun r=>(ruleC r).row) [])):=by
  rw[List.getElem?_map,hy]
  simp[boxC,Box.row,rawB,Function.comp_def]
 have hbl:(c.boxes.l.map fun x=>(boxC x).row).length=c.boxes.l.length:=by simp
 have hll:(c.links.l.map Link.row).length=c.links.l.length:=by simp
 have hfl:(c.fields.l.map SI.row).length=c.fields.l.length:=by simp
 have hL:=h.ok.links
 have hdb:(confM c c.fields.l c.routing c.slim c.links.l [⟨nameS,⟨[],[]⟩,⟨[],[]⟩⟩]).b={ c.b with slices:=[(⟨nameS,⟨[],[]⟩,⟨[],[]⟩⟩:Slc).b] }:=by rw[confM_b];rfl
 have e1:(confM c c.fields.l c.routing c.slim c.links.l [⟨nameS,⟨[],[]⟩,⟨[],[]⟩⟩]).Ok:=confM_ok h.ok h.ok.fields h.ok.links (by simp) (fun s hs=>by simp at hs;subst hs;exact⟨by simp,by simp⟩)
 have e2:(confM c c.fields.l c.routing c.slim c.links.l [⟨nameS,⟨[],[]⟩,⟨[],[]⟩⟩]).Tx:=confM_tx h.tx h.tx.fields h.tx.routing h.tx.links (fun s hs=>by simp at hs;subst hs;exact⟨sok_S (show nameS.length<=1048576 by decide),by simp,by simp⟩)
 have e4:(77:Int) ≠ 0->Few c.b->checkO (confM c c.fields.l c.routing c.slim c.links.l [⟨nameS,⟨[],[]⟩,⟨[],[]⟩⟩]).b=(77,nameS):=fun _ f=>by rw[hdb];exact mar12 h.z mname_S (chkE_nil (headM_ok h.z).2.1)
 refine mar_copy0 c h.ok hy ?_
 unfold marC marQ
 (try (conv=>whnf));repeat' (first|refine Ok.seq ?_|(refine Ok.region tok ?_;conv=>whnf)|fail)
 refine Or.inr (Or.inr (Or.inl ?_));(conv=>whnf);refine⟨_,_,Tryz.func43,rfl,Tryz.call43,?_⟩;(conv=>whnf)
 refine Ok.keep [0,1,2,213,217] 4 5 ?_
 (conv=>whnf)
 refine mar_pre0 c h.ok (by omega) hda hi ?_
 unfold marF
 (try (conv=>whnf));repeat' (first|refine Ok.seq ?_|((first|refine Ok.region tok ?_|refine Ok.cond ?_);conv=>whnf)|refine Ok.block ?_|(refine Ok.skip ?_;conv=>whnf)|(refine bI ?_ ?_<;>intro<;>(conv=>whnf)<;>(try (exfalso;omega)))|fail)
 refine Or.inr (Or.inr (Or.inl ?_));(conv=>whnf);refine⟨_,_,Tryz.func87,rfl,Tryz.call87,?_⟩;(conv=>whnf)
 (try (conv=>whnf));repeat' (first|(refine Ok.pub (c:=sndN 4 (Tryz.f12.body.getD .ret)) 0 ?_;(conv=>whnf);refine Ok.pub 1 ?_;(conv=>whnf);refine Ok.pub 2 ?_;(conv=>whnf);refine Ok.pub 4 ?_;(conv=>whnf);refine Ok.keep [3,7,8,9] 0 5 ?_;(conv=>whnf);exact tailG h _ e1 e2 77 nameS e4 (rowC c.title c.fields.l c.routing c.slim (c.boxes.l.map boxC) c.links.l [⟨nameS,⟨[],[]⟩,⟨[],[]⟩⟩] rfl (by rw[List.map_map];rfl) rfl rfl (by simp) (by simp) (by simp) (by simp)))|refine Ok.seq ?_|((first|refine Ok.region tok ?_|refine Ok.cond ?_);conv=>whnf)|refine Ok.block ?_|(refine Ok.ret ?_;conv=>whnf)|(refine bI ?_ ?_<;>intro<;>(conv=>whnf)<;>(try (exfalso;omega)))|fail)
 all_goals first
  | (exfalso;omega)
set_option maxRecDepth 100000 in
set_option maxHeartbeats 16000000 in
theorem way13a{c:Config}(h:Mar c){i:Nat}{y:Box}(hy:c.boxes.l[i]? = some y){da:Int}(hda:-9223372036854775808<=da/\da<=9223372036854775807)(hi:marIx da c.boxes.l.length=i)(hx:c.fields.l=[]) :
    Ok Tryz.prog T (sndN 2 marC) marQ ⟨[(1,.i .i64 13),(2,.i .i64 da),(3,.bp 0 0)],[c.row],[],Tryz.f12.ntmps⟩:=by
 have hil:=(List.getElem?_eq_some_iff.1 hy).1
 have hyb:c.b.boxes[i]? = some y.b:=by show (c.boxes.l.map Box.b)[i]? = _;rw[List.getElem?_map,hy];rfl
 have hyo:=boxC_ok (h.ok.box y (List.mem_of_getElem? hy))
 have hyx:=boxC_tx (h.tx.boxes y (List.mem_of_getElem? hy))
 have hyr:(c.boxes.l.map fun x=>(boxC x).row)[i]? = some (rawB y (.lst 9 (y.outs.l.map srow) []) (.lst 112 (y.guards.l.map fun g=>(lineC g).row) []) (.lst 115 (y.rules.l.map fun r=>(ruleC r).row) [])):=by
  rw[List.getElem?_map,hy]
  simp[boxC,Box.row,rawB,Function.comp_def]
 have hbl:(c.boxes.l.map fun x=>(boxC x).row).length=c.boxes.l.length:=by simp
 have hll:(c.links.l.map Link.row).length=c.links.l.length:=by simp
 have hfl:(c.fields.l.map SI.row).length=c.fields.l.length:=by simp
 have hL:=h.ok.links
 exact absurd (show c.b.fields=[] from hx) (headM_ok h.z).2.2.1
set_option maxRecDepth 100000 in
set_option maxHeartbeats 16000000 in
theorem way13b{c:Config}(h:Mar c){i:Nat}{y:Box}(hy:c.boxes.l[i]? = some y){da:Int}(hda:-9223372036854775808<=da/\da<=9223372036854775807)(hi:marIx da c.boxes.l.length=i){x:SI}(hx:c.fields.l[0]? = some x) :
    Ok Tryz.prog T (sndN 2 marC) marQ ⟨[(1,.i .i64 13),(2,.i .i64 da),(3,.bp 0 0)],[c.row],[],Tryz.f12.ntmps⟩:=by
 have hil:=(List.getElem?_eq_some_iff.1 hy).1
 have hyb:c.b.boxes[i]? = some y.b:=by show (c.boxes.l.map Box.b)[i]? = _;rw[List.getElem?_map,hy];rfl
 have hyo:=boxC_ok (h.ok.box y (List.mem_of_getElem? hy))
 have hyx:=boxC_tx (h.tx.boxes y (List.mem_of_getElem? hy))
 have hyr:(c.boxes.l.map fun x=>(boxC x).row)[i]? = some (rawB y (.lst 9 (y.outs.l.map srow) []) (.lst 112 (y.guards.l.map fun g=>(lineC g).row) []) (.lst 115 (y.rules.l.map fun r=>(ruleC r).row) [])):=by
  rw[List.getElem?_map,hy]
  simp[boxC,Box.row,rawB,Function.comp_def]
 have hbl:(c.boxes.l.map fun x=>(boxC x).row).length=c.boxes.l.length:=by simp
 have hll:(c.links.l.map Link.row).length=c.links.l.length:=by simp
 have hfl:(c.fields.l.map SI.row).length=c.fields.l.length:=by simp
 have hL:=h.ok.links
 have hxx:=h.tx.fields x (List.mem_of_getElem? hx)
 have hxr:(c.fields.l.map SI.row)[0]? = some [.s x.s,.i .i64 x.n]:=by rw[List.getElem?_map,hx];rfl
 have hxl:=(List.getElem?_eq_some_iff.1 hx).1
 have hxr2:((c.fields.l.map SI.row).set 0 (setCells [.s x.s,.i .i64 x.n] (0+1) [.i .i64 0]))[0]? = some (setCells [.s x.s,.i .i64 x.n] (0+1) [.i .i64 0]):=List.getElem?_set_self (by omega)
 have hdb:(confM c (c.fields.l.set 0 { x with n:=0 }) c.routing c.slim c.links.l (c.slices.l.map slcC)).b={ c.b with fields:=c.b.fields.set 0 { x with n:=0 } }:=by rw[confM_b,slcM_b];rfl
 have e1:(confM c (c.fields.l.set 0 { x with n:=0 }) c.routing c.slim c.links.l (c.slices.l.map slcC)).Ok:=confM_ok h.ok (by simpa using h.ok.fields) h.ok.links (by simpa using h.ok.slices) (slcs_ok h.ok)
 have e2:(confM c (c.fields.l.set 0 { x with n:=0 }) c.routing c.slim c.links.l (c.slices.l.map slcC)).Tx:=confM_tx h.tx (fun z hz=>by rcases mem_set_or hz with hz|rfl;exact h.tx.fields z hz;exact⟨hxx.s,by show IOk 0;unfold IOk;omega⟩) h.tx.routing h.tx.links (slcs_tx h.tx)
 have e4:(70:Int) ≠ 0->Few c.b->checkO (confM c (c.fields.l.set 0 { x with n:=0 }) c.routing c.slim c.links.l (c.slices.l.map slcC)).b=(70,x.s):=fun _ f=>by rw[hdb];exact mar13 h.z hx badF_0
 refine mar_copy0 c h.ok hy ?_
 unfold marC marQ
 (try (conv=>whnf));repeat' (first|refine Ok.seq ?_|(refine Ok.region tok ?_;conv=>whnf)|fail)
 refine Or.inr (Or.inr (Or.inl ?_));(conv=>whnf);refine⟨_,_,Tryz.func43,rfl,Tryz.call43,?_⟩;(conv=>whnf)
 refine Ok.keep [0,1,2,213,217] 4 5 ?_
 (conv=>whnf)
 refine mar_pre0 c h.ok (by omega) hda hi ?_
 unfold marF
 (try (conv=>whnf));repeat' (first|refine Ok.seq ?_|((first|refine Ok.region tok ?_|refine Ok.cond ?_);conv=>whnf)|refine Ok.block ?_|(refine Ok.skip ?_;conv=>whnf)|(refine bI ?_ ?_<;>intro<;>(conv=>whnf)<;>(try (exfalso;omega)))|fail)
 refine Or.inr (Or.inr (Or.inl ?_));(conv=>whnf);refine⟨_,_,Tryz.func87,rfl,Tryz.call87,?_⟩;(conv=>whnf)
 (try (conv=>whnf));repeat' (first|(refine Ok.pub (c:=sndN 4 (Tryz.f12.body.getD .ret)) 0 ?_;(conv=>whnf);refine Ok.pub 1 ?_;(conv=>whnf);refine Ok.pub 2 ?_;(conv=>whnf);refine Ok.pub 3 ?_;(conv=>whnf);refine Ok.keep [3,7,8,9] 0 5 ?_;(conv=>whnf);exact tailG h _ e1 e2 70 x.s e4 (rowC c.title (c.fields.l.set 0 { x with n:=0 }) c.routing c.slim (c.boxes.l.map boxC) c.links.l (c.slices.l.map slcC) (by rw[List.map_set];rfl) (by rw[List.map_map];rfl) rfl (by rw[List.map_map];rfl) (by simp) (by simp) (by simp) (by simp)))|refine Ok.seq ?_|((first|refine Ok.region tok ?_|refine Ok.region_draw tok follows (by kernel_rfl) ?_|refine Ok.cond ?_);conv=>whnf)|refine Ok.block ?_|((first|refine Ok.skip ?_|refine Ok.ret ?_|refine⟨_,by assumption,?_⟩);conv=>whnf)|(refine bI ?_ ?_<;>intro<;>(conv=>whnf)<;>(try (exfalso;omega)))|((first|refine aJ ?_|refine⟨_,rfl,?_⟩);conv=>whnf)|fail)
 all_goals first
  | (exfalso;omega)
set_option maxRecDepth 100000 in
set_option maxHeartbeats 16000000 in
theorem way14{c:Config}(h:Mar c){i:Nat}{y:Box}(hy:c.boxes.l[i]? = some y){da:Int}(hda:-9223372036854775808<=da/\da<=9223372036854775807)(hi:marIx da c.boxes.l.length=i) :
    Ok Tryz.prog T (sndN 2 marC) marQ ⟨[(1,.i .i64 14),(2,.i .i64 da),(3,.bp 0 0)],[c.row],[],Tryz.f12.ntmps⟩:=by
 have hil:=(List.getElem?_eq_some_iff.1 hy).1
 have hyb:c.b.boxes[i]? = some y.b:=by show (c.boxes.l.map Box.b)[i]? = _;rw[List.getElem?_map,hy];rfl
 have hyo:=boxC_ok (h.ok.box y (List.mem_of_getElem? hy))
 have hyx:=boxC_tx (h.tx.boxes y (List.mem_of_getElem? hy))
 have hyr:(c.boxes.l.map fun x=>(boxC x).row)[i]? = some (rawB y (.lst 9 (y.outs.l.map srow) []) (.lst 112 (y.guards.l.map fun g=>(lineC g).row) []) (.lst 115 (y.rules.l.map fun r=>(ruleC r).row) [])):=by
  rw[List.getElem?_map,hy]
  simp[boxC,Box.row,rawB,Function.comp_def]
 have hbl:(c.boxes.l.map fun x=>(boxC x).row).length=c.boxes.l.length:=by simp
 have hll:(c.links.l.map Link.row).length=c.links.l.length:=by simp
 have hfl:(c.fields.l.map SI.row).length=c.fields.l.length:=by simp
 have hL:=h.ok.links
 have hdb:(confM c c.fields.l [] True c.links.l (c.slices.l.map slcC)).b={ c.b with slim:=True,routing:=[] }:=by rw[confM_b,slcM_b];rfl
 have e1:(confM c c.fields.l [] True c.links.l (c.slices.l.map slcC)).Ok:=confM_ok h.ok h.ok.fields h.ok.links (by simpa using h.ok.slices) (slcs_ok h.ok)
 have e2:(confM c c.fields.l [] True c.links.l (c.slices.l.map slcC)).Tx:=confM_tx h.tx h.tx.fields (sok_S (by simp)) h.tx.links (slcs_tx h.tx)
 have e4:(73:Int) ≠ 0->Few c.b->checkO (confM c c.fields.l [] True c.links.l (c.slices.l.map slcC)).b=(73,[]):=fun _ f=>by rw[hdb];exact mar14 h.z
 refine mar_copy0 c h.ok hy ?_
 unfold marC marQ
 (try (conv=>whnf));repeat' (first|refine Ok.seq ?_|(refine Ok.region tok ?_;conv=>whnf)|fail)
 refine Or.inr (Or.inr (Or.inl ?_));(conv=>whnf);refine⟨_,_,Tryz.func43,rfl,Tryz.call43,?_⟩;(conv=>whnf)
 refine Ok.keep [0,1,2,213,217] 4 5 ?_
 (conv=>whnf)
 refine mar_pre0 c h.ok (by omega) hda hi ?_
 unfold marF
 (try (conv=>whnf));repeat' (first|refine Ok.seq ?_|((first|refine Ok.region tok ?_|refine Ok.cond ?_);conv=>whnf)|refine Ok.block ?_|(refine Ok.skip ?_;conv=>whnf)|(refine bI ?_ ?_<;>intro<;>(conv=>whnf)<;>(try (exfalso;omega)))|fail)
 refine Or.inr (Or.inr (Or.inl ?_));(conv=>whnf);refine⟨_,_,Tryz.func87,rfl,Tryz.call87,?_⟩;(conv=>whnf)
 (try (conv=>whnf));repeat' (first|(refine Ok.pub (c:=sndN 4 (Tryz.f12.body.getD .ret)) 0 ?_;(conv=>whnf);refine Ok.pub 1 ?_;(conv=>whnf);refine Ok.pub 2 ?_;(conv=>whnf);refine Ok.pub 3 ?_;(conv=>whnf);refine Ok.boxT 4 3 rfl rfl ?_;(conv=>whnf);refine Ok.keep [3,7,8,9] 0 5 ?_;(conv=>whnf);exact tailG h _ e1 e2 73 [] e4 (rowC c.title c.fields.l [] True (c.boxes.l.map boxC) c.links.l (c.slices.l.map slcC) rfl (by rw[List.map_map];rfl) rfl (by rw[List.map_map];rfl) (by simp) (by simp) (by simp) (by simp)))|refine Ok.seq ?_|((first|refine Ok.region tok ?_|refine Ok.cond ?_);conv=>whnf)|refine Ok.block ?_|(refine Ok.ret ?_;conv=>whnf)|(refine bI ?_ ?_<;>intro<;>(conv=>whnf)<;>(try (exfalso;omega)))|fail)
 all_goals first
  | (exfalso;omega)
set_option maxRecDepth 100000 in
set_option maxHeartbeats 16000000 in
theorem wayN{c:Config}(h:Mar c){i:Nat}{y:Box}(hy:c.boxes.l[i]? = some y){da:Int}(hda:-9223372036854775808<=da/\da<=9223372036854775807)(hi:marIx da c.boxes.l.length=i){w:Int}(hw:¬ (0<=w/\w<=14)) :
    Ok Tryz.prog T (sndN 2 marC) marQ ⟨[(1,.i .i64 w),(2,.i .i64 da),(3,.bp 0 0)],[c.row],[],Tryz.f12.ntmps⟩:=by
 have hil:=(List.getElem?_eq_some_iff.1 hy).1
 have hyb:c.b.boxes[i]? = some y.b:=by show (c.boxes.l.map Box.b)[i]? = _;rw[List.getElem?_map,hy];rfl
 have hyo:=boxC_ok (h.ok.box y (List.mem_of_getElem? hy))
 have hyx:=boxC_tx (h.tx.boxes y (List.mem_of_getElem? hy))
 have hyr:(c.boxes.l.map fun x=>(boxC x).row)[i]? = some (rawB y (.lst 9 (y.outs.l.map srow) []) (.lst 112 (y.guards.l.map fun g=>(lineC g).row) []) (.lst 115 (y.rules.l.map fun r=>(ruleC r).row) [])):=by
  rw[List.getElem?_map,hy]
  simp[boxC,Box.row,rawB,Function.comp_def]
 have hbl:(c.boxes.l.map fun x=>(boxC x).row).length=c.boxes.l.length:=by simp
 have hll:(c.links.l.map Link.row).length=c.links.l.length:=by simp
 have hfl:(c.fields.l.map SI.row).length=c.fields.l.length:=by simp
 have hL:=h.ok.links
 refine mar_copy0 c h.ok hy ?_
 unfold marC marQ
 (try (conv=>whnf));repeat' (first|refine Ok.seq ?_|(refine Ok.region tok ?_;conv=>whnf)|fail)
 refine Or.inr (Or.inr (Or.inl ?_));(conv=>whnf);refine⟨_,_,Tryz.func43,rfl,Tryz.call43,?_⟩;(conv=>whnf)
 refine Ok.keep [0,1,2,213,217] 4 5 ?_
 (conv=>whnf)
 refine mar_pre0 c h.ok (by omega) hda hi ?_
 unfold marF
 (try (conv=>whnf));repeat' (first|refine Ok.seq ?_|((first|refine Ok.region tok ?_|refine Ok.cond ?_);conv=>whnf)|refine Ok.block ?_|(refine Ok.skip ?_;conv=>whnf)|(refine bI ?_ ?_<;>intro<;>(conv=>whnf)<;>(try (exfalso;omega)))|fail)
 refine Or.inr (Or.inr (Or.inl ?_));(conv=>whnf);refine⟨_,_,Tryz.func87,rfl,Tryz.call87,?_⟩;(conv=>whnf)
 (try (conv=>whnf));repeat' (first|(refine Ok.pub (c:=sndN 4 (Tryz.f12.body.getD .ret)) 0 ?_;(conv=>whnf);refine Ok.pub 1 ?_;(conv=>whnf);refine Ok.pub 2 ?_;(conv=>whnf);refine Ok.pub 3 ?_;(conv=>whnf);refine Ok.keep [3,7,8,9] 0 5 ?_;(conv=>whnf);exact tailG h (conf0 c) (conf0_ok h.ok) (conf0_tx h.tx) 0 [] (fun q=>absurd rfl q) (rowC c.title c.fields.l c.routing c.slim (c.boxes.l.map boxC) c.links.l (c.slices.l.map slcC) rfl (by rw[List.map_map];rfl) rfl (by rw[List.map_map];rfl) (by simp) (by simp) (by simp) (by simp)))|refine Ok.seq ?_|((first|refine Ok.region tok ?_|refine Ok.cond ?_);conv=>whnf)|refine Ok.block ?_|((first|refine Ok.skip ?_|refine Ok.ret ?_);conv=>whnf)|(refine bI ?_ ?_<;>intro<;>(conv=>whnf)<;>(try (exfalso;omega)))|fail)
 all_goals first
  | (exfalso;omega)
end Go.Proofs.YtcglkonooeddfaaGreatDoor
namespace Go.Proofs.YtcglkonooeddfaaGreatDoor
open Go Go.Vx
theorem sum_one{α:Type}{l:List α}{g:α->Nat}{i:Nat}{a:α}(h:l[i]? = some a):g a<=(l.map g).sum:=by
 induction l generalizing i with
 | nil=>simp at h
 | cons x l ih=>
  cases i with
  | zero=>simp at h;subst h;simp
  | succ i=>
   have:=ih (i:=i) (by simpa using h)
   simp only[List.map_cons,List.sum_cons]
   omega
theorem itoa_65536:Lib.itoa 65536=[54,53,53,51,54]:=by
 rw[show (65536:Int)=((65536:Nat):Int) from rfl,itoaM_pos,decM_big (by omega),decM_big (by omega),decM_big (by omega),decM_big (by omega),decM_small (by omega)]
 rfl
theorem itoa_7:Lib.itoa 7=[55]:=by
 rw[show (7:Int)=((7:Nat):Int) from rfl,itoaM_pos,decM_small (by omega)]
 rfl
theorem outs_few{c:Config}(h:Mar c){i:Nat}{y:Box}(hy:c.b.boxes[i]? = some y.b):y.outs.l.length<=1048575:=by
 have h1:=(cnt_zero.1 (check_parts h.z).2.1).2.1
 have h2:=sum_one (g:=fun b:BoxB=>b.ins.length+b.outs.length) hy
 unfold nPorts at h1
 have:y.b.outs.length=y.outs.l.length:=rfl
 omega
theorem prio_ok{c:ConfigB}{i:Nat}{b:BoxB}(h:(checkO c).1=0)(hb:c.boxes[i]? = some b){k:Nat}{r:RuleB}(hr:b.rules[k]? = some r):0<=r.prio/\r.prio<=65535:=by
 have h0:=firstE_zero (does_ok h hb).2.1 k r hr
 unfold ruleE told at h0
 have h1:ruleI c b (b.rules.take k) r=0:=by
  by_cases hz:ruleI c b (b.rules.take k) r=0
  . exact hz
  . rw[if_pos hz] at h0
    exact absurd h0 hz
 unfold ruleI at h1
 split at h1
 . cases h1
 . omega
set_option maxRecDepth 100000 in
set_option maxHeartbeats 16000000 in
theorem way2a{c:Config}(h:Mar c){i:Nat}{y:Box}(hy:c.boxes.l[i]? = some y){da:Int}(hda:-9223372036854775808<=da/\da<=9223372036854775807)(hi:marIx da c.boxes.l.length=i)(hp:y.ins.l=[]) :
    Ok Tryz.prog T (sndN 2 marC) marQ ⟨[(1,.i .i64 2),(2,.i .i64 da),(3,.bp 0 0)],[c.row],[],Tryz.f12.ntmps⟩:=by
 have hil:=(List.getElem?_eq_some_iff.1 hy).1
 have hyb:c.b.boxes[i]? = some y.b:=by show (c.boxes.l.map Box.b)[i]? = _;rw[List.getElem?_map,hy];rfl
 have hyo:=boxC_ok (h.ok.box y (List.mem_of_getElem? hy))
 have hyx:=boxC_tx (h.tx.boxes y (List.mem_of_getElem? hy))
 have hyr:(c.boxes.l.map fun x=>(boxC x).row)[i]? = some (rawB y (.lst 9 (y.outs.l.map srow) []) (.lst 112 (y.guards.l.map fun g=>(lineC g).row) []) (.lst 115 (y.rules.l.map fun r=>(ruleC r).row) [])):=by
  rw[List.getElem?_map,hy]
  simp[boxC,Box.row,rawB,Function.comp_def]
 have hbl:(c.boxes.l.map fun x=>(boxC x).row).length=c.boxes.l.length:=by simp
 have hll:(c.links.l.map Link.row).length=c.links.l.length:=by simp
 have hfl:(c.fields.l.map SI.row).length=c.fields.l.length:=by simp
 have hL:=h.ok.links
 have hp0:(y.ins.l.map srow).length=0:=by simp[hp]
 have e3:(boxC y).row=rawB y (.lst 9 (y.outs.l.map srow) []) (.lst 112 (y.guards.l.map fun g=>(lineC g).row) []) (.lst 115 (y.rules.l.map fun r=>(ruleC r).row) []):=by simp[boxC,Box.row,rawB,Function.comp_def]
 refine mar_copyO c h.ok hy (fun d t hr=>?_)
 have q0:=hr
 rcases hr with hr|⟨g,cp,hr⟩
 . unfold marC marQ
   (try (conv=>whnf));repeat' (first|refine Ok.seq ?_|(refine Ok.region tok ?_;conv=>whnf)|fail)
   refine Or.inr (Or.inr (Or.inl ?_));(conv=>whnf);refine⟨_,_,Tryz.func43,rfl,Tryz.call43,?_⟩;(conv=>whnf)
   refine Ok.keep [0,1,2,213,217,710] 6 5 ?_
   (conv=>whnf)
   refine mar_preO c h.ok (by omega) hda hi q0 ?_
   unfold marF
   have hn0:y.outs.l=[]:=List.map_eq_nil_iff.1 hr
   have hyd:((c.boxes.l.map fun x=>(boxC x).row).set i (rawB y .rnl (.lst 112 (y.guards.l.map fun g=>(lineC g).row) []) (.lst 115 (y.rules.l.map fun r=>(ruleC r).row) [])))[i]? = some (rawB y .rnl (.lst 112 (y.guards.l.map fun g=>(lineC g).row) []) (.lst 115 (y.rules.l.map fun r=>(ruleC r).row) [])):=List.getElem?_set_self (by omega)
   have hy2:∀ d',(((c.boxes.l.map fun x=>(boxC x).row).set i (rawB y .rnl (.lst 112 (y.guards.l.map fun g=>(lineC g).row) []) (.lst 115 (y.rules.l.map fun r=>(ruleC r).row) []))).set i (setCells (rawB y .rnl (.lst 112 (y.guards.l.map fun g=>(lineC g).row) []) (.lst 115 (y.rules.l.map fun r=>(ruleC r).row) [])) (0+2) [d']))[i]? = some (setCells (rawB y .rnl (.lst 112 (y.guards.l.map fun g=>(lineC g).row) []) (.lst 115 (y.rules.l.map fun r=>(ruleC r).row) [])) (0+2) [d']):=fun _=>List.getElem?_set_self (by simp;omega)
   (try (conv=>whnf));repeat' (first|(refine Ok.pubL (c:=sndN 4 (Tryz.f12.body.getD .ret)) 500 5 1 i 2 q0 rfl rfl rfl (by decide) (List.getElem?_set_self (by simp;omega)) rfl ?_;(conv=>whnf);refine Ok.pub 0 ?_;(conv=>whnf);refine Ok.pub 1 ?_;(conv=>whnf);refine Ok.pub 2 ?_;(conv=>whnf);refine Ok.pub 3 ?_;(conv=>whnf);refine Ok.keep [3,7,8,9] 0 5 ?_;(conv=>whnf);(try rw[List.set_set]);(try rw[List.set_set]);exact tailD h (boxC y) hyo hyx e3 0 [] (fun q=>absurd rfl q))|refine Ok.seq ?_|((first|refine Ok.region tok ?_|refine Ok.cond ?_);conv=>whnf)|refine Ok.block ?_|((first|refine Ok.ret ?_|refine⟨_,by assumption,?_⟩);conv=>whnf)|(refine bI ?_ ?_<;>intro<;>(conv=>whnf)<;>(try (exfalso;omega)))|(refine aJ ?_;conv=>whnf)|fail)
   all_goals first
    | (exfalso;omega)
 . unfold marC marQ
   (try (conv=>whnf));repeat' (first|refine Ok.seq ?_|(refine Ok.region tok ?_;conv=>whnf)|fail)
   refine Or.inr (Or.inr (Or.inl ?_));(conv=>whnf);refine⟨_,_,Tryz.func43,rfl,Tryz.call43,?_⟩;(conv=>whnf)
   refine Ok.keep [0,1,2,213,217,710] 6 5 ?_
   (conv=>whnf)
   refine mar_preO c h.ok (by omega) hda hi q0 ?_
   unfold marF
   have hyd:((c.boxes.l.map fun x=>(boxC x).row).set i (rawB y (.rsl g y.outs.l.length cp) (.lst 112 (y.guards.l.map fun g=>(lineC g).row) []) (.lst 115 (y.rules.l.map fun r=>(ruleC r).row) [])))[i]? = some (rawB y (.rsl g y.outs.l.length cp) (.lst 112 (y.guards.l.map fun g=>(lineC g).row) []) (.lst 115 (y.rules.l.map fun r=>(ruleC r).row) [])):=List.getElem?_set_self (by omega)
   have hy2:∀ d',(((c.boxes.l.map fun x=>(boxC x).row).set i (rawB y (.rsl g y.outs.l.length cp) (.lst 112 (y.guards.l.map fun g=>(lineC g).row) []) (.lst 115 (y.rules.l.map fun r=>(ruleC r).row) []))).set i (setCells (rawB y (.rsl g y.outs.l.length cp) (.lst 112 (y.guards.l.map fun g=>(lineC g).row) []) (.lst 115 (y.rules.l.map fun r=>(ruleC r).row) [])) (0+2) [d']))[i]? = some (setCells (rawB y (.rsl g y.outs.l.length cp) (.lst 112 (y.guards.l.map fun g=>(lineC g).row) []) (.lst 115 (y.rules.l.map fun r=>(ruleC r).row) [])) (0+2) [d']):=fun _=>List.getElem?_set_self (by simp;omega)
   (try (conv=>whnf));repeat' (first|(refine Ok.pubL (c:=sndN 4 (Tryz.f12.body.getD .ret)) 500 5 1 i 2 q0 rfl rfl rfl (by decide) (List.getElem?_set_self (by simp;omega)) rfl ?_;(conv=>whnf);refine Ok.pub 0 ?_;(conv=>whnf);refine Ok.pub 1 ?_;(conv=>whnf);refine Ok.pub 2 ?_;(conv=>whnf);refine Ok.pub 3 ?_;(conv=>whnf);refine Ok.keep [3,7,8,9] 0 5 ?_;(conv=>whnf);(try rw[List.set_set]);(try rw[List.set_set]);exact tailD h (boxC y) hyo hyx e3 0 [] (fun q=>absurd rfl q))|refine Ok.seq ?_|((first|refine Ok.region tok ?_|refine Ok.cond ?_);conv=>whnf)|refine Ok.block ?_|((first|refine Ok.ret ?_|refine⟨_,by assumption,?_⟩);conv=>whnf)|(refine bI ?_ ?_<;>intro<;>(conv=>whnf)<;>(try (exfalso;omega)))|(refine aJ ?_;conv=>whnf)|fail)
   all_goals first
    | (exfalso;omega)
set_option maxRecDepth 100000 in
set_option maxHeartbeats 16000000 in
theorem way2b{c:Config}(h:Mar c){i:Nat}{y:Box}(hy:c.boxes.l[i]? = some y){da:Int}(hda:-9223372036854775808<=da/\da<=9223372036854775807)(hi:marIx da c.boxes.l.length=i){p:Str}(hp:y.ins.l[0]? = some p) :
    Ok Tryz.prog T (sndN 2 marC) marQ ⟨[(1,.i .i64 2),(2,.i .i64 da),(3,.bp 0 0)],[c.row],[],Tryz.f12.ntmps⟩:=by
 have hil:=(List.getElem?_eq_some_iff.1 hy).1
 have hyb:c.b.boxes[i]? = some y.b:=by show (c.boxes.l.map Box.b)[i]? = _;rw[List.getElem?_map,hy];rfl
 have hyo:=boxC_ok (h.ok.box y (List.mem_of_getElem? hy))
 have hyx:=boxC_tx (h.tx.boxes y (List.mem_of_getElem? hy))
 have hyr:(c.boxes.l.map fun x=>(boxC x).row)[i]? = some (rawB y (.lst 9 (y.outs.l.map srow) []) (.lst 112 (y.guards.l.map fun g=>(lineC g).row) []) (.lst 115 (y.rules.l.map fun r=>(ruleC r).row) [])):=by
  rw[List.getElem?_map,hy]
  simp[boxC,Box.row,rawB,Function.comp_def]
 have hbl:(c.boxes.l.map fun x=>(boxC x).row).length=c.boxes.l.length:=by simp
 have hll:(c.links.l.map Link.row).length=c.links.l.length:=by simp
 have hfl:(c.fields.l.map SI.row).length=c.fields.l.length:=by simp
 have hL:=h.ok.links
 have hpr:(y.ins.l.map srow)[0]? = some [.s p]:=by rw[List.getElem?_map,hp];rfl
 have hpl:0<(y.ins.l.map srow).length:=(List.getElem?_eq_some_iff.1 hpr).1
 have hpx:=(h.tx.boxes y (List.mem_of_getElem? hy)).ins p (List.mem_of_getElem? hp)
 have hpn:p.length<=1048576:=hpx
 have hnm:y.name.length<=1048576:=hyx.name
 have hon:y.outs.l.length<=1048575:=outs_few h hyb
 have hb:({ boxC y with outs:=⟨y.outs.l++[p],[]⟩ }:Box).b={ y.b with outs:=y.b.outs++[p] }:=by rw[<- boxC_b y];rfl
 have e1:({ boxC y with outs:=⟨y.outs.l++[p],[]⟩ }:Box).Ok:=⟨hyo.ins,by simp;omega,hyo.guards,hyo.rules,hyo.owns,hyo.routes,hyo.line,hyo.rule⟩
 have e2:({ boxC y with outs:=⟨y.outs.l++[p],[]⟩ }:Box).Tx:=⟨hyx.name,hyx.ins,fun x hx=>by rcases List.mem_append.1 hx with hx|hx;exact hyx.outs x hx;simp at hx;subst hx;exact hpx,hyx.guards,hyx.rules,hyx.owns,hyx.routes⟩
 have e3:({ boxC y with outs:=⟨y.outs.l++[p],[]⟩ }:Box).row=rawB y (.lst 9 ((y.outs.l++[p]).map srow) []) (.lst 112 (y.guards.l.map fun g=>(lineC g).row) []) (.lst 115 (y.rules.l.map fun r=>(ruleC r).row) []):=by simp[boxC,Box.row,rawB,Function.comp_def]
 have e4:(72:Int) ≠ 0->Few c.b->checkO (putB c.b i ({ boxC y with outs:=⟨y.outs.l++[p],[]⟩ }:Box).b)=(72,dot y.name p):=fun _ f=>by rw[hb];exact mar2 h.z hyb hp f.1
 refine mar_copyO c h.ok hy (fun d t hr=>?_)
 have q0:=hr
 rcases hr with hr|⟨g,cp,hr⟩
 . unfold marC marQ
   (try (conv=>whnf));repeat' (first|refine Ok.seq ?_|(refine Ok.region tok ?_;conv=>whnf)|fail)
   refine Or.inr (Or.inr (Or.inl ?_));(conv=>whnf);refine⟨_,_,Tryz.func43,rfl,Tryz.call43,?_⟩;(conv=>whnf)
   refine Ok.keep [0,1,2,213,217,710] 6 5 ?_
   (conv=>whnf)
   refine mar_preO c h.ok (by omega) hda hi q0 ?_
   unfold marF
   have hn0:y.outs.l=[]:=List.map_eq_nil_iff.1 hr
   have hyd:((c.boxes.l.map fun x=>(boxC x).row).set i (rawB y .rnl (.lst 112 (y.guards.l.map fun g=>(lineC g).row) []) (.lst 115 (y.rules.l.map fun r=>(ruleC r).row) [])))[i]? = some (rawB y .rnl (.lst 112 (y.guards.l.map fun g=>(lineC g).row) []) (.lst 115 (y.rules.l.map fun r=>(ruleC r).row) [])):=List.getElem?_set_self (by omega)
   have hy2:∀ d',(((c.boxes.l.map fun x=>(boxC x).row).set i (rawB y .rnl (.lst 112 (y.guards.l.map fun g=>(lineC g).row) []) (.lst 115 (y.rules.l.map fun r=>(ruleC r).row) []))).set i (setCells (rawB y .rnl (.lst 112 (y.guards.l.map fun g=>(lineC g).row) []) (.lst 115 (y.rules.l.map fun r=>(ruleC r).row) [])) (0+2) [d']))[i]? = some (setCells (rawB y .rnl (.lst 112 (y.guards.l.map fun g=>(lineC g).row) []) (.lst 115 (y.rules.l.map fun r=>(ruleC r).row) [])) (0+2) [d']):=fun _=>List.getElem?_set_self (by simp;omega)
   (try (conv=>whnf));repeat' (first|(refine⟨710,?_⟩;(conv=>whnf);refine⟨by simp,_,.inl ⟨rfl,rfl⟩,?_⟩;(conv=>whnf);refine⟨by simp,by simp,(y.outs.l++[p]).map srow,y.outs.l.length+1,(by rw[hn0];rfl),by simp,fun g' c' hc'=>?_⟩;(conv=>whnf))|(refine⟨_,hy2 _,?_⟩;conv=>whnf)|(refine Ok.pubL (c:=sndN 4 (Tryz.f12.body.getD .ret)) 500 _ 1 i 2 (.raw _ _ (by simp)) rfl rfl rfl (by decide) (List.getElem?_set_self (by simp;omega)) rfl ?_;(conv=>whnf);refine Ok.pub 0 ?_;(conv=>whnf);refine Ok.pub 1 ?_;(conv=>whnf);refine Ok.pub 2 ?_;(conv=>whnf);refine Ok.pub 3 ?_;(conv=>whnf);refine Ok.keep [3,7,8,9] 0 5 ?_;(conv=>whnf);(try rw[List.set_set]);(try rw[List.set_set]);exact tailD h _ e1 e2 e3 72 (dot y.name p) e4)|refine Ok.seq ?_|((first|refine Ok.region tok ?_|refine Ok.region_tree (id:=19) tok follows [(8,11,[10,9]),(10,11,[]),(1,12,[4,3,2]),(2,12,[4,3]),(3,12,[4]),(4,12,[]),(5,12,[11,10,9,8,7,6]),(6,12,[11,10,9,8,7]),(7,12,[11,10,9,8]),(8,12,[11,10,9]),(9,12,[11,10]),(10,12,[11]),(11,12,[]),(4,15,[]),(8,15,[]),(10,15,[]),(11,15,[]),(12,15,[])] (.q 1 (.q 2 (.q 3 (.q 4 (.q 5 (.q 6 (.q 7 (.q 8 (.q 9 (.q 10 (.alt 0 (.l 11 (.l 12 (.q 13 (.q 14 (.l 15 .nil))))) (.alt 11 (.alt 0 (.l 12 (.q 13 (.q 14 (.l 15 .nil)))) (.alt 12 (.q 0 (.q 13 (.q 14 (.l 15 .nil)))) .nil)) .nil)))))))))))) (by kernel_rfl) ?_|refine Ok.region_draw tok follows (by kernel_rfl) ?_|refine Ok.cond ?_);conv=>whnf)|refine Ok.block ?_|((first|refine Ok.skip ?_|refine Ok.ret ?_|refine ix _ (by assumption) ?_|refine⟨_,by assumption,?_⟩);conv=>whnf)|(refine bI ?_ ?_<;>intro<;>(conv=>whnf)<;>(try (exfalso;omega)))|((first|refine aJ ?_|refine⟨_,rfl,?_⟩);conv=>whnf)|(exact True.intro)|(refine And.intro ?_ ?_<;>(conv=>whnf))|fail)
   all_goals first
    | (exfalso;omega)
 . unfold marC marQ
   (try (conv=>whnf));repeat' (first|refine Ok.seq ?_|(refine Ok.region tok ?_;conv=>whnf)|fail)
   refine Or.inr (Or.inr (Or.inl ?_));(conv=>whnf);refine⟨_,_,Tryz.func43,rfl,Tryz.call43,?_⟩;(conv=>whnf)
   refine Ok.keep [0,1,2,213,217,710] 6 5 ?_
   (conv=>whnf)
   refine mar_preO c h.ok (by omega) hda hi q0 ?_
   unfold marF
   have hyd:((c.boxes.l.map fun x=>(boxC x).row).set i (rawB y (.rsl g y.outs.l.length cp) (.lst 112 (y.guards.l.map fun g=>(lineC g).row) []) (.lst 115 (y.rules.l.map fun r=>(ruleC r).row) [])))[i]? = some (rawB y (.rsl g y.outs.l.length cp) (.lst 112 (y.guards.l.map fun g=>(lineC g).row) []) (.lst 115 (y.rules.l.map fun r=>(ruleC r).row) [])):=List.getElem?_set_self (by omega)
   have hy2:∀ d',(((c.boxes.l.map fun x=>(boxC x).row).set i (rawB y (.rsl g y.outs.l.length cp) (.lst 112 (y.guards.l.map fun g=>(lineC g).row) []) (.lst 115 (y.rules.l.map fun r=>(ruleC r).row) []))).set i (setCells (rawB y (.rsl g y.outs.l.length cp) (.lst 112 (y.guards.l.map fun g=>(lineC g).row) []) (.lst 115 (y.rules.l.map fun r=>(ruleC r).row) [])) (0+2) [d']))[i]? = some (setCells (rawB y (.rsl g y.outs.l.length cp) (.lst 112 (y.guards.l.map fun g=>(lineC g).row) []) (.lst 115 (y.rules.l.map fun r=>(ruleC r).row) [])) (0+2) [d']):=fun _=>List.getElem?_set_self (by simp;omega)
   (try (conv=>whnf));repeat' (first|((first|refine⟨710,710,5,rfl,?_⟩|refine⟨(y.outs.l++[p]).map srow,y.outs.l.length+1,by simp[srow],by simp,?_⟩);conv=>whnf)|(refine⟨fun _=>?_,fun _=>⟨5,by (conv=>whnf);exact True.intro,fun g' c' hc'=>?_⟩⟩<;>(conv=>whnf))|(refine⟨_,hy2 _,?_⟩;conv=>whnf)|(refine Ok.pubL (c:=sndN 4 (Tryz.f12.body.getD .ret)) 500 _ 1 i 2 (.raw _ _ (by simp)) rfl rfl rfl (by decide) (List.getElem?_set_self (by simp;omega)) rfl ?_;(conv=>whnf);refine Ok.pub 0 ?_;(conv=>whnf);refine Ok.pub 1 ?_;(conv=>whnf);refine Ok.pub 2 ?_;(conv=>whnf);refine Ok.pub 3 ?_;(conv=>whnf);refine Ok.keep [3,7,8,9] 0 5 ?_;(conv=>whnf);(try rw[List.set_set]);(try rw[List.set_set]);exact tailD h _ e1 e2 e3 72 (dot y.name p) e4)|refine Ok.seq ?_|((first|refine Ok.region tok ?_|refine Ok.region_tree (id:=19) tok follows [(8,11,[10,9]),(10,11,[]),(1,12,[4,3,2]),(2,12,[4,3]),(3,12,[4]),(4,12,[]),(5,12,[11,10,9,8,7,6]),(6,12,[11,10,9,8,7]),(7,12,[11,10,9,8]),(8,12,[11,10,9]),(9,12,[11,10]),(10,12,[11]),(11,12,[]),(4,15,[]),(8,15,[]),(10,15,[]),(11,15,[]),(12,15,[])] (.q 1 (.q 2 (.q 3 (.q 4 (.q 5 (.q 6 (.q 7 (.q 8 (.q 9 (.q 10 (.alt 0 (.l 11 (.l 12 (.q 13 (.q 14 (.l 15 .nil))))) (.alt 11 (.alt 0 (.l 12 (.q 13 (.q 14 (.l 15 .nil)))) (.alt 12 (.q 0 (.q 13 (.q 14 (.l 15 .nil)))) .nil)) .nil)))))))))))) (by kernel_rfl) ?_|refine Ok.region_draw tok follows (by kernel_rfl) ?_|refine Ok.cond ?_);conv=>whnf)|refine Ok.block ?_|((first|refine Ok.skip ?_|refine Ok.ret ?_|refine ix _ (by assumption) ?_|refine⟨_,by assumption,?_⟩|refine⟨_,.inl ⟨rfl,rfl⟩,?_⟩);conv=>whnf)|(refine bI ?_ ?_<;>intro<;>(conv=>whnf)<;>(try (exfalso;omega)))|((first|refine aJ ?_|refine⟨_,rfl,?_⟩);conv=>whnf)|(exact True.intro)|(refine And.intro ?_ ?_<;>(conv=>whnf))|fail)
   all_goals first
    | (exfalso;omega)
end Go.Proofs.YtcglkonooeddfaaGreatDoor
namespace Go.Proofs.YtcglkonooeddfaaGreatDoor
open Go Go.Vx
theorem lens_few{c:Config}(h:Mar c){i:Nat}{y:Box}(hy:c.b.boxes[i]? = some y.b):y.rules.l.length<=1048575/\y.guards.l.length<=1048575:=by
 obtain⟨_,_,h1,h2,_⟩:=cnt_zero.1 (check_parts h.z).2.1
 have k1:=sum_one (g:=fun b:BoxB=>b.guards.length) hy
 have k2:=sum_one (g:=fun b:BoxB=>b.rules.length) hy
 unfold nLines at h1
 unfold nRules at h2
 have e1:y.b.guards.length=y.guards.l.length:=List.length_map ..
 have e2:y.b.rules.length=y.rules.l.length:=List.length_map ..
 omega
theorem bC_rules(y:Box)(r:Rule):({ boxC y with rules:=⟨y.rules.l.map ruleC++[r],[]⟩ }:Box).b={ y.b with rules:=y.b.rules++[r.b] }:=by
 simp[Box.b,boxC,Function.comp_def,lineC_b,ruleC_b]
theorem bC_guards(y:Box)(r:Line):({ boxC y with guards:=⟨y.guards.l.map lineC++[r],[]⟩ }:Box).b={ y.b with guards:=y.b.guards++[r.b] }:=by
 simp[Box.b,boxC,Function.comp_def,lineC_b,ruleC_b]
theorem nodot_port{c:Config}(h:Mar c){i:Nat}{b:BoxB}(hb:c.b.boxes[i]? = some b){p:Str}(hp:(46:UInt8) ∈ p):p ∉ b.ins++b.outs:=by
 intro hm
 obtain⟨j,hj⟩:=List.getElem?_of_mem hm
 exact name_nodot (ports_new (box_ok h.z hb).2 hj).1 hp
set_option maxRecDepth 100000 in
set_option maxHeartbeats 16000000 in
theorem way3{c:Config}(h:Mar c){i:Nat}{y:Box}(hy:c.boxes.l[i]? = some y){da:Int}(hda:-9223372036854775808<=da/\da<=9223372036854775807)(hi:marIx da c.boxes.l.length=i) :
    Ok Tryz.prog T (sndN 2 marC) marQ ⟨[(1,.i .i64 3),(2,.i .i64 da),(3,.bp 0 0)],[c.row],[],Tryz.f12.ntmps⟩:=by
 have hil:=(List.getElem?_eq_some_iff.1 hy).1
 have hyb:c.b.boxes[i]? = some y.b:=by show (c.boxes.l.map Box.b)[i]? = _;rw[List.getElem?_map,hy];rfl
 have hyo:=boxC_ok (h.ok.box y (List.mem_of_getElem? hy))
 have hyx:=boxC_tx (h.tx.boxes y (List.mem_of_getElem? hy))
 have hyr:(c.boxes.l.map fun x=>(boxC x).row)[i]? = some (rawB y (.lst 9 (y.outs.l.map srow) []) (.lst 112 (y.guards.l.map fun g=>(lineC g).row) []) (.lst 115 (y.rules.l.map fun r=>(ruleC r).row) [])):=by
  rw[List.getElem?_map,hy]
  simp[boxC,Box.row,rawB,Function.comp_def]
 have hbl:(c.boxes.l.map fun x=>(boxC x).row).length=c.boxes.l.length:=by simp
 have hll:(c.links.l.map Link.row).length=c.links.l.length:=by simp
 have hfl:(c.fields.l.map SI.row).length=c.fields.l.length:=by simp
 have hL:=h.ok.links
 have hnm:y.name.length<=1048576:=hyx.name
 have hrn:=(lens_few h hyb).1
 have e1:({ boxC y with rules:=⟨y.rules.l.map ruleC++[(⟨65536,⟨[],[]⟩,⟨[n1],[]⟩,⟨[],[]⟩,⟨[],[]⟩⟩:Rule)],[]⟩ }:Box).Ok:=⟨hyo.ins,hyo.outs,hyo.guards,by simp;omega,hyo.owns,hyo.routes,hyo.line,fun x hx=>by rcases List.mem_append.1 hx with hx|hx;exact hyo.rule x hx;simp at hx;subst hx;exact⟨by simp,by simp,by simp,by simp⟩⟩
 have e2:({ boxC y with rules:=⟨y.rules.l.map ruleC++[(⟨65536,⟨[],[]⟩,⟨[n1],[]⟩,⟨[],[]⟩,⟨[],[]⟩⟩:Rule)],[]⟩ }:Box).Tx:=⟨hyx.name,hyx.ins,hyx.outs,hyx.guards,fun x hx=>by rcases List.mem_append.1 hx with hx|hx;exact hyx.rules x hx;simp at hx;subst hx;exact⟨by show IOk 65536;unfold IOk;omega,by simp,fun n hn=>by simp at hn;subst hn;exact n1_tx,by simp,by simp⟩,hyx.owns,hyx.routes⟩
 have e3:({ boxC y with rules:=⟨y.rules.l.map ruleC++[(⟨65536,⟨[],[]⟩,⟨[n1],[]⟩,⟨[],[]⟩,⟨[],[]⟩⟩:Rule)],[]⟩ }:Box).row=rawB y (.lst 9 (y.outs.l.map srow) []) (.lst 112 (y.guards.l.map fun g=>(lineC g).row) []) (.lst 115 ((y.rules.l++[(⟨65536,⟨[],[]⟩,⟨[n1],[]⟩,⟨[],[]⟩,⟨[],[]⟩⟩:Rule)]).map fun r=>(ruleC r).row) []):=by simp[boxC,Box.row,rawB,ruleC,Rule.row,Function.comp_def]
 have e4:(76:Int) ≠ 0->Few c.b->checkO (putB c.b i ({ boxC y with rules:=⟨y.rules.l.map ruleC++[(⟨65536,⟨[],[]⟩,⟨[n1],[]⟩,⟨[],[]⟩,⟨[],[]⟩⟩:Rule)],[]⟩ }:Box).b)=(76,y.name++[32,114,117,108,101,32,54,53,53,51,54]):=fun _ f=>by rw[bC_rules];exact (by have q:=mar3 (m:=[n1]) h.z hyb f.2.2.1;rw[itoa_65536,List.append_assoc] at q;exact q)
 refine mar_copyR c h.ok hy (fun d t hr=>?_)
 have q0:=hr
 rcases hr with hr|⟨g,cp,hr⟩
 . unfold marC marQ
   (try (conv=>whnf));repeat' (first|refine Ok.seq ?_|(refine Ok.region tok ?_;conv=>whnf)|fail)
   refine Or.inr (Or.inr (Or.inl ?_));(conv=>whnf);refine⟨_,_,Tryz.func43,rfl,Tryz.call43,?_⟩;(conv=>whnf)
   refine Ok.keep [0,1,2,213,217,712] 8 5 ?_
   (conv=>whnf)
   refine mar_preR c h.ok (by omega) hda hi q0 ?_
   unfold marF
   have hn0:y.rules.l=[]:=List.map_eq_nil_iff.1 hr
   have hyd:((c.boxes.l.map fun x=>(boxC x).row).set i (rawB y (.lst 9 (y.outs.l.map srow) []) (.lst 112 (y.guards.l.map fun g=>(lineC g).row) []) .rnl))[i]? = some (rawB y (.lst 9 (y.outs.l.map srow) []) (.lst 112 (y.guards.l.map fun g=>(lineC g).row) []) .rnl):=List.getElem?_set_self (by omega)
   have hy2:∀ d',(((c.boxes.l.map fun x=>(boxC x).row).set i (rawB y (.lst 9 (y.outs.l.map srow) []) (.lst 112 (y.guards.l.map fun g=>(lineC g).row) []) .rnl)).set i (setCells (rawB y (.lst 9 (y.outs.l.map srow) []) (.lst 112 (y.guards.l.map fun g=>(lineC g).row) []) .rnl) (0+4) [d']))[i]? = some (setCells (rawB y (.lst 9 (y.outs.l.map srow) []) (.lst 112 (y.guards.l.map fun g=>(lineC g).row) []) .rnl) (0+4) [d']):=fun _=>List.getElem?_set_self (by simp;omega)
   (try (conv=>whnf));repeat' (first|(refine⟨712,?_⟩;(conv=>whnf);refine⟨by simp,_,.inl ⟨rfl,rfl⟩,?_⟩;(conv=>whnf);refine⟨by simp,by simp,(y.rules.l++[(⟨65536,⟨[],[]⟩,⟨[n1],[]⟩,⟨[],[]⟩,⟨[],[]⟩⟩:Rule)]).map (fun r=>(ruleC r).row),y.rules.l.length+1,(by rw[hn0];rfl),by simp,fun g' c' hc'=>?_⟩;(conv=>whnf))|(refine⟨_,hy2 _,?_⟩;conv=>whnf)|(refine Ok.pubL (c:=sndN 4 (Tryz.f12.body.getD .ret)) 502 _ 1 i 4 (.raw _ _ (by simp)) rfl rfl rfl (by decide) (List.getElem?_set_self (by simp;omega)) rfl ?_;(conv=>whnf);refine Ok.pub 0 ?_;(conv=>whnf);refine Ok.pub 1 ?_;(conv=>whnf);refine Ok.pub 2 ?_;(conv=>whnf);refine Ok.pub 3 ?_;(conv=>whnf);refine Ok.keep [3,7,8,9] 0 5 ?_;(conv=>whnf);(try rw[List.set_set]);(try rw[List.set_set]);exact tailD h _ e1 e2 e3 76 (y.name++[32,114,117,108,101,32,54,53,53,51,54]) e4)|refine Ok.seq ?_|((first|refine Ok.region tok ?_|refine Ok.region_tree (id:=22) tok follows [(5,7,[6]),(1,8,[4,3,2]),(2,8,[4,3]),(3,8,[4]),(4,8,[]),(5,8,[]),(6,8,[7]),(7,8,[]),(4,11,[]),(5,11,[]),(7,11,[]),(8,11,[])] (.q 1 (.q 2 (.q 3 (.q 4 (.alt 0 (.l 5 (.q 6 (.l 7 (.l 8 (.q 9 (.q 10 (.l 11 .nil))))))) (.alt 5 (.q 6 (.alt 0 (.l 7 (.l 8 (.q 9 (.q 10 (.l 11 .nil))))) (.alt 7 (.alt 0 (.l 8 (.q 9 (.q 10 (.l 11 .nil)))) (.alt 8 (.q 0 (.q 9 (.q 10 (.l 11 .nil)))) .nil)) .nil))) .nil)))))) (by kernel_rfl) ?_|refine Ok.region_draw tok follows (by kernel_rfl) ?_|refine Ok.cond ?_);conv=>whnf)|refine Ok.block ?_|((first|refine Ok.ret ?_|refine⟨_,by assumption,?_⟩);conv=>whnf)|(refine Or.inr (Or.inl ?_);(conv=>whnf);(repeat (refine aI ?_;conv=>whnf));refine⟨_,any1_at , ?_⟩;rintro _ _ ⟨rfl,rfl⟩<;>(conv=>whnf))|(refine bI ?_ ?_<;>intro<;>(conv=>whnf)<;>(try (exfalso;omega)))|((first|refine aJ ?_|refine⟨_,rfl,?_⟩);conv=>whnf)|(exact True.intro)|(refine And.intro ?_ ?_<;>(conv=>whnf))|fail)
   all_goals first
    | (exfalso;omega)
 . unfold marC marQ
   (try (conv=>whnf));repeat' (first|refine Ok.seq ?_|(refine Ok.region tok ?_;conv=>whnf)|fail)
   refine Or.inr (Or.inr (Or.inl ?_));(conv=>whnf);refine⟨_,_,Tryz.func43,rfl,Tryz.call43,?_⟩;(conv=>whnf)
   refine Ok.keep [0,1,2,213,217,712] 8 5 ?_
   (conv=>whnf)
   refine mar_preR c h.ok (by omega) hda hi q0 ?_
   unfold marF
   have hyd:((c.boxes.l.map fun x=>(boxC x).row).set i (rawB y (.lst 9 (y.outs.l.map srow) []) (.lst 112 (y.guards.l.map fun g=>(lineC g).row) []) (.rsl g y.rules.l.length cp)))[i]? = some (rawB y (.lst 9 (y.outs.l.map srow) []) (.lst 112 (y.guards.l.map fun g=>(lineC g).row) []) (.rsl g y.rules.l.length cp)):=List.getElem?_set_self (by omega)
   have hy2:∀ d',(((c.boxes.l.map fun x=>(boxC x).row).set i (rawB y (.lst 9 (y.outs.l.map srow) []) (.lst 112 (y.guards.l.map fun g=>(lineC g).row) []) (.rsl g y.rules.l.length cp))).set i (setCells (rawB y (.lst 9 (y.outs.l.map srow) []) (.lst 112 (y.guards.l.map fun g=>(lineC g).row) []) (.rsl g y.rules.l.length cp)) (0+4) [d']))[i]? = some (setCells (rawB y (.lst 9 (y.outs.l.map srow) []) (.lst 112 (y.guards.l.map fun g=>(lineC g).row) []) (.rsl g y.rules.l.length cp)) (0+4) [d']):=fun _=>List.getElem?_set_self (by simp;omega)
   (try (conv=>whnf));repeat' (first|((first|refine⟨712,712,7,rfl,?_⟩|refine⟨(y.rules.l++[(⟨65536,⟨[],[]⟩,⟨[n1],[]⟩,⟨[],[]⟩,⟨[],[]⟩⟩:Rule)]).map (fun r=>(ruleC r).row),y.rules.l.length+1,by simp[ruleC,Rule.row],by simp,?_⟩);conv=>whnf)|(refine⟨fun _=>?_,fun _=>⟨7,by (conv=>whnf);exact True.intro,fun g' c' hc'=>?_⟩⟩<;>(conv=>whnf))|(refine⟨_,hy2 _,?_⟩;conv=>whnf)|(refine Ok.pubL (c:=sndN 4 (Tryz.f12.body.getD .ret)) 502 _ 1 i 4 (.raw _ _ (by simp)) rfl rfl rfl (by decide) (List.getElem?_set_self (by simp;omega)) rfl ?_;(conv=>whnf);refine Ok.pub 0 ?_;(conv=>whnf);refine Ok.pub 1 ?_;(conv=>whnf);refine Ok.pub 2 ?_;(conv=>whnf);refine Ok.pub 3 ?_;(conv=>whnf);refine Ok.keep [3,7,8,9] 0 5 ?_;(conv=>whnf);(try rw[List.set_set]);(try rw[List.set_set]);exact tailD h _ e1 e2 e3 76 (y.name++[32,114,117,108,101,32,54,53,53,51,54]) e4)|refine Ok.seq ?_|((first|refine Ok.region tok ?_|refine Ok.region_tree (id:=22) tok follows [(5,7,[6]),(1,8,[4,3,2]),(2,8,[4,3]),(3,8,[4]),(4,8,[]),(5,8,[]),(6,8,[7]),(7,8,[]),(4,11,[]),(5,11,[]),(7,11,[]),(8,11,[])] (.q 1 (.q 2 (.q 3 (.q 4 (.alt 0 (.l 5 (.q 6 (.l 7 (.l 8 (.q 9 (.q 10 (.l 11 .nil))))))) (.alt 5 (.q 6 (.alt 0 (.l 7 (.l 8 (.q 9 (.q 10 (.l 11 .nil))))) (.alt 7 (.alt 0 (.l 8 (.q 9 (.q 10 (.l 11 .nil)))) (.alt 8 (.q 0 (.q 9 (.q 10 (.l 11 .nil)))) .nil)) .nil))) .nil)))))) (by kernel_rfl) ?_|refine Ok.region_draw tok follows (by kernel_rfl) ?_|refine Ok.cond ?_);conv=>whnf)|refine Ok.block ?_|((first|refine Ok.ret ?_|refine⟨_,by assumption,?_⟩);conv=>whnf)|(refine Or.inr (Or.inl ?_);(conv=>whnf);(repeat (refine aI ?_;conv=>whnf));refine⟨_,any1_at , ?_⟩;rintro _ _ ⟨rfl,rfl⟩<;>(conv=>whnf))|(refine⟨_,.inl ⟨rfl,rfl⟩,?_⟩;conv=>whnf)|(refine bI ?_ ?_<;>intro<;>(conv=>whnf)<;>(try (exfalso;omega)))|((first|refine aJ ?_|refine⟨_,rfl,?_⟩);conv=>whnf)|(exact True.intro)|(refine And.intro ?_ ?_<;>(conv=>whnf))|fail)
   all_goals first
    | (exfalso;omega)
end Go.Proofs.YtcglkonooeddfaaGreatDoor
namespace Go.Proofs.YtcglkonooeddfaaGreatDoor
open Go Go.Vx
set_option maxRecDepth 100000 in
set_option maxHeartbeats 16000000 in
theorem way4a{c:Config}(h:Mar c){i:Nat}{y:Box}(hy:c.boxes.l[i]? = some y){da:Int}(hda:-9223372036854775808<=da/\da<=9223372036854775807)(hi:marIx da c.boxes.l.length=i)(hr0:y.rules.l=[]) :
    Ok Tryz.prog T (sndN 2 marC) marQ ⟨[(1,.i .i64 4),(2,.i .i64 da),(3,.bp 0 0)],[c.row],[],Tryz.f12.ntmps⟩:=by
 have hil:=(List.getElem?_eq_some_iff.1 hy).1
 have hyb:c.b.boxes[i]? = some y.b:=by show (c.boxes.l.map Box.b)[i]? = _;rw[List.getElem?_map,hy];rfl
 have hyo:=boxC_ok (h.ok.box y (List.mem_of_getElem? hy))
 have hyx:=boxC_tx (h.tx.boxes y (List.mem_of_getElem? hy))
 have hyr:(c.boxes.l.map fun x=>(boxC x).row)[i]? = some (rawB y (.lst 9 (y.outs.l.map srow) []) (.lst 112 (y.guards.l.map fun g=>(lineC g).row) []) (.lst 115 (y.rules.l.map fun r=>(ruleC r).row) [])):=by
  rw[List.getElem?_map,hy]
  simp[boxC,Box.row,rawB,Function.comp_def]
 have hbl:(c.boxes.l.map fun x=>(boxC x).row).length=c.boxes.l.length:=by simp
 have hll:(c.links.l.map Link.row).length=c.links.l.length:=by simp
 have hfl:(c.fields.l.map SI.row).length=c.fields.l.length:=by simp
 have hL:=h.ok.links
 have hp0:y.rules.l.length=0:=by simp[hr0]
 have e3:(boxC y).row=rawB y (.lst 9 (y.outs.l.map srow) []) (.lst 112 (y.guards.l.map fun g=>(lineC g).row) []) (.lst 115 (y.rules.l.map fun r=>(ruleC r).row) []):=by simp[boxC,Box.row,rawB,Function.comp_def]
 refine mar_copyR c h.ok hy (fun d t hr=>?_)
 have q0:=hr
 rcases hr with hr|⟨g,cp,hr⟩
 . unfold marC marQ
   (try (conv=>whnf));repeat' (first|refine Ok.seq ?_|(refine Ok.region tok ?_;conv=>whnf)|fail)
   refine Or.inr (Or.inr (Or.inl ?_));(conv=>whnf);refine⟨_,_,Tryz.func43,rfl,Tryz.call43,?_⟩;(conv=>whnf)
   refine Ok.keep [0,1,2,213,217,712] 8 5 ?_
   (conv=>whnf)
   refine mar_preR c h.ok (by omega) hda hi q0 ?_
   unfold marF
   have hn0:y.rules.l=[]:=List.map_eq_nil_iff.1 hr
   have hyd:((c.boxes.l.map fun x=>(boxC x).row).set i (rawB y (.lst 9 (y.outs.l.map srow) []) (.lst 112 (y.guards.l.map fun g=>(lineC g).row) []) .rnl))[i]? = some (rawB y (.lst 9 (y.outs.l.map srow) []) (.lst 112 (y.guards.l.map fun g=>(lineC g).row) []) .rnl):=List.getElem?_set_self (by omega)
   have hy2:∀ d',(((c.boxes.l.map fun x=>(boxC x).row).set i (rawB y (.lst 9 (y.outs.l.map srow) []) (.lst 112 (y.guards.l.map fun g=>(lineC g).row) []) .rnl)).set i (setCells (rawB y (.lst 9 (y.outs.l.map srow) []) (.lst 112 (y.guards.l.map fun g=>(lineC g).row) []) .rnl) (0+4) [d']))[i]? = some (setCells (rawB y (.lst 9 (y.outs.l.map srow) []) (.lst 112 (y.guards.l.map fun g=>(lineC g).row) []) .rnl) (0+4) [d']):=fun _=>List.getElem?_set_self (by simp;omega)
   (try (conv=>whnf));repeat' (first|(refine Ok.pubL (c:=sndN 4 (Tryz.f12.body.getD .ret)) 502 7 1 i 4 q0 rfl rfl rfl (by decide) (List.getElem?_set_self (by simp;omega)) rfl ?_;(conv=>whnf);refine Ok.pub 0 ?_;(conv=>whnf);refine Ok.pub 1 ?_;(conv=>whnf);refine Ok.pub 2 ?_;(conv=>whnf);refine Ok.pub 3 ?_;(conv=>whnf);refine Ok.keep [3,7,8,9] 0 5 ?_;(conv=>whnf);(try rw[List.set_set]);(try rw[List.set_set]);exact tailD h (boxC y) hyo hyx e3 0 [] (fun q=>absurd rfl q))|refine Ok.seq ?_|((first|refine Ok.region tok ?_|refine Ok.cond ?_);conv=>whnf)|refine Ok.block ?_|((first|refine Ok.ret ?_|refine⟨_,by assumption,?_⟩);conv=>whnf)|(refine bI ?_ ?_<;>intro<;>(conv=>whnf)<;>(try (exfalso;omega)))|(refine aJ ?_;conv=>whnf)|fail)
   all_goals first
    | (exfalso;omega)
 . unfold marC marQ
   (try (conv=>whnf));repeat' (first|refine Ok.seq ?_|(refine Ok.region tok ?_;conv=>whnf)|fail)
   refine Or.inr (Or.inr (Or.inl ?_));(conv=>whnf);refine⟨_,_,Tryz.func43,rfl,Tryz.call43,?_⟩;(conv=>whnf)
   refine Ok.keep [0,1,2,213,217,712] 8 5 ?_
   (conv=>whnf)
   refine mar_preR c h.ok (by omega) hda hi q0 ?_
   unfold marF
   have hyd:((c.boxes.l.map fun x=>(boxC x).row).set i (rawB y (.lst 9 (y.outs.l.map srow) []) (.lst 112 (y.guards.l.map fun g=>(lineC g).row) []) (.rsl g y.rules.l.length cp)))[i]? = some (rawB y (.lst 9 (y.outs.l.map srow) []) (.lst 112 (y.guards.l.map fun g=>(lineC g).row) []) (.rsl g y.rules.l.length cp)):=List.getElem?_set_self (by omega)
   have hy2:∀ d',(((c.boxes.l.map fun x=>(boxC x).row).set i (rawB y (.lst 9 (y.outs.l.map srow) []) (.lst 112 (y.guards.l.map fun g=>(lineC g).row) []) (.rsl g y.rules.l.length cp))).set i (setCells (rawB y (.lst 9 (y.outs.l.map srow) []) (.lst 112 (y.guards.l.map fun g=>(lineC g).row) []) (.rsl g y.rules.l.length cp)) (0+4) [d']))[i]? = some (setCells (rawB y (.lst 9 (y.outs.l.map srow) []) (.lst 112 (y.guards.l.map fun g=>(lineC g).row) []) (.rsl g y.rules.l.length cp)) (0+4) [d']):=fun _=>List.getElem?_set_self (by simp;omega)
   (try (conv=>whnf));repeat' (first|(refine Ok.pubL (c:=sndN 4 (Tryz.f12.body.getD .ret)) 502 7 1 i 4 q0 rfl rfl rfl (by decide) (List.getElem?_set_self (by simp;omega)) rfl ?_;(conv=>whnf);refine Ok.pub 0 ?_;(conv=>whnf);refine Ok.pub 1 ?_;(conv=>whnf);refine Ok.pub 2 ?_;(conv=>whnf);refine Ok.pub 3 ?_;(conv=>whnf);refine Ok.keep [3,7,8,9] 0 5 ?_;(conv=>whnf);(try rw[List.set_set]);(try rw[List.set_set]);exact tailD h (boxC y) hyo hyx e3 0 [] (fun q=>absurd rfl q))|refine Ok.seq ?_|((first|refine Ok.region tok ?_|refine Ok.cond ?_);conv=>whnf)|refine Ok.block ?_|((first|refine Ok.ret ?_|refine⟨_,by assumption,?_⟩);conv=>whnf)|(refine bI ?_ ?_<;>intro<;>(conv=>whnf)<;>(try (exfalso;omega)))|(refine aJ ?_;conv=>whnf)|fail)
   all_goals first
    | (exfalso;omega)
set_option maxRecDepth 100000 in
set_option maxHeartbeats 16000000 in
theorem way4b{c:Config}(h:Mar c){i:Nat}{y:Box}(hy:c.boxes.l[i]? = some y){da:Int}(hda:-9223372036854775808<=da/\da<=9223372036854775807)(hi:marIx da c.boxes.l.length=i){r0:Rule}(hr0:y.rules.l[0]? = some r0) :
    Ok Tryz.prog T (sndN 2 marC) marQ ⟨[(1,.i .i64 4),(2,.i .i64 da),(3,.bp 0 0)],[c.row],[],Tryz.f12.ntmps⟩:=by
 have hil:=(List.getElem?_eq_some_iff.1 hy).1
 have hyb:c.b.boxes[i]? = some y.b:=by show (c.boxes.l.map Box.b)[i]? = _;rw[List.getElem?_map,hy];rfl
 have hyo:=boxC_ok (h.ok.box y (List.mem_of_getElem? hy))
 have hyx:=boxC_tx (h.tx.boxes y (List.mem_of_getElem? hy))
 have hyr:(c.boxes.l.map fun x=>(boxC x).row)[i]? = some (rawB y (.lst 9 (y.outs.l.map srow) []) (.lst 112 (y.guards.l.map fun g=>(lineC g).row) []) (.lst 115 (y.rules.l.map fun r=>(ruleC r).row) [])):=by
  rw[List.getElem?_map,hy]
  simp[boxC,Box.row,rawB,Function.comp_def]
 have hbl:(c.boxes.l.map fun x=>(boxC x).row).length=c.boxes.l.length:=by simp
 have hll:(c.links.l.map Link.row).length=c.links.l.length:=by simp
 have hfl:(c.fields.l.map SI.row).length=c.fields.l.length:=by simp
 have hL:=h.ok.links
 have hrl:0<y.rules.l.length:=(List.getElem?_eq_some_iff.1 hr0).1
 have hrb:y.b.rules[0]? = some r0.b:=by show (y.rules.l.map Rule.b)[0]? = _;rw[List.getElem?_map,hr0];rfl
 obtain⟨p1,p2⟩:=prio_ok h.z hyb hrb
 have p1:0<=r0.prio:=p1
 have p2:r0.prio<=65535:=p2
 have hsm:=small_at _ r0.prio.toNat (Nat.le_refl _) (by omega)
 rw[show ((r0.prio.toNat:Nat):Int)=r0.prio by omega] at hsm
 have hil2:=Lib.itoa_length_le r0.prio (by omega) (by omega)
 have hx1:(y.rules.l.map fun r=>(ruleC r).row)[0]? = some [.i .i64 r0.prio,.lst 9 (r0.frm.l.map srow) [],.lst 219 (r0.mtch.l.map Node.row) [],.lst 243 (r0.sets.l.map SI.row) [],.lst 9 (r0.dst.l.map srow) []]:=by rw[List.getElem?_map,hr0];rfl
 have hx2:((y.rules.l++[(⟨r0.prio,⟨[nobody],[]⟩,⟨[],[]⟩,⟨[],[]⟩,⟨[],[]⟩⟩:Rule)]).map fun r=>(ruleC r).row)[0]? = some [.i .i64 r0.prio,.lst 9 (r0.frm.l.map srow) [],.lst 219 (r0.mtch.l.map Node.row) [],.lst 243 (r0.sets.l.map SI.row) [],.lst 9 (r0.dst.l.map srow) []]:=by rw[List.getElem?_map,List.getElem?_append_left hrl,hr0];rfl
 have hnm:y.name.length<=1048576:=hyx.name
 have hrn:=(lens_few h hyb).1
 have e1:({ boxC y with rules:=⟨y.rules.l.map ruleC++[(⟨r0.prio,⟨[nobody],[]⟩,⟨[],[]⟩,⟨[],[]⟩,⟨[],[]⟩⟩:Rule)],[]⟩ }:Box).Ok:=⟨hyo.ins,hyo.outs,hyo.guards,by simp;omega,hyo.owns,hyo.routes,hyo.line,fun x hx=>by rcases List.mem_append.1 hx with hx|hx;exact hyo.rule x hx;simp at hx;subst hx;exact⟨by simp,by simp,by simp,by simp⟩⟩
 have e2:({ boxC y with rules:=⟨y.rules.l.map ruleC++[(⟨r0.prio,⟨[nobody],[]⟩,⟨[],[]⟩,⟨[],[]⟩,⟨[],[]⟩⟩:Rule)],[]⟩ }:Box).Tx:=⟨hyx.name,hyx.ins,hyx.outs,hyx.guards,fun x hx=>by rcases List.mem_append.1 hx with hx|hx;exact hyx.rules x hx;simp at hx;subst hx;exact⟨by show IOk r0.prio;unfold IOk;omega,fun p hp=>by simp at hp;subst hp;exact sok_S (show nobody.length<=1048576 by decide),by simp,by simp,by simp⟩,hyx.owns,hyx.routes⟩
 have e3:({ boxC y with rules:=⟨y.rules.l.map ruleC++[(⟨r0.prio,⟨[nobody],[]⟩,⟨[],[]⟩,⟨[],[]⟩,⟨[],[]⟩⟩:Rule)],[]⟩ }:Box).row=rawB y (.lst 9 (y.outs.l.map srow) []) (.lst 112 (y.guards.l.map fun g=>(lineC g).row) []) (.lst 115 ((y.rules.l++[(⟨r0.prio,⟨[nobody],[]⟩,⟨[],[]⟩,⟨[],[]⟩,⟨[],[]⟩⟩:Rule)]).map fun r=>(ruleC r).row) []):=by simp[boxC,Box.row,rawB,ruleC,Rule.row,Function.comp_def]
 have e4:(76:Int) ≠ 0->Few c.b->checkO (putB c.b i ({ boxC y with rules:=⟨y.rules.l.map ruleC++[(⟨r0.prio,⟨[nobody],[]⟩,⟨[],[]⟩,⟨[],[]⟩,⟨[],[]⟩⟩:Rule)],[]⟩ }:Box).b)=(76,y.name++[32,114,117,108,101,32]++Lib.itoa r0.prio):=fun _ f=>by rw[bC_rules];exact (mar4 (r0:=r0.b) (f:=[nobody]) h.z hyb hrb f.2.2.1)
 refine mar_copyR c h.ok hy (fun d t hr=>?_)
 have q0:=hr
 rcases hr with hr|⟨g,cp,hr⟩
 . have hn0:y.rules.l=[]:=List.map_eq_nil_iff.1 hr
   rw[hn0] at hr0
   cases hr0
 . unfold marC marQ
   (try (conv=>whnf));repeat' (first|refine Ok.seq ?_|(refine Ok.region tok ?_;conv=>whnf)|fail)
   refine Or.inr (Or.inr (Or.inl ?_));(conv=>whnf);refine⟨_,_,Tryz.func43,rfl,Tryz.call43,?_⟩;(conv=>whnf)
   refine Ok.keep [0,1,2,213,217,712] 8 5 ?_
   (conv=>whnf)
   refine mar_preR c h.ok (by omega) hda hi q0 ?_
   unfold marF
   have hyd:((c.boxes.l.map fun x=>(boxC x).row).set i (rawB y (.lst 9 (y.outs.l.map srow) []) (.lst 112 (y.guards.l.map fun g=>(lineC g).row) []) (.rsl g y.rules.l.length cp)))[i]? = some (rawB y (.lst 9 (y.outs.l.map srow) []) (.lst 112 (y.guards.l.map fun g=>(lineC g).row) []) (.rsl g y.rules.l.length cp)):=List.getElem?_set_self (by omega)
   have hy2:∀ d',(((c.boxes.l.map fun x=>(boxC x).row).set i (rawB y (.lst 9 (y.outs.l.map srow) []) (.lst 112 (y.guards.l.map fun g=>(lineC g).row) []) (.rsl g y.rules.l.length cp))).set i (setCells (rawB y (.lst 9 (y.outs.l.map srow) []) (.lst 112 (y.guards.l.map fun g=>(lineC g).row) []) (.rsl g y.rules.l.length cp)) (0+4) [d']))[i]? = some (setCells (rawB y (.lst 9 (y.outs.l.map srow) []) (.lst 112 (y.guards.l.map fun g=>(lineC g).row) []) (.rsl g y.rules.l.length cp)) (0+4) [d']):=fun _=>List.getElem?_set_self (by simp;omega)
   (try (conv=>whnf));repeat' (first|((first|refine⟨712,7,_,_,rfl,by omega,?_⟩|refine⟨712,712,7,rfl,?_⟩|refine⟨(y.rules.l++[(⟨r0.prio,⟨[nobody],[]⟩,⟨[],[]⟩,⟨[],[]⟩,⟨[],[]⟩⟩:Rule)]).map (fun r=>(ruleC r).row),y.rules.l.length+1,by simp[ruleC,Rule.row,nobody],by simp,?_⟩);conv=>whnf)|(refine⟨fun _=>?_,fun _=>⟨7,by (conv=>whnf);exact True.intro,fun g' c' hc'=>?_⟩⟩<;>(conv=>whnf))|(refine⟨_,hy2 _,?_⟩;conv=>whnf)|(refine Ok.pubL (c:=sndN 4 (Tryz.f12.body.getD .ret)) 502 _ 1 i 4 (.raw _ _ (by simp)) rfl rfl rfl (by decide) (List.getElem?_set_self (by simp;omega)) rfl ?_;(conv=>whnf);refine Ok.pub 0 ?_;(conv=>whnf);refine Ok.pub 1 ?_;(conv=>whnf);refine Ok.pub 2 ?_;(conv=>whnf);refine Ok.pub 3 ?_;(conv=>whnf);refine Ok.keep [3,7,8,9] 0 5 ?_;(conv=>whnf);(try rw[List.set_set]);(try rw[List.set_set]);exact tailD h _ e1 e2 e3 76 (y.name++[32,114,117,108,101,32]++Lib.itoa r0.prio) e4)|refine Ok.seq ?_|((first|refine Ok.region tok ?_|refine Ok.region_tree (id:=27) tok follows [(8,14,[13,11,10,9]),(11,14,[13]),(12,14,[13]),(1,15,[4,3,2]),(2,15,[4,3]),(3,15,[4]),(4,15,[]),(5,15,[14,13,11,10,9,8,7,6]),(6,15,[14,13,11,10,9,8,7]),(7,15,[14,13,11,10,9,8]),(8,15,[14,13,11,10,9]),(9,15,[14,13,11,10]),(10,15,[14,13,11]),(11,15,[14,13]),(12,15,[14,13]),(13,15,[14]),(14,15,[]),(4,18,[]),(8,18,[]),(11,18,[]),(12,18,[]),(14,18,[]),(15,18,[])] (.q 1 (.q 2 (.q 3 (.q 4 (.q 5 (.q 6 (.q 7 (.q 8 (.q 9 (.q 10 (.q 11 (.alt 0 (.l 12 (.q 13 (.l 14 (.l 15 (.q 16 (.q 17 (.l 18 .nil))))))) (.alt 12 (.q 13 (.alt 0 (.l 14 (.l 15 (.q 16 (.q 17 (.l 18 .nil))))) (.alt 14 (.alt 0 (.l 15 (.q 16 (.q 17 (.l 18 .nil)))) (.alt 15 (.q 0 (.q 16 (.q 17 (.l 18 .nil)))) .nil)) .nil))) .nil))))))))))))) (by kernel_rfl) ?_|refine Ok.region_draw tok follows (by kernel_rfl) ?_|refine Ok.cond ?_);conv=>whnf)|refine Ok.block ?_|((first|refine Ok.skip ?_|refine Ok.ret ?_|refine⟨_,by assumption,?_⟩|refine rd rfl (by assumption) ?_|refine⟨_,.inl ⟨rfl,rfl⟩,?_⟩);conv=>whnf)|(refine bI ?_ ?_<;>intro<;>(conv=>whnf)<;>(try (exfalso;omega)))|((first|refine aJ ?_|refine⟨_,rfl,?_⟩);conv=>whnf)|(exact True.intro)|(refine And.intro ?_ ?_<;>(conv=>whnf))|fail)
   all_goals first
    | (exfalso;omega)
end Go.Proofs.YtcglkonooeddfaaGreatDoor
namespace Go.Proofs.YtcglkonooeddfaaGreatDoor
open Go Go.Vx
set_option maxRecDepth 100000 in
set_option maxHeartbeats 16000000 in
theorem way5a{c:Config}(h:Mar c){i:Nat}{y:Box}(hy:c.boxes.l[i]? = some y){da:Int}(hda:-9223372036854775808<=da/\da<=9223372036854775807)(hi:marIx da c.boxes.l.length=i)(ho:y.outs.l=[]) :
    Ok Tryz.prog T (sndN 2 marC) marQ ⟨[(1,.i .i64 5),(2,.i .i64 da),(3,.bp 0 0)],[c.row],[],Tryz.f12.ntmps⟩:=by
 have hil:=(List.getElem?_eq_some_iff.1 hy).1
 have hyb:c.b.boxes[i]? = some y.b:=by show (c.boxes.l.map Box.b)[i]? = _;rw[List.getElem?_map,hy];rfl
 have hyo:=boxC_ok (h.ok.box y (List.mem_of_getElem? hy))
 have hyx:=boxC_tx (h.tx.boxes y (List.mem_of_getElem? hy))
 have hyr:(c.boxes.l.map fun x=>(boxC x).row)[i]? = some (rawB y (.lst 9 (y.outs.l.map srow) []) (.lst 112 (y.guards.l.map fun g=>(lineC g).row) []) (.lst 115 (y.rules.l.map fun r=>(ruleC r).row) [])):=by
  rw[List.getElem?_map,hy]
  simp[boxC,Box.row,rawB,Function.comp_def]
 have hbl:(c.boxes.l.map fun x=>(boxC x).row).length=c.boxes.l.length:=by simp
 have hll:(c.links.l.map Link.row).length=c.links.l.length:=by simp
 have hfl:(c.fields.l.map SI.row).length=c.fields.l.length:=by simp
 have hL:=h.ok.links
 have hp0:(y.outs.l.map srow).length=0:=by simp[ho]
 have e3:(boxC y).row=rawB y (.lst 9 (y.outs.l.map srow) []) (.lst 112 (y.guards.l.map fun g=>(lineC g).row) []) (.lst 115 (y.rules.l.map fun r=>(ruleC r).row) []):=by simp[boxC,Box.row,rawB,Function.comp_def]
 refine mar_copyR c h.ok hy (fun d t hr=>?_)
 have q0:=hr
 rcases hr with hr|⟨g,cp,hr⟩
 . unfold marC marQ
   (try (conv=>whnf));repeat' (first|refine Ok.seq ?_|(refine Ok.region tok ?_;conv=>whnf)|fail)
   refine Or.inr (Or.inr (Or.inl ?_));(conv=>whnf);refine⟨_,_,Tryz.func43,rfl,Tryz.call43,?_⟩;(conv=>whnf)
   refine Ok.keep [0,1,2,213,217,712] 8 5 ?_
   (conv=>whnf)
   refine mar_preR c h.ok (by omega) hda hi q0 ?_
   unfold marF
   have hn0:y.rules.l=[]:=List.map_eq_nil_iff.1 hr
   have hyd:((c.boxes.l.map fun x=>(boxC x).row).set i (rawB y (.lst 9 (y.outs.l.map srow) []) (.lst 112 (y.guards.l.map fun g=>(lineC g).row) []) .rnl))[i]? = some (rawB y (.lst 9 (y.outs.l.map srow) []) (.lst 112 (y.guards.l.map fun g=>(lineC g).row) []) .rnl):=List.getElem?_set_self (by omega)
   have hy2:∀ d',(((c.boxes.l.map fun x=>(boxC x).row).set i (rawB y (.lst 9 (y.outs.l.map srow) []) (.lst 112 (y.guards.l.map fun g=>(lineC g).row) []) .rnl)).set i (setCells (rawB y (.lst 9 (y.outs.l.map srow) []) (.lst 112 (y.guards.l.map fun g=>(lineC g).row) []) .rnl) (0+4) [d']))[i]? = some (setCells (rawB y (.lst 9 (y.outs.l.map srow) []) (.lst 112 (y.guards.l.map fun g=>(lineC g).row) []) .rnl) (0+4) [d']):=fun _=>List.getElem?_set_self (by simp;omega)
   (try (conv=>whnf));repeat' (first|(refine Ok.pubL (c:=sndN 4 (Tryz.f12.body.getD .ret)) 502 7 1 i 4 q0 rfl rfl rfl (by decide) (List.getElem?_set_self (by simp;omega)) rfl ?_;(conv=>whnf);refine Ok.pub 0 ?_;(conv=>whnf);refine Ok.pub 1 ?_;(conv=>whnf);refine Ok.pub 2 ?_;(conv=>whnf);refine Ok.pub 3 ?_;(conv=>whnf);refine Ok.keep [3,7,8,9] 0 5 ?_;(conv=>whnf);(try rw[List.set_set]);(try rw[List.set_set]);exact tailD h (boxC y) hyo hyx e3 0 [] (fun q=>absurd rfl q))|refine Ok.seq ?_|((first|refine Ok.region tok ?_|refine Ok.cond ?_);conv=>whnf)|refine Ok.block ?_|((first|refine Ok.ret ?_|refine⟨_,by assumption,?_⟩);conv=>whnf)|(refine bI ?_ ?_<;>intro<;>(conv=>whnf)<;>(try (exfalso;omega)))|(refine aJ ?_;conv=>whnf)|fail)
   all_goals first
    | (exfalso;omega)
 . unfold marC marQ
   (try (conv=>whnf));repeat' (first|refine Ok.seq ?_|(refine Ok.region tok ?_;conv=>whnf)|fail)
   refine Or.inr (Or.inr (Or.inl ?_));(conv=>whnf);refine⟨_,_,Tryz.func43,rfl,Tryz.call43,?_⟩;(conv=>whnf)
   refine Ok.keep [0,1,2,213,217,712] 8 5 ?_
   (conv=>whnf)
   refine mar_preR c h.ok (by omega) hda hi q0 ?_
   unfold marF
   have hyd:((c.boxes.l.map fun x=>(boxC x).row).set i (rawB y (.lst 9 (y.outs.l.map srow) []) (.lst 112 (y.guards.l.map fun g=>(lineC g).row) []) (.rsl g y.rules.l.length cp)))[i]? = some (rawB y (.lst 9 (y.outs.l.map srow) []) (.lst 112 (y.guards.l.map fun g=>(lineC g).row) []) (.rsl g y.rules.l.length cp)):=List.getElem?_set_self (by omega)
   have hy2:∀ d',(((c.boxes.l.map fun x=>(boxC x).row).set i (rawB y (.lst 9 (y.outs.l.map srow) []) (.lst 112 (y.guards.l.map fun g=>(lineC g).row) []) (.rsl g y.rules.l.length cp))).set i (setCells (rawB y (.lst 9 (y.outs.l.map srow) []) (.lst 112 (y.guards.l.map fun g=>(lineC g).row) []) (.rsl g y.rules.l.length cp)) (0+4) [d']))[i]? = some (setCells (rawB y (.lst 9 (y.outs.l.map srow) []) (.lst 112 (y.guards.l.map fun g=>(lineC g).row) []) (.rsl g y.rules.l.length cp)) (0+4) [d']):=fun _=>List.getElem?_set_self (by simp;omega)
   (try (conv=>whnf));repeat' (first|(refine Ok.pubL (c:=sndN 4 (Tryz.f12.body.getD .ret)) 502 7 1 i 4 q0 rfl rfl rfl (by decide) (List.getElem?_set_self (by simp;omega)) rfl ?_;(conv=>whnf);refine Ok.pub 0 ?_;(conv=>whnf);refine Ok.pub 1 ?_;(conv=>whnf);refine Ok.pub 2 ?_;(conv=>whnf);refine Ok.pub 3 ?_;(conv=>whnf);refine Ok.keep [3,7,8,9] 0 5 ?_;(conv=>whnf);(try rw[List.set_set]);(try rw[List.set_set]);exact tailD h (boxC y) hyo hyx e3 0 [] (fun q=>absurd rfl q))|refine Ok.seq ?_|((first|refine Ok.region tok ?_|refine Ok.cond ?_);conv=>whnf)|refine Ok.block ?_|((first|refine Ok.ret ?_|refine⟨_,by assumption,?_⟩);conv=>whnf)|(refine bI ?_ ?_<;>intro<;>(conv=>whnf)<;>(try (exfalso;omega)))|(refine aJ ?_;conv=>whnf)|fail)
   all_goals first
    | (exfalso;omega)
end Go.Proofs.YtcglkonooeddfaaGreatDoor
