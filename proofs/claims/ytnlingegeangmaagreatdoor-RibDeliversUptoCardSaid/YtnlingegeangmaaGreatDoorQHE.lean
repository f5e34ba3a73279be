/- The walks and the plain laws that a law of networks needs, part 5 of 7. -/
import Derived.Test.YtnlingegeangmaaGreatDoorQHD
import Derived.Lib.ItoaLen
import Derived.Test.YtnlingegeangmaaGreatDoorProg
import Derived.Shelf.LaysM
import Derived.Shelf.Strconv.Itoa3
import Derived.Ground.GgsProg
set_option linter.unusedVariables false
set_option linter.unusedSimpArgs false
set_option linter.unusedSectionVars false
set_option maxRecDepth 100000
set_option maxHeartbeats 16000000
namespace Go.Proofs.YtnlingegeangmaaGreatDoor
open Go Go.Vx
theorem mbox_at(hW:WordOk)(hI:ItoaOk)(cf:Config)(hf:cf.fields.l.length<=1048576)(hh:HeadOk cf.b)(b:Box)(hbo:b.Ok)(hbt:b.Tx)(g:Nat)(l:List (Str × Int × Nat))(ck:Nat)(hl:PMap l (b.ins.l++b.outs.l)) :
    FSpecH Tryz.prog T (deskH g l ck) 123 [deskD (.ep cf.row) b g] (fun d rows M=>(d = .tup [.i .i64 (doesE cf.b [] b.b).1,.s (doesE cf.b [] b.b).2]/\rows=[])/\M=[]):=by
 have hbn:b.name.length<=1048576:=hbt.name
 have l3:(b.guards.l.map Line.row).length=b.guards.l.length:=by simp
 have l4:(b.rules.l.map Rule.row).length=b.rules.l.length:=by simp
 have l5:(b.owns.l.map Pfx.row).length=b.owns.l.length:=by simp
 have l6:(b.routes.l.map Pfx.row).length=b.routes.l.length:=by simp
 have b3:=hbo.guards
 have b4:=hbo.rules
 have b5:=hbo.owns
 have b6:=hbo.routes
 refine FSpecH.of_ok0 tok Tryz.func123 rfl Tryz.call123 (by simp) ?_
 (try (conv=>whnf));repeat' (first|refine OkM.seq ?_|(refine OkM.region tok ?_;conv=>whnf)|refine OkM.block ?_|fail)
 refine OkM.loopU [1,19,20] [21] 0 1 (fun (k:Nat)=>[.i .i64 (k:Nat)]) (fun _ b=>b) (fun _ r=>r) (fun (k:Nat)=>[]) (fun (k:Nat)=>k<=b.guards.l.length/\firstE (guardE cf.b b.b) [] b.b.guards=firstE (guardE cf.b b.b) (b.b.guards.take k) (b.b.guards.drop k)) (fun (k:Nat)=>b.guards.l.length - k) (0) (⟨Nat.zero_le _,rfl⟩) (by first|exact .refl _|exact .cons _ (.refl _)|exact List.nil_sublist _) ?_;(conv=>whnf);refine⟨by ((conv=>whnf);first|rfl|(simp[envCat, tkL0, SI.row, Node.row, Pfx.row, Link.row, srow, Line.row, Rule.row, Box.row, Slc.row, Config.row];done)|(simp[envCat, tkL0, SI.row, Node.row, Pfx.row, Link.row, srow, Line.row, Rule.row, Box.row, Slc.row, Config.row];rw[IntKind.wrap_i64];omega)),?_⟩
 rintro k ⟨hk,hfe⟩
 (conv=>whnf)
 by_cases hkl:k<b.guards.l.length
 . obtain⟨x,hx⟩:∃ x,b.guards.l[k]? = some x:=⟨_,gEt0 hkl⟩
   have hxI:b.guards.l[((k:Nat):Int).toNat]? = some x:=hx
   have hxb:b.b.guards[k]? = some x.b:=by simp[Box.b,hx]
   have hxo:=hbo.line x (mOf0 hx)
   have hxt:=hbt.guards x (mOf0 hx)
   have hxp:x.port.length<=1048576:=hxt.port
   have hs:=hl.some_iff (s:=x.port)
   (try (conv=>whnf));repeat' (first|(refine⟨_,_,_,_,_,_,_,_,mtSI,(by first|exact .head _|exact .tail _ (.head _)|exact .tail _ (.tail _ (.head _))|exact .tail _ (.tail _ (.tail _ (.head _)))|exact List.mem_append_left _ (by assumption)),rfl,?_⟩;conv=>whnf)|refine OkM.seq ?_|((first|refine OkM.region tok ?_|refine OkM.of_ok (Ok.region_draw tok follows (by kernel_rfl) ?_)|refine OkM.cond ?_);conv=>whnf)|refine OkM.block ?_|((first|refine OkM.skip ?_|refine OkM.ret ?_|refine nI ?_|refine ix _ (by assumption) ?_);conv=>whnf)|(refine Or.inl ?_;(conv=>whnf);refine Or.inl ?_;(conv=>whnf);(repeat (refine aI ?_;conv=>whnf));refine⟨_,right_at cf hf b g x.mtch.l rfl hxo.mtch hxt.mtch,rfl,?_⟩;conv=>whnf)|(refine bI ?_ ?_<;>intro<;>(conv=>whnf)<;>(try (exfalso;omega)))|(refine aJ ?_;conv=>whnf)|fail)
   . rename_i hp
     have hp:x.b.port ∉ b.b.ins++b.b.outs:=fun h=>hp (hs.2 h)
     rw[firstE_bad hxb (by rw[guardE_unk hp];simp),guardE_unk hp] at hfe
     refine Or.inl ?_;(conv=>whnf)
     refine⟨?_,rfl⟩
     rw[show doesE cf.b [] b.b=orE _ _ from rfl,hfe,orE_l _ (by simp)]
     rfl
   . rename_i hp hm
     have hp:x.b.port ∈ b.b.ins++b.b.outs:=hs.1 (Classical.not_not.1 hp)
     rw[firstE_bad hxb (by rw[guardE_bad hp hm];simp),guardE_bad hp hm] at hfe
     refine Or.inl ?_;(conv=>whnf)
     refine⟨?_,rfl⟩
     rw[show doesE cf.b [] b.b=orE _ _ from rfl,hfe,orE_l _ (by simp)]
     rfl
   . rename_i hp hm
     have hp:x.b.port ∈ b.b.ins++b.b.outs:=hs.1 (Classical.not_not.1 hp)
     have hm:¬ chkE (fds cf.b.fields) (nds x.b.mtch) ≠ 0:=hm
     rw[firstE_ok hxb (by rw[guardE_ok hp hm])] at hfe
     refine⟨k+1,by omega,⟨by omega,hfe⟩,.refl _,?_⟩
     (conv=>whnf)
     rfl
 obtain rfl:k=b.guards.l.length:=by omega
 rw[firstE_nil (by simp[Box.b])] at hfe
 (try (conv=>whnf));repeat' (first|refine OkM.seq ?_|((first|refine OkM.region tok ?_|refine OkM.cond ?_);conv=>whnf)|refine OkM.block ?_|(refine OkM.exit ?_;conv=>whnf)|(refine bI ?_ ?_<;>intro<;>(conv=>whnf)<;>(try (exfalso;omega)))|fail)
 refine OkM.loopU [1,57,58] [59] 0 1 (fun (k:Nat)=>[.i .i64 (k:Nat)]) (fun _ b=>b) (fun _ r=>r) (fun (k:Nat)=>[]) (fun (k:Nat)=>k<=b.rules.l.length/\firstE (ruleE cf.b b.b) [] b.b.rules=firstE (ruleE cf.b b.b) (b.b.rules.take k) (b.b.rules.drop k)) (fun (k:Nat)=>b.rules.l.length - k) (0) (⟨Nat.zero_le _,rfl⟩) (by first|exact .refl _|exact .cons _ (.refl _)|exact List.nil_sublist _) ?_;(conv=>whnf);refine⟨by ((conv=>whnf);first|rfl|(simp[envCat, tkL0, SI.row, Node.row, Pfx.row, Link.row, srow, Line.row, Rule.row, Box.row, Slc.row, Config.row];done)|(simp[envCat, tkL0, SI.row, Node.row, Pfx.row, Link.row, srow, Line.row, Rule.row, Box.row, Slc.row, Config.row];rw[IntKind.wrap_i64];omega)),?_⟩
 rintro k ⟨hk,hfe1⟩
 (conv=>whnf)
 by_cases hkl:k<b.rules.l.length
 . obtain⟨x,hx⟩:∃ x,b.rules.l[k]? = some x:=⟨_,gEt0 hkl⟩
   have hxI:b.rules.l[((k:Nat):Int).toNat]? = some x:=hx
   have hxb:b.b.rules[k]? = some x.b:=by simp[Box.b,hx]
   have hmt:((b.rules.l.map Rule.row++b.rules.room).take k).drop 0=(b.rules.l.take k).map Rule.row:=by rw[List.drop_zero,List.take_append_of_le_length (by omega),List.map_take]
   have hxo:=hbo.rule x (mOf0 hx)
   have hxt:=hbt.rules x (mOf0 hx)
   have hit:=Lib.itoa_length_le x.prio hxt.prio.1 hxt.prio.2
   have hpm:(b.rules.l.take k).map Rule.b=b.b.rules.take k:=by simp[Box.b,List.map_take]
   have hsp:=mrule_at hW cf hf hh b g l ck hl (b.rules.l.take k) x hxo hxt (rl:=((b.rules.l.map Rule.row++b.rules.room).take k).drop 0) (r0:=(b.rules.l.map Rule.row++b.rules.room).drop k) hmt (by rw[List.length_take];omega)
   (try (conv=>whnf));repeat' (first|(refine Or.inr ?_;(conv=>whnf);(repeat (refine aI ?_;conv=>whnf));refine⟨_,hsp.more (fun x hx=>List.mem_append_left _ hx),?_⟩;rintro _ _ _ ⟨⟨rfl,rfl⟩,rfl⟩<;>(conv=>whnf))|refine OkM.seq ?_|((first|refine OkM.region tok ?_|refine OkM.region_tree (id:=13) tok follows [(0,7,[]),(1,7,[]),(4,7,[6])] (.q 0 (.q 1 (.q 2 (.q 3 (.q 4 (.q 5 (.q 6 (.l 7 (.q 8 .nil))))))))) (by kernel_rfl) ?_|refine OkM.of_ok (Ok.region_draw tok follows (by kernel_rfl) ?_)|refine OkM.cond ?_);conv=>whnf)|refine OkM.block ?_|((first|refine OkM.skip ?_|refine OkM.ret ?_|refine nI ?_|refine ix _ (by assumption) ?_|refine⟨_,hI x.prio hxt.prio.1 hxt.prio.2,rfl,?_⟩|refine⟨_,_,rfl,rfl,?_⟩);conv=>whnf)|(refine bI ?_ ?_<;>intro<;>(conv=>whnf)<;>(try (exfalso;omega)))|(refine aJ ?_;conv=>whnf)|fail)
   . rename_i he
     have ht:=(told_split (f:=ruleE cf.b b.b) (t:=b.b.name++[32,114,117,108,101,32]++Lib.itoa x.prio) hxb (by rw[<- hpm];rfl)).1 he
     rw[ht] at hfe1
     refine Or.inl ?_;(conv=>whnf)
     refine⟨?_,rfl⟩
     rw[show doesE cf.b [] b.b=orE (firstE (guardE cf.b b.b) [] b.b.guards) (orE (firstE (ruleE cf.b b.b) [] b.b.rules) (orE (firstE (ownE cf.b b.b) [] b.b.owns) (firstE (routE cf.b b.b) [] b.b.routes))) from rfl,hfe,orE_r _ rfl,hfe1,orE_l _ he]
     rfl
   . rename_i he
     have ht:=(told_split (f:=ruleE cf.b b.b) (t:=b.b.name++[32,114,117,108,101,32]++Lib.itoa x.prio) hxb (by rw[<- hpm];rfl)).2 (Classical.not_not.1 he)
     rw[ht] at hfe1
     refine⟨k+1,by omega,⟨by omega,hfe1⟩,.refl _,?_⟩
     (conv=>whnf)
     rfl
 obtain rfl:k=b.rules.l.length:=by omega
 rw[firstE_nil (by simp[Box.b])] at hfe1
 (try (conv=>whnf));repeat' (first|refine OkM.seq ?_|((first|refine OkM.region tok ?_|refine OkM.cond ?_);conv=>whnf)|refine OkM.block ?_|(refine OkM.exit ?_;conv=>whnf)|(refine bI ?_ ?_<;>intro<;>(conv=>whnf)<;>(try (exfalso;omega)))|fail)
 refine OkM.loopU [1,86,87] [88] 0 1 (fun (k:Nat)=>[.i .i64 (k:Nat)]) (fun _ b=>b) (fun _ r=>r) (fun (k:Nat)=>[]) (fun (k:Nat)=>k<=b.owns.l.length/\firstE (ownE cf.b b.b) [] b.b.owns=firstE (ownE cf.b b.b) (b.b.owns.take k) (b.b.owns.drop k)) (fun (k:Nat)=>b.owns.l.length - k) (0) (⟨Nat.zero_le _,rfl⟩) (by first|exact .refl _|exact .cons _ (.refl _)|exact List.nil_sublist _) ?_;(conv=>whnf);refine⟨by ((conv=>whnf);first|rfl|(simp[envCat, tkL0, SI.row, Node.row, Pfx.row, Link.row, srow, Line.row, Rule.row, Box.row, Slc.row, Config.row];done)|(simp[envCat, tkL0, SI.row, Node.row, Pfx.row, Link.row, srow, Line.row, Rule.row, Box.row, Slc.row, Config.row];rw[IntKind.wrap_i64];omega)),?_⟩
 rintro k ⟨hk,hfe2⟩
 (conv=>whnf)
 by_cases hkl:k<b.owns.l.length
 . obtain⟨x,hx⟩:∃ x,b.owns.l[k]? = some x:=⟨_,gEt0 hkl⟩
   have hxI:b.owns.l[((k:Nat):Int).toNat]? = some x:=hx
   have hxb:b.b.owns[k]? = some x:=by simp[Box.b,hx]
   have hmt:((b.owns.l.map Pfx.row++b.owns.room).take k).drop 0=(b.owns.l.take k).map Pfx.row:=by rw[List.drop_zero,List.take_append_of_le_length (by omega),List.map_take]
   have hsp:=mprefix_at cf hh b g l ck hl (b.owns.l.take k) x (rl:=((b.owns.l.map Pfx.row++b.owns.room).take k).drop 0) (r:=(b.owns.l.map Pfx.row++b.owns.room).drop k) hmt (by rw[List.length_take];omega)
   (try (conv=>whnf));repeat' (first|(refine Or.inr ?_;(conv=>whnf);(repeat (refine aI ?_;conv=>whnf));refine⟨_,hsp.more (fun x hx=>List.mem_append_left _ hx),?_⟩;rintro _ _ _ ⟨⟨rfl,rfl⟩,rfl⟩<;>(conv=>whnf))|refine OkM.seq ?_|((first|refine OkM.region tok ?_|refine OkM.region_tree (id:=20) tok follows [(0,7,[]),(1,7,[]),(4,7,[6])] (.q 0 (.q 1 (.q 2 (.q 3 (.q 4 (.q 5 (.q 6 (.l 7 (.q 8 .nil))))))))) (by kernel_rfl) ?_|refine OkM.of_ok (Ok.region_draw tok follows (by kernel_rfl) ?_)|refine OkM.cond ?_);conv=>whnf)|refine OkM.block ?_|((first|refine OkM.skip ?_|refine OkM.ret ?_|refine nI ?_|refine ix _ (by assumption) ?_|refine⟨_,_,rfl,rfl,?_⟩);conv=>whnf)|(refine bI ?_ ?_<;>intro<;>(conv=>whnf)<;>(try (exfalso;omega)))|(refine aJ ?_;conv=>whnf)|fail)
   . rename_i he
     have ht:=(told_split (f:=ownE cf.b b.b) (t:=b.b.name++[32,111,119,110]) hxb rfl).1 he
     rw[ht] at hfe2
     refine Or.inl ?_;(conv=>whnf)
     refine⟨?_,rfl⟩
     rw[show doesE cf.b [] b.b=orE (firstE (guardE cf.b b.b) [] b.b.guards) (orE (firstE (ruleE cf.b b.b) [] b.b.rules) (orE (firstE (ownE cf.b b.b) [] b.b.owns) (firstE (routE cf.b b.b) [] b.b.routes))) from rfl,hfe,orE_r _ rfl,hfe1,orE_r _ rfl,hfe2,orE_l _ he]
     rfl
   . rename_i he
     have ht:=(told_split (f:=ownE cf.b b.b) (t:=b.b.name++[32,111,119,110]) hxb rfl).2 (Classical.not_not.1 he)
     rw[ht] at hfe2
     refine⟨k+1,by omega,⟨by omega,hfe2⟩,.refl _,?_⟩
     (conv=>whnf)
     rfl
 obtain rfl:k=b.owns.l.length:=by omega
 rw[firstE_nil (by simp[Box.b])] at hfe2
 (try (conv=>whnf));repeat' (first|refine OkM.seq ?_|((first|refine OkM.region tok ?_|refine OkM.cond ?_);conv=>whnf)|refine OkM.block ?_|(refine OkM.exit ?_;conv=>whnf)|(refine bI ?_ ?_<;>intro<;>(conv=>whnf)<;>(try (exfalso;omega)))|fail)
 refine OkM.loopU [1,111,112] [113] 0 1 (fun (k:Nat)=>[.i .i64 (k:Nat)]) (fun _ b=>b) (fun _ r=>r) (fun (k:Nat)=>[]) (fun (k:Nat)=>k<=b.routes.l.length/\firstE (routE cf.b b.b) [] b.b.routes=firstE (routE cf.b b.b) (b.b.routes.take k) (b.b.routes.drop k)) (fun (k:Nat)=>b.routes.l.length - k) (0) (⟨Nat.zero_le _,rfl⟩) (by first|exact .refl _|exact .cons _ (.refl _)|exact List.nil_sublist _) ?_;(conv=>whnf);refine⟨by ((conv=>whnf);first|rfl|(simp[envCat, tkL0, SI.row, Node.row, Pfx.row, Link.row, srow, Line.row, Rule.row, Box.row, Slc.row, Config.row];done)|(simp[envCat, tkL0, SI.row, Node.row, Pfx.row, Link.row, srow, Line.row, Rule.row, Box.row, Slc.row, Config.row];rw[IntKind.wrap_i64];omega)),?_⟩
 rintro k ⟨hk,hfe3⟩
 (conv=>whnf)
 by_cases hkl:k<b.routes.l.length
 . obtain⟨x,hx⟩:∃ x,b.routes.l[k]? = some x:=⟨_,gEt0 hkl⟩
   have hxI:b.routes.l[((k:Nat):Int).toNat]? = some x:=hx
   have hxb:b.b.routes[k]? = some x:=by simp[Box.b,hx]
   have hmt:((b.routes.l.map Pfx.row++b.routes.room).take k).drop 0=(b.routes.l.take k).map Pfx.row:=by rw[List.drop_zero,List.take_append_of_le_length (by omega),List.map_take]
   have hsp:=mprefix_at cf hh b g l ck hl (b.routes.l.take k) x (rl:=((b.routes.l.map Pfx.row++b.routes.room).take k).drop 0) (r:=(b.routes.l.map Pfx.row++b.routes.room).drop k) hmt (by rw[List.length_take];omega)
   (try (conv=>whnf));repeat' (first|(refine Or.inr ?_;(conv=>whnf);(repeat (refine aI ?_;conv=>whnf));refine⟨_,hsp.more (fun x hx=>List.mem_append_left _ hx),?_⟩;rintro _ _ _ ⟨⟨rfl,rfl⟩,rfl⟩<;>(conv=>whnf))|refine OkM.seq ?_|((first|refine OkM.region tok ?_|refine OkM.region_tree (id:=27) tok follows [(0,7,[]),(1,7,[]),(4,7,[6])] (.q 0 (.q 1 (.q 2 (.q 3 (.q 4 (.q 5 (.q 6 (.l 7 (.q 8 .nil))))))))) (by kernel_rfl) ?_|refine OkM.of_ok (Ok.region_draw tok follows (by kernel_rfl) ?_)|refine OkM.cond ?_);conv=>whnf)|refine OkM.block ?_|((first|refine OkM.skip ?_|refine OkM.ret ?_|refine nI ?_|refine ix _ (by assumption) ?_|refine⟨_,_,rfl,rfl,?_⟩);conv=>whnf)|(refine bI ?_ ?_<;>intro<;>(conv=>whnf)<;>(try (exfalso;omega)))|(refine aJ ?_;conv=>whnf)|fail)
   . rename_i he
     have ht:=(told_split (f:=routE cf.b b.b) (t:=b.b.name++[32,114,111,117,116,101]) hxb rfl).1 he
     rw[ht] at hfe3
     refine Or.inl ?_;(conv=>whnf)
     refine⟨?_,rfl⟩
     rw[show doesE cf.b [] b.b=orE (firstE (guardE cf.b b.b) [] b.b.guards) (orE (firstE (ruleE cf.b b.b) [] b.b.rules) (orE (firstE (ownE cf.b b.b) [] b.b.owns) (firstE (routE cf.b b.b) [] b.b.routes))) from rfl,hfe,orE_r _ rfl,hfe1,orE_r _ rfl,hfe2,orE_r _ rfl,hfe3]
     rfl
   . rename_i he
     have ht:=(told_split (f:=routE cf.b b.b) (t:=b.b.name++[32,114,111,117,116,101]) hxb rfl).2 (Classical.not_not.1 he)
     rw[ht] at hfe3
     refine⟨k+1,by omega,⟨by omega,hfe3⟩,.refl _,?_⟩
     (conv=>whnf)
     rfl
 obtain rfl:k=b.routes.l.length:=by omega
 rw[firstE_nil (by simp[Box.b])] at hfe3
 (try (conv=>whnf));repeat' (first|refine OkM.seq ?_|((first|refine OkM.region tok ?_|refine OkM.cond ?_|refine OkM.exit ?_|refine OkM.ret ?_);conv=>whnf)|(refine bI ?_ ?_<;>intro<;>(conv=>whnf)<;>(try (exfalso;omega)))|fail)
 refine Or.inl ?_;(conv=>whnf)
 refine⟨?_,rfl⟩
 rw[show doesE cf.b [] b.b=orE (firstE (guardE cf.b b.b) [] b.b.guards) (orE (firstE (ruleE cf.b b.b) [] b.b.rules) (orE (firstE (ownE cf.b b.b) [] b.b.owns) (firstE (routE cf.b b.b) [] b.b.routes))) from rfl,hfe,orE_r _ rfl,hfe1,orE_r _ rfl,hfe2,orE_r _ rfl,hfe3]
 rfl
end Go.Proofs.YtnlingegeangmaaGreatDoor
namespace Go.Proofs.YtnlingegeangmaaGreatDoor
open Go Go.Vx
theorem PMap.nil:PMap [] []:=⟨fun _ _=>rfl,fun k s h=>by simp at h⟩
theorem PMap.put{l:List (Str × Int × Nat)}{ps:List Str}{j:Nat}{s:Str}(h:PMap l (ps.take j))(hs:ps[j]? = some s)(hn:s ∉ ps.take j)(c:Nat)(a:Int)(ha:a=(j:Nat)):PMap (mput l c s a).1 (ps.take (j+1)):=by
 subst ha
 have htk:ps.take (j+1)=ps.take j++[s]:=by rw[List.take_add_one,hs];rfl
 have hjl:=(gSm0.1 hs).1
 have hl:(ps.take j).length=j:=by rw[List.length_take];omega
 rw[htk]
 refine⟨fun t ht=>?_,fun k t hk=>?_⟩
 . have hts:¬ t=s:=fun e=>ht (by rw[e];simp)
   rw[mput_lk,if_neg hts]
   exact h.1 t fun g=>ht (List.mem_append_left _ g)
 . rw[mput_lk]
   by_cases hkj:k<j
   . rw[List.getElem?_append_left (by omega)] at hk
     have hts:¬ t=s:=fun e=>hn (by rw[<- e];exact mOf0 hk)
     rw[if_neg hts]
     exact h.2 k t hk
   . rw[List.getElem?_append_right (by omega),hl] at hk
     obtain⟨h1,h2⟩:=gSm0.1 hk
     simp at h1
     have:k=j:=by omega
     subst this
     simp at h2
     subst h2
     rw[if_pos rfl]
theorem ports_new{n:Str}{ps:List Str}(h:(firstE (portE n) [] ps).1=0){j:Nat}{s:Str}(hs:ps[j]? = some s):MName s/\s ∉ ps.take j:=by
 have h0:=firstE_zero h j s hs
 by_cases hm:MName s
 . refine⟨hm,fun hp=>?_⟩
   rw[portE_dbl hm hp] at h0
   cases h0
 . rw[portE_bad hm] at h0
   cases h0
theorem names_ok{c:ConfigB}(h:(nameO c).1=0){i:Nat}{b:BoxB}(hb:c.boxes[i]? = some b):MName b.name/\b.name ∉ (c.boxes.take i).map BoxB.name/\(firstE (portE b.name) [] (b.ins++b.outs)).1=0:=by
 have h0:=firstE_zero h i b hb
 by_cases hm:MName b.name
 . by_cases hd:b.name ∈ (c.boxes.take i).map BoxB.name
   . rw[boxE_dbl hm hd] at h0;cases h0
   . rw[boxE_ok hm hd] at h0;exact⟨hm,hd,h0⟩
 . rw[boxE_bad hm] at h0;cases h0
theorem mdeeds_at(hW:WordOk)(hI:ItoaOk)(c:Config)(hc:c.Ok)(ht:c.Tx)(hh:HeadOk c.b)(hn:(nameO c.b).1=0) :
    FSpecH Tryz.prog T [] 81 [.agg c.row] (fun d rows M=>(d = .tup [.i .i64 (deedO c.b).1,.s (deedO c.b).2]/\rows=[])/\M=[]):=by
 have hcb:=hc.boxes
 have hbl:(c.boxes.l.map Box.row).length=c.boxes.l.length:=by simp
 refine FSpecH.of_ok0 tok Tryz.func81 rfl Tryz.call81 (by simp) ?_
 refine OkM.seq ?_
 refine OkM.region tok ?_
 (conv=>whnf)
 refine OkM.pubB rfl ?_
 (conv=>whnf)
 (try (conv=>whnf));repeat' (first|refine OkM.seq ?_|(refine OkM.region tok ?_;conv=>whnf)|refine OkM.block ?_|fail)
 refine OkM.loopU [1,11,12] [13] 0 0 (fun (i:Nat)=>[.i .i64 (i:Nat)]) (fun _ b=>b) (fun _ r=>r) (fun (i:Nat)=>[]) (fun (i:Nat)=>i<=c.boxes.l.length/\deedO c.b=firstE (doesE c.b) (c.b.boxes.take i) (c.b.boxes.drop i)) (fun (i:Nat)=>c.boxes.l.length - i) (0) (⟨Nat.zero_le _,rfl⟩) (by first|exact .refl _|exact .cons _ (.refl _)|exact List.nil_sublist _) ?_;(conv=>whnf);refine⟨by ((conv=>whnf);first|rfl|(simp[envCat, tkL0, SI.row, Node.row, Pfx.row, Link.row, srow, Line.row, Rule.row, Box.row, Slc.row, Config.row];done)|(simp[envCat, tkL0, SI.row, Node.row, Pfx.row, Link.row, srow, Line.row, Rule.row, Box.row, Slc.row, Config.row];rw[IntKind.wrap_i64];omega)),?_⟩
 rintro i ⟨hi,hfe⟩
 (conv=>whnf)
 by_cases hil:i<c.boxes.l.length
 . obtain⟨b,hb⟩:∃ b,c.boxes.l[i]? = some b:=⟨_,gEt0 hil⟩
   have hbI:c.boxes.l[((i:Nat):Int).toNat]? = some b:=hb
   have hbb:c.b.boxes[i]? = some b.b:=by simp[Config.b,hb]
   have hbx:=hc.box b (mOf0 hb)
   have hbt:=ht.boxes b (mOf0 hb)
   have hbi:=hbx.ins
   have hbo:=hbx.outs
   have hil':(b.ins.l.map srow).length=b.ins.l.length:=by simp
   have hol':(b.outs.l.map srow).length=b.outs.l.length:=by simp
   have hnm:(firstE (portE b.name) [] (b.ins.l++b.outs.l)).1=0:=(names_ok hn hbb).2.2
   obtain⟨ps,hps⟩:∃ ps,ps=b.ins.l++b.outs.l:=⟨_,rfl⟩
   have hpl:ps.length=b.ins.l.length+b.outs.l.length:=by rw[hps];simp
   rw[<- hps] at hnm
   (try (conv=>whnf));repeat' (first|(refine⟨_,_,_,_,_,mtSI,fun _ _=>?_⟩;conv=>whnf)|refine OkM.seq ?_|((first|refine OkM.region tok ?_|refine OkM.cond ?_);conv=>whnf)|refine OkM.block ?_|((first|refine OkM.skip ?_|refine nI ?_|refine ix _ (by assumption) ?_);conv=>whnf)|(refine bI ?_ ?_<;>intro<;>(conv=>whnf)<;>(try (exfalso;omega)))|fail)
   rename_i g hg
   refine OkM.loopU [1,5,6,11,12,13,26] [27] 0 2 (fun (y:Nat × List (Str × Int × Nat) × Nat)=>[.i .i64 (y.1:Nat)]) (fun _ b=>b) (fun _ r=>r) (fun (y:Nat × List (Str × Int × Nat) × Nat)=>[(g,mObj D.s fI y.2.1 y.2.2)]) (fun (y:Nat × List (Str × Int × Nat) × Nat)=>y.1<=ps.length/\PMap y.2.1 (ps.take y.1)) (fun (y:Nat × List (Str × Int × Nat) × Nat)=>ps.length - y.1) ((0,[],0)) (⟨Nat.zero_le _,PMap.nil⟩) (by first|exact .refl _|exact .cons _ (.refl _)|exact List.nil_sublist _) ?_;(conv=>whnf);refine⟨by ((conv=>whnf);first|rfl|(simp[envCat, tkL0, SI.row, Node.row, Pfx.row, Link.row, srow, Line.row, Rule.row, Box.row, Slc.row, Config.row];done)|(simp[envCat, tkL0, SI.row, Node.row, Pfx.row, Link.row, srow, Line.row, Rule.row, Box.row, Slc.row, Config.row];rw[IntKind.wrap_i64];omega)),?_⟩
   rintro⟨j,l2,c2⟩ ⟨hj,hpm⟩
   dsimp only at hj hpm ⊢
   (conv=>whnf)
   by_cases hjl:j<ps.length
   . obtain⟨s,hs⟩:∃ s,ps[j]? = some s:=⟨_,gEt0 hjl⟩
     have hsp:=port_at b hbi hbo j s (by rw[<- hps];exact hs) _ rfl
     (try (conv=>whnf));repeat' (first|(refine⟨_,_,_,_,_,_,_,0,_,_,mtSI,rfl,rfl,rfl,?_⟩;conv=>whnf)|refine OkM.seq ?_|((first|refine OkM.region tok ?_|refine OkM.region_tree (id:=8) tok follows [(2,4,[]),(1,6,[]),(2,6,[]),(4,6,[])] (.q 0 (.q 1 (.q 2 (.q 3 (.q 5 (.l 4 (.l 6 .nil))))))) (by kernel_rfl) ?_|refine OkM.cond ?_);conv=>whnf)|refine OkM.block ?_|((first|refine OkM.skip ?_|refine nI ?_);conv=>whnf)|(refine Or.inl ?_;(conv=>whnf);refine Or.inl ?_;(conv=>whnf);(repeat (refine aI ?_;conv=>whnf));refine⟨_,hsp,rfl,?_⟩;conv=>whnf)|(refine bI ?_ ?_<;>intro<;>(conv=>whnf)<;>(try (exfalso;omega)))|fail)
     refine⟨(j+1,(mput l2 c2 s j).1,(mput l2 c2 s j).2),by dsimp only;omega,⟨by dsimp only;omega,hpm.put hs (ports_new hnm hs).2 c2 j rfl⟩,.refl _,?_⟩
     (conv=>whnf)
     rfl
   . obtain rfl:j=ps.length:=by omega
     rw[List.take_length,hps] at hpm
     have hbs:=mbox_at hW hI c hc.fields hh b hbx hbt g l2 c2 hpm
     (try (conv=>whnf));repeat' (first|(refine Or.inr (Or.inl ?_);(conv=>whnf);(repeat (refine aI ?_;conv=>whnf));refine⟨_,hbs,?_⟩;rintro _ _ _ ⟨⟨rfl,rfl⟩,rfl⟩<;>(conv=>whnf))|refine OkM.seq ?_|((first|refine OkM.region tok ?_|refine OkM.cond ?_|refine OkM.skip ?_|refine OkM.exit ?_|refine OkM.ret ?_|refine nI ?_);conv=>whnf)|(refine bI ?_ ?_<;>intro<;>(conv=>whnf)<;>(try (exfalso;omega)))|fail)
     . rename_i he
       refine Or.inl ?_;(conv=>whnf)
       refine⟨?_,rfl⟩
       rw[hfe,firstE_bad hbb he]
       rfl
     . rename_i he
       refine⟨i+1,by omega,⟨by omega,by rw[hfe,firstE_ok hbb (Classical.not_not.1 he)]⟩,List.nil_sublist _,?_⟩
       (conv=>whnf)
       rfl
 . obtain rfl:i=c.boxes.l.length:=by omega
   rw[firstE_nil (by simp[Config.b])] at hfe
   (try (conv=>whnf));repeat' (first|refine OkM.seq ?_|((first|refine OkM.region tok ?_|refine OkM.cond ?_|refine OkM.exit ?_|refine OkM.ret ?_);conv=>whnf)|(refine bI ?_ ?_<;>intro<;>(conv=>whnf)<;>(try (exfalso;omega)))|fail)
   all_goals first
    | (exfalso;omega)
    | (refine Or.inl ?_;(conv=>whnf)
       exact⟨by rw[hfe];rfl,rfl⟩)
end Go.Proofs.YtnlingegeangmaaGreatDoor
namespace Go.Proofs.YtnlingegeangmaaGreatDoor
open Go Go.Vx
def fullInL(bs:List BoxB):List Str:=bs.flatMap fun b=>b.ins.map (dot b.name)
def fullOutL(bs:List BoxB):List Str:=bs.flatMap fun b=>b.outs.map (dot b.name)
def plcsN(n:Nat)(bs:List BoxB):List (Nat × Prop):=(bs.zipIdx n).flatMap fun x=>(x.1.ins.map fun _=>(x.2,True))++x.1.outs.map fun _=>(x.2,False)
theorem plcsN_cons(n:Nat)(b:BoxB)(bs:List BoxB):plcsN n (b :: bs)=(b.ins.map fun _=>(n,True))++(b.outs.map fun _=>(n,False))++plcsN (n+1) bs:=by
 simp[plcsN,List.zipIdx_cons]
theorem fullsL_cons(b:BoxB)(bs:List BoxB):fullsL (b :: bs)=b.ins.map (dot b.name)++b.outs.map (dot b.name)++fullsL bs:=by simp[fullsL,fullsB]
theorem plcsN_at{s:Str}:∀ {bs:List BoxB} {n k:Nat},(fullsL bs)[k]? = some s->∃ (i:Nat) (q:Prop) (b:BoxB),(plcsN n bs)[k]? = some (i,q)/\n<=i/\bs[i - n]? = some b/\((q ↔ True)/\s ∈ b.ins.map (dot b.name)\/(q ↔ False)/\s ∈ b.outs.map (dot b.name))
 | [],n,k,h=>by simp[fullsL] at h
 | b :: bs,n,k,h=>by
  rw[fullsL_cons] at h
  rw[plcsN_cons]
  by_cases h1:k<b.ins.length
  . rw[List.append_assoc,List.getElem?_append_left (by simpa using h1)] at h
    refine⟨n,True,b,?_,Nat.le_refl _,by simp,.inl ⟨Iff.rfl,mOf0 h⟩⟩
    rw[List.append_assoc,List.getElem?_append_left (by simpa using h1)]
    simp[gEt0 h1]
  by_cases h2:k<b.ins.length+b.outs.length
  . rw[List.getElem?_append_left (by simpa using h2),List.getElem?_append_right (by simp;omega)] at h
    refine⟨n,False,b,?_,Nat.le_refl _,by simp,.inr ⟨Iff.rfl,mOf0 h⟩⟩
    rw[List.getElem?_append_left (by simpa using h2),List.getElem?_append_right (by simp;omega)]
    simp only[lMp0] at h ⊢
    have:k - b.ins.length<b.outs.length:=by omega
    simp[gEt0 this]
  . rw[List.getElem?_append_right (by simp;omega)] at h
    obtain⟨i,q,b2,e1,e2,e3,e4⟩:=plcsN_at (n:=n+1) h
    refine⟨i,q,b2,?_,by omega,?_,e4⟩
    . rw[List.getElem?_append_right (by simp;omega)]
      simp only[List.length_append,lMp0] at e1 ⊢
      exact e1
    . rw[show i - n=(i - (n+1))+1 by omega,List.getElem?_cons_succ]
      exact e3
theorem plcs_at{bs:List BoxB}{s:Str}{k:Nat}(h:(fullsL bs)[k]? = some s):∃ (i:Nat) (q:Prop) (b:BoxB),(plcs bs)[k]? = some (i,q)/\bs[i]? = some b/\((q ↔ True)/\s ∈ b.ins.map (dot b.name)\/(q ↔ False)/\s ∈ b.outs.map (dot b.name)):=by
 obtain⟨i,q,b,e1,_,e3,e4⟩:=plcsN_at (n:=0) h
 exact⟨i,q,b,e1,by simpa using e3,e4⟩
theorem mem_fulls{bs:List BoxB}{s:Str}:s ∈ fullsL bs ↔ s ∈ fullInL bs\/s ∈ fullOutL bs:=by
 simp only[fullsL,fullInL,fullOutL,fullsB,List.mem_flatMap,List.map_append,mAp0]
 constructor
 . rintro⟨b,hb,h|h⟩
   . exact .inl ⟨b,hb,h⟩
   . exact .inr ⟨b,hb,h⟩
 . rintro (⟨b,hb,h⟩|⟨b,hb,h⟩)
   . exact⟨b,hb,.inl h⟩
   . exact⟨b,hb,.inr h⟩
theorem dot_inj{n n' p p':Str}(hn:46 ∉ n)(hn':46 ∉ n')(h:dot n p=dot n' p'):n=n'/\p=p':=by
 unfold dot at h
 simp only[List.append_assoc,List.singleton_append] at h
 induction n generalizing n' with
 | nil=>
  cases n' with
  | nil=>simp at h;exact⟨rfl,h⟩
  | cons c l=>simp at h;exact absurd (by rw[h.1];simp) hn'
 | cons a n ih=>
  cases n' with
  | nil=>simp at h;exact absurd (by rw[h.1];simp) hn
  | cons c l=>
   simp only[List.cons_append,List.cons.injEq] at h
   obtain⟨e1,e2⟩:=ih (fun g=>hn (by simp[g])) (fun g=>hn' (by simp[g])) h.2
   exact⟨by rw[h.1,e1],e2⟩
theorem nodup_of_take{α:Type}{l:List α}(h:∀ (i:Nat) x,l[i]? = some x->x ∉ l.take i):l.Nodup:=by
 rw[List.nodup_iff_pairwise_ne,List.pairwise_iff_getElem]
 intro i j hi hj hij e
 refine h j l[j] (gEt0 hj) ?_
 rw[<- e]
 exact mOf0 (i:=i) (by rw[List.getElem?_take_of_lt hij];exact gEt0 hi)
theorem name_nodot{s:Str}(h:MName s):(46:UInt8) ∉ s:=by
 intro hm
 obtain⟨i,hi⟩:=List.getElem?_of_mem hm
 have:=h.1.2.2 i 46 hi
 unfold nameAt Ltr Dgt at this
 simp at this
theorem fulls_nodup_of:∀ {bs:List BoxB},(∀ b ∈ bs,(46:UInt8) ∉ b.name/\(b.ins++b.outs).Nodup)->(bs.map BoxB.name).Nodup->(fullsL bs).Nodup
 | [],_,_=>List.nodup_nil
 | b :: bs,h,hn=>by
  obtain⟨n1,n2⟩:=List.nodup_cons.1 (by simpa using hn:(b.name :: bs.map BoxB.name).Nodup)
  have ih:=fulls_nodup_of (fun x hx=>h x (by simp[hx])) n2
  obtain⟨hb1,hb2⟩:=h b (by simp)
  have hmap:((b.ins++b.outs).map (dot b.name)).Nodup:=by
   refine List.Pairwise.map _ ?_ hb2
   intro x y hne e
   exact hne (dot_inj hb1 hb1 e).2
  rw[fullsL_cons,<- List.map_append]
  refine List.nodup_append.2 ⟨hmap,ih,fun x hx y hy e=>?_⟩
  subst e
  obtain⟨p,hp,rfl⟩:=List.mem_map.1 hx
  simp only[fullsL,fullsB,List.mem_flatMap,List.mem_map] at hy
  obtain⟨b2,hb2',p2,_,e⟩:=hy
  have:=(dot_inj (h b2 (by simp[hb2'])).1 hb1 e).1
  exact n1 (List.mem_map.2 ⟨b2,hb2',this⟩)
theorem fulls_nodup{c:ConfigB}(h:(nameO c).1=0):(fullsL c.boxes).Nodup:=by
 refine fulls_nodup_of (fun b hb=>?_) (nodup_of_take fun i x hx=>?_)
 . obtain⟨i,hi⟩:=List.getElem?_of_mem hb
   obtain⟨h1,_,h3⟩:=names_ok h hi
   exact⟨name_nodot h1,nodup_of_take fun j s hs=>(ports_new h3 hs).2⟩
 . simp only[gMp0,Option.map_eq_some_iff] at hx
   obtain⟨b,hb,rfl⟩:=hx
   rw[<- List.map_take]
   exact (names_ok h hb).2.1
theorem nodup_idx{l:List Str}(h:l.Nodup){i j:Nat}{s:Str}(hi:l[i]? = some s)(hj:l[j]? = some s):i=j:=
 (List.getElem?_inj (gSm0.1 hi).1 h).1 (hi.trans hj.symm)
theorem fullIn_at{s:Str}:∀ {bs:List BoxB} {n:Nat},s ∈ fullInL bs->∃ k i:Nat,(fullsL bs)[k]? = some s/\(plcsN n bs)[k]? = some (i,True)
 | [],n,h=>by simp[fullInL] at h
 | b :: bs,n,h=>by
  simp only[fullInL,List.flatMap_cons,mAp0] at h
  rcases h with h|h
  . obtain⟨k,hk⟩:=List.getElem?_of_mem h
    have hkl:=(gSm0.1 hk).1
    simp only[lMp0] at hkl
    refine⟨k,n,?_,?_⟩
    . rw[fullsL_cons,List.append_assoc,List.getElem?_append_left (by simpa using hkl)];exact hk
    . rw[plcsN_cons,List.append_assoc,List.getElem?_append_left (by simpa using hkl)];simp[gEt0 hkl]
  . obtain⟨k,i,h1,h2⟩:=fullIn_at (bs:=bs) (n:=n+1) h
    refine⟨b.ins.length+b.outs.length+k,i,?_,?_⟩
    . rw[fullsL_cons,List.getElem?_append_right (by simp),<- h1]
      congr 1
      simp
    . rw[plcsN_cons,List.getElem?_append_right (by simp),<- h2]
      congr 1
      simp
theorem fullOut_at{s:Str}:∀ {bs:List BoxB} {n:Nat},s ∈ fullOutL bs->∃ k i:Nat,(fullsL bs)[k]? = some s/\(plcsN n bs)[k]? = some (i,False)
 | [],n,h=>by simp[fullOutL] at h
 | b :: bs,n,h=>by
  simp only[fullOutL,List.flatMap_cons,mAp0] at h
  rcases h with h|h
  . obtain⟨k,hk⟩:=List.getElem?_of_mem h
    have hkl:=(gSm0.1 hk).1
    simp only[lMp0] at hkl
    refine⟨b.ins.length+k,n,?_,?_⟩
    . rw[fullsL_cons,List.getElem?_append_left (by simp;omega),List.getElem?_append_right (by simp)]
      simpa using hk
    . rw[plcsN_cons,List.getElem?_append_left (by simp;omega),List.getElem?_append_right (by simp)]
      simp[gEt0 hkl]
  . obtain⟨k,i,h1,h2⟩:=fullOut_at (bs:=bs) (n:=n+1) h
    refine⟨b.ins.length+b.outs.length+k,i,?_,?_⟩
    . rw[fullsL_cons,List.getElem?_append_right (by simp),<- h1]
      congr 1
      simp
    . rw[plcsN_cons,List.getElem?_append_right (by simp),<- h2]
      congr 1
      simp
theorem full_place{bs:List BoxB}(hnd:(fullsL bs).Nodup){s:Str}(hs:s ∈ fullsL bs):∃ (i:Nat) (q:Prop),(plcs bs)[(plc (fullsL bs) s).toNat]? = some (i,q)/\(q ↔ s ∈ fullInL bs)/\(¬ q ↔ s ∈ fullOutL bs):=by
 obtain⟨h0,hk⟩:=plc_at hs
 obtain⟨i,q,b,e1,e2,e3⟩:=plcs_at hk
 have hin:s ∈ fullInL bs->(q ↔ True):=fun h=>by
  obtain⟨k,j,h1,h2⟩:=fullIn_at (n:=0) h
  have:=nodup_idx hnd h1 hk
  subst this
  have h3:(plcs bs)[(plc (fullsL bs) s).toNat]? = some (j,True):=h2
  rw[e1] at h3
  cases h3
  exact Iff.rfl
 have hout:s ∈ fullOutL bs->(q ↔ False):=fun h=>by
  obtain⟨k,j,h1,h2⟩:=fullOut_at (n:=0) h
  have:=nodup_idx hnd h1 hk
  subst this
  have h3:(plcs bs)[(plc (fullsL bs) s).toNat]? = some (j,False):=h2
  rw[e1] at h3
  cases h3
  exact Iff.rfl
 refine⟨i,q,e1,⟨fun hq=>?_,fun h=>(hin h).2 trivial⟩,⟨fun hq=>?_,fun h hq=>(hout h).1 hq⟩⟩
 . rcases mem_fulls.1 hs with h|h
   . exact h
   . exact ((hout h).1 hq).elim
 . rcases mem_fulls.1 hs with h|h
   . exact absurd ((hin h).2 trivial) hq
   . exact h
end Go.Proofs.YtnlingegeangmaaGreatDoor
namespace Go.Proofs.YtnlingegeangmaaGreatDoor
open Go Go.Vx
theorem fullsL_len(bs:List BoxB):(fullsL bs).length=nPorts bs:=by
 induction bs with
 | nil=>rfl
 | cons b bs ih=>
  rw[fullsL_cons]
  simp only[List.length_append,lMp0,ih,nPorts,List.map_cons,List.sum_cons]
theorem count_ok{c:ConfigB}(h:(countO c).1=0):c.boxes.length<=16/\nPorts c.boxes<=48/\c.links.length<=48/\c.slices.length<=8:=by
 rw[countO_if] at h
 split at h
 . cases h
 split at h
 . cases h
 split at h
 . cases h
 split at h
 . cases h
 split at h
 . cases h
 split at h
 . cases h
 split at h
 . cases h
 omega
theorem tx_names{c:Config}(ht:c.Tx):∀ b ∈ c.boxes.l,b.name.length<=1048576/\(∀ s ∈ b.ins.l,s.length<=1048576)/\∀ s ∈ b.outs.l,s.length<=1048576:=fun b hb=>
 ⟨(ht.boxes b hb).name,(ht.boxes b hb).ins,(ht.boxes b hb).outs⟩
structure NumOk(c:ConfigB)(lst:List (Str × Int × Nat)):Prop where
 nd:(fullsL c.boxes).Nodup
 map:NMap lst (fullsL c.boxes)
 keys:mKeys lst
theorem NumOk.some{c:ConfigB}{lst:List (Str × Int × Nat)}(h:NumOk c lst){s:Str}(hs:s ∈ fullsL c.boxes):∃ (i:Nat) (q:Prop),lk lst s=Option.some (plc (fullsL c.boxes) s)/\((plcs c.boxes).map plRow)[((lk lst s).getD 0).toNat]? = Option.some (plRow (i,q))/\0<=(lk lst s).getD 0/\(lk lst s).getD 0<((plcs c.boxes).length:Nat)/\(q ↔ s ∈ fullInL c.boxes)/\(¬ q ↔ s ∈ fullOutL c.boxes):=by
 obtain⟨i,q,h1,h2,h3⟩:=full_place h.nd hs
 have hl:=(h.map s).2 hs
 have h0:=plc_at hs
 have h4:=plc_lt (fullsL c.boxes) s
 refine⟨i,q,hl,?_,?_,?_,h2,h3⟩
 . rw[hl]
   simp only[Option.getD_some,gMp0,h1]
   rfl
 . rw[hl];exact h0.1
 . rw[hl,plcs_len];exact h4
theorem NumOk.three{c:ConfigB}{lst:List (Str × Int × Nat)}(h:NumOk c lst)(s:Str) :
    (s ∉ fullIn c/\s ∉ fullOut c/\¬ (lk lst s).isSome=true) \/
    (s ∈ fullIn c/\s ∉ fullOut c/\(lk lst s).isSome=true/\0<=(lk lst s).getD 0/\(lk lst s).getD 0<((plcs c.boxes).length:Nat)/\∃ i:Nat,((plcs c.boxes).map plRow)[((lk lst s).getD 0).toNat]? = Option.some (plRow (i,True))) \/
    (s ∉ fullIn c/\s ∈ fullOut c/\(lk lst s).isSome=true/\0<=(lk lst s).getD 0/\(lk lst s).getD 0<((plcs c.boxes).length:Nat)/\∃ i:Nat,((plcs c.boxes).map plRow)[((lk lst s).getD 0).toNat]? = Option.some (plRow (i,False))):=by
 by_cases hs:s ∈ fullsL c.boxes
 . obtain⟨i,q,h1,h2,h3,h4,h5,h6⟩:=h.some hs
   right
   have h7:(lk lst s).isSome=true:=by rw[h1];rfl
   by_cases hq:q
   . obtain rfl:q=True:=propext ⟨fun _=>trivial,fun _=>hq⟩
     exact Or.inl ⟨h5.1 trivial,fun g=>h6.2 g trivial,h7,h3,h4,i,h2⟩
   . obtain rfl:q=False:=propext ⟨fun g=>hq g,fun g=>g.elim⟩
     exact Or.inr ⟨fun g=>h5.2 g,h6.1 hq,h7,h3,h4,i,h2⟩
 . refine Or.inl ⟨fun g=>hs (mem_fulls.2 (Or.inl g)),fun g=>hs (mem_fulls.2 (Or.inr g)),?_⟩
   rw[(h.map s).1 hs]
   simp
theorem NumOk.some_iff{c:ConfigB}{lst:List (Str × Int × Nat)}(h:NumOk c lst)(s:Str):(lk lst s).isSome=true ↔ s ∈ fullsL c.boxes:=by
 constructor
 . intro g
   refine Classical.byContradiction fun hn=>?_
   rw[(h.map s).1 hn] at g
   cases g
 . intro g
   rw[(h.map s).2 g]
   rfl
theorem born_inj{κ α:Type}{l:List (κ × α × Nat)}:(l.map fun e=>e.2.2).Nodup->∀ {x y:κ × α × Nat},x ∈ l->y ∈ l->x.2.2=y.2.2->x=y:=by
 induction l with
 | nil=>intro _ x y hx;cases hx
 | cons z l ih=>
  intro h x y hx hy he
  rw[List.map_cons,List.nodup_cons] at h
  rcases List.mem_cons.1 hx with rfl|hx'<;>rcases List.mem_cons.1 hy with rfl|hy'
  . rfl
  . exact absurd (List.mem_map.2 ⟨y,hy',he.symm⟩) h.1
  . exact absurd (List.mem_map.2 ⟨x,hx',he⟩) h.1
  . exact ih h.2 hx' hy' he
theorem seen_less{κ α:Type}{l:List (κ × α × Nat)}{seen:List Nat}{e:κ × α × Nat}(he:e ∈ l)(hn:e.2.2 ∉ seen):(l.filter fun x=>decide (x.2.2 ∉ seen++[e.2.2])).length<(l.filter fun x=>decide (x.2.2 ∉ seen)).length:=by
 induction l with
 | nil=>cases he
 | cons y l ih=>
  have hsub:(l.filter fun x=>decide (x.2.2 ∉ seen++[e.2.2])).length<=(l.filter fun x=>decide (x.2.2 ∉ seen)).length:=by
   rw[<- List.countP_eq_length_filter,<- List.countP_eq_length_filter]
   exact List.countP_mono_left fun x _ h=>by simp only[decide_eq_true_eq,mAp0,not_or] at h ⊢;exact h.1
  rcases List.mem_cons.1 he with rfl|he
  . rw[List.filter_cons_of_neg (by simp),List.filter_cons_of_pos (by simpa using hn)]
    simp only[List.length_cons]
    omega
  . have:=ih he
    by_cases hy:y.2.2 ∈ seen
    . rw[List.filter_cons_of_neg (by simp[hy]),List.filter_cons_of_neg (by simp[hy])]
      exact this
    . have h1:(List.filter (fun x=>decide (x.2.2 ∉ seen)) (y :: l)).length=(List.filter (fun x=>decide (x.2.2 ∉ seen)) l).length+1:=by
        rw[List.filter_cons_of_pos (by simpa using hy)]
        rfl
      rw[h1]
      have h2:(List.filter (fun x=>decide (x.2.2 ∉ seen++[e.2.2])) (y :: l)).length<=(List.filter (fun x=>decide (x.2.2 ∉ seen++[e.2.2])) l).length+1:=by
       rw[List.filter_cons]
       split<;>simp
      omega
section
variable {c : ConfigB} {pre : List Link} {x : Link}
theorem linkE_frm(h:sidesI [x.frm] (fullOut c) (fullIn c) ≠ 0):linkE c pre x=(sidesI [x.frm] (fullOut c) (fullIn c),x.frm):=if_pos h
theorem linkE_to(h:¬ sidesI [x.frm] (fullOut c) (fullIn c) ≠ 0)(h2:sidesI [x.dst] (fullIn c) (fullOut c) ≠ 0):linkE c pre x=(sidesI [x.dst] (fullIn c) (fullOut c),x.dst):=by unfold linkE;rw[if_neg h,if_pos h2]
theorem linkE_cost(h:¬ sidesI [x.frm] (fullOut c) (fullIn c) ≠ 0)(h2:¬ sidesI [x.dst] (fullIn c) (fullOut c) ≠ 0)(h3:x.cost<1\/9999<x.cost):linkE c pre x=(71,x.frm):=by unfold linkE;rw[if_neg h,if_neg h2,if_pos h3]
theorem linkE_dbl(h:¬ sidesI [x.frm] (fullOut c) (fullIn c) ≠ 0)(h2:¬ sidesI [x.dst] (fullIn c) (fullOut c) ≠ 0)(h3:¬ (x.cost<1\/9999<x.cost))(h4:∃ y ∈ pre,y.frm=x.frm):linkE c pre x=(75,x.frm):=by unfold linkE;rw[if_neg h,if_neg h2,if_neg h3,if_pos h4]
theorem linkE_ok(h:¬ sidesI [x.frm] (fullOut c) (fullIn c) ≠ 0)(h2:¬ sidesI [x.dst] (fullIn c) (fullOut c) ≠ 0)(h3:¬ (x.cost<1\/9999<x.cost))(h4:¬ ∃ y ∈ pre,y.frm=x.frm):linkE c pre x=(0,[]):=by unfold linkE;rw[if_neg h,if_neg h2,if_neg h3,if_neg h4]
end
theorem mlinks_at(c:Config)(hc:c.Ok)(ht:c.Tx)(hn:(nameO c.b).1=0)(hcn:(countO c.b).1=0) :
    FSpecH Tryz.prog T [] 82 [.agg c.row] (fun d rows M=>(d = .tup [.i .i64 (linkO c.b).1,.s (linkO c.b).2]/\rows=[])/\M=[]):=by
 have hll:(c.links.l.map Link.row).length=c.links.l.length:=by simp
 have hL:=hc.links
 have hpn:(fullsL c.b.boxes).length<=1000:=by rw[fullsL_len];have:=(count_ok hcn).2.1;omega
 have hnum:=numbered_at c hc (tx_names ht) hpn
 have hpr:((plcs c.b.boxes).map plRow).length=(plcs c.b.boxes).length:=by simp
 refine FSpecH.of_ok0 tok Tryz.func82 rfl Tryz.call82 (by simp) ?_
 (try (conv=>whnf));repeat' (first|((first|refine⟨_,_,_,_,_,mtSI,fun _ _=>?_⟩|refine⟨_,_,_,_,_,_,_,mtSI,(by first|exact .head _|exact .tail _ (.head _)|exact .tail _ (.tail _ (.head _))|exact List.mem_append_left _ (by assumption)),fun _ _=>?_⟩);conv=>whnf)|(refine Or.inr (Or.inl ?_);(conv=>whnf);(repeat (refine aI ?_;conv=>whnf));refine⟨_,hnum , ?_⟩;rintro _ _ _ ⟨gn,lst,cn,rfl,rfl,rfl,hnm,hwf,hky⟩<;>(conv=>whnf))|refine OkM.seq ?_|(refine OkM.region tok ?_;conv=>whnf)|refine OkM.block ?_|fail)
 rename_i gf hgf gi hgi
 have hN:NumOk c.b lst:=⟨fulls_nodup hn,hnm,hky⟩
 refine OkM.loopU [1,4,5,6,23] [] 1 3 (fun (x:List (Str × Int × Nat) × Nat × List Nat)=>[]) (fun _ b=>b) (fun _ r=>r) (fun (x:List (Str × Int × Nat) × Nat × List Nat)=>[(gi,itObj gn cn x.2.2),(gf,mObj D.s fI x.1 x.2.1),(gn,mObj D.s fI lst cn)]) (fun (x:List (Str × Int × Nat) × Nat × List Nat)=>mKeys x.1/\∀ s,(lk x.1 s).isSome=true ↔ ∃ e ∈ lst,e.2.2 ∈ x.2.2/\e.1=s/\s ∈ fullOutL c.b.boxes) (fun (x:List (Str × Int × Nat) × Nat × List Nat)=>(lst.filter fun e=>decide (e.2.2 ∉ x.2.2)).length) (([],0,[])) (⟨List.nodup_nil,fun s=>by simp[lk_nil]⟩) (by first|exact .refl _|exact .cons _ (.refl _)|exact List.nil_sublist _) ?_;(conv=>whnf);refine⟨by ((conv=>whnf);first|rfl|(simp[envCat, tkL0, SI.row, Node.row, Pfx.row, Link.row, srow, Line.row, Rule.row, Box.row, Slc.row, Config.row, plRow];done)|(simp[envCat, tkL0, SI.row, Node.row, Pfx.row, Link.row, srow, Line.row, Rule.row, Box.row, Slc.row, Config.row, plRow];rw[IntKind.wrap_i64];omega)),?_⟩
 rintro⟨lf,cf,seen⟩ ⟨hkf,hfr⟩
 dsimp only at hkf hfr ⊢
 (conv=>whnf)
 refine OkM.seq ?_
 refine OkM.region tok ?_
 (conv=>whnf)
 refine⟨_,_,inferInstance,_,_,_,_,0,_,_,fun _=>rfl,fun _=>rfl,hwf,rfl,.tail _ (.tail _ (.head _)),?_,?_⟩
 rotate_left
 . intro e he hns
   have hle:=lk_of hky he
   have heF:e.1 ∈ fullsL c.b.boxes:=(hN.some_iff e.1).1 (by rw[hle];rfl)
   obtain⟨bi,q,h1,h2,h3,h4,h5,h6⟩:=hN.some heF
   rw[hle] at h2 h3 h4
   simp only[Option.getD_some] at h2 h3 h4
   (conv=>whnf)
   (try (conv=>whnf));repeat' (first|((first|refine⟨_,_,inferInstance,_,_,_,_,0,_,_,e,fun _=>rfl,fun _=>rfl,hwf,rfl,.tail _ (.tail _ (.head _)),he,?_⟩|refine⟨_,_,_,_,_,_,_,1,_,_,mtSI,rfl,rfl,rfl,?_⟩);conv=>whnf)|refine OkM.seq ?_|((first|refine OkM.region tok ?_|refine OkM.cond ?_);conv=>whnf)|refine OkM.block ?_|((first|refine OkM.skip ?_|refine⟨_,by assumption,?_⟩);conv=>whnf)|(refine bI ?_ ?_<;>intro<;>(conv=>whnf)<;>(try (exfalso;omega)))|(refine aJ ?_;conv=>whnf)|fail)
   . refine⟨((mput lf cf e.1 e.2.1).1,(mput lf cf e.1 e.2.1).2,seen++[e.2.2]),seen_less he hns,⟨mput_keys hkf _ _,fun s=>?_⟩,List.Sublist.refl _,?_⟩
     . dsimp only
       have hq:e.1 ∈ fullOutL c.b.boxes:=h6.1 (by assumption)
       rw[mput_lk]
       by_cases hs:s=e.1
       . rw[if_pos hs]
         exact⟨fun _=>⟨e,he,by simp,hs.symm,by rw[hs];exact hq⟩,fun _=>rfl⟩
       . rw[if_neg hs,hfr s]
         constructor
         . rintro⟨e',a1,a2,a3,a4⟩
           exact⟨e',a1,List.mem_append_left _ a2,a3,a4⟩
         . rintro⟨e',a1,a2,a3,a4⟩
           rcases mAp0.1 a2 with a2|a2
           . exact⟨e',a1,a2,a3,a4⟩
           . exact absurd (by rw[<- a3,born_inj hwf.1 a1 he (List.mem_singleton.1 a2)]) hs
     . (conv=>whnf);(first|rfl|simp[envCat, tkL0, SI.row, Node.row, Pfx.row, Link.row, srow, Line.row, Rule.row, Box.row, Slc.row, Config.row, plRow])
   . refine⟨(lf,cf,seen++[e.2.2]),seen_less he hns,⟨hkf,fun s=>?_⟩,List.Sublist.refl _,?_⟩
     . dsimp only
       have hq:¬ e.1 ∈ fullOutL c.b.boxes:=fun g=>(by assumption:¬ ¬ (bi,q).2) (h6.2 g)
       rw[hfr s]
       constructor
       . rintro⟨e',a1,a2,a3,a4⟩
         exact⟨e',a1,List.mem_append_left _ a2,a3,a4⟩
       . rintro⟨e',a1,a2,a3,a4⟩
         rcases mAp0.1 a2 with a2|a2
         . exact⟨e',a1,a2,a3,a4⟩
         . exact absurd (by rw[<- a3,born_inj hwf.1 a1 he (List.mem_singleton.1 a2)] at a4;exact a4) hq
     . (conv=>whnf);(first|rfl|simp[envCat, tkL0, SI.row, Node.row, Pfx.row, Link.row, srow, Line.row, Rule.row, Box.row, Slc.row, Config.row, plRow])
 . intro hall
   have hfree:∀ s,(lk lf s).isSome=true ↔ s ∈ fullOutL c.b.boxes/\∀ y ∈ c.links.l.take 0,y.frm ≠ s:=by
    intro s
    rw[hfr s]
    constructor
    . rintro⟨e,_,_,_,h⟩
      exact⟨h,fun y hy=>by simp at hy⟩
    . rintro⟨h,_⟩
      have hs:s ∈ fullsL c.b.boxes:=mem_fulls.2 (Or.inr h)
      have:=(hN.some_iff s).2 hs
      obtain⟨a,ha⟩:=Option.isSome_iff_exists.1 this
      obtain⟨n,hm⟩:=lk_mem ha
      exact⟨_,hm,hall _ hm,rfl,h⟩
   clear hfr
   (try (conv=>whnf));repeat' (first|refine OkM.seq ?_|((first|refine OkM.region tok ?_|refine OkM.cond ?_|refine OkM.exit ?_);conv=>whnf)|fail)
   refine Or.inr ?_
   (conv=>whnf)
   (try (conv=>whnf));repeat' (first|refine OkM.seq ?_|(refine OkM.region tok ?_;conv=>whnf)|refine OkM.block ?_|fail)
   refine OkM.loopU [6,9,40,41] [42] 1 3 (fun (x:Nat × List (Str × Int × Nat) × Nat)=>[.i .i64 x.1]) (fun _ b=>b) (fun _ r=>r) (fun (x:Nat × List (Str × Int × Nat) × Nat)=>[(gf,mObj D.s fI x.2.1 x.2.2),(gn,mObj D.s fI lst cn)]) (fun (x:Nat × List (Str × Int × Nat) × Nat)=>x.1<=c.links.l.length/\linkO c.b=firstE (linkE c.b) (c.links.l.take x.1) (c.links.l.drop x.1)/\mKeys x.2.1/\∀ s,(lk x.2.1 s).isSome=true ↔ s ∈ fullOutL c.b.boxes/\∀ y ∈ c.links.l.take x.1,y.frm ≠ s) (fun (x:Nat × List (Str × Int × Nat) × Nat)=>c.links.l.length - x.1) ((0,lf,cf)) (⟨Nat.zero_le _,rfl,hkf,hfree⟩) (by first|exact .refl _|exact .cons _ (.refl _)|exact List.nil_sublist _) ?_;(conv=>whnf);refine⟨by ((conv=>whnf);first|rfl|(simp[envCat, tkL0, SI.row, Node.row, Pfx.row, Link.row, srow, Line.row, Rule.row, Box.row, Slc.row, Config.row, plRow];done)|(simp[envCat, tkL0, SI.row, Node.row, Pfx.row, Link.row, srow, Line.row, Rule.row, Box.row, Slc.row, Config.row, plRow];rw[IntKind.wrap_i64];omega)),?_⟩
   rintro⟨k,lf,cf⟩ ⟨hk,hO,hkf,hfr⟩
   dsimp only at hk hO hkf hfr ⊢
   by_cases hlt:k<c.links.l.length
   . obtain⟨x,hx⟩:∃ x,c.links.l[k]? = some x:=⟨_,gEt0 hlt⟩
     have hxr:(c.links.l.map Link.row)[k]? = some x.row:=by rw[gMp0,hx];rfl
     (conv=>whnf)
     (try (conv=>whnf));repeat' (first|refine OkM.seq ?_|((first|refine OkM.region tok ?_|refine OkM.cond ?_);conv=>whnf)|refine OkM.block ?_|((first|refine OkM.skip ?_|refine ix _ (by assumption) ?_);conv=>whnf)|(refine bI ?_ ?_<;>intro<;>(conv=>whnf)<;>(try (exfalso;omega)))|fail)
     have hdr:linkO c.b=if (linkE c.b (c.links.l.take k) x).1 ≠ 0 then linkE c.b (c.links.l.take k) x else firstE (linkE c.b) (c.links.l.take (k+1)) (c.links.l.drop (k+1)):=by rw[hO,firstE_split hx]
     rcases hN.three x.frm with⟨a1,a2,a3⟩|⟨a1,a2,a3,a4,a5,ai,a6⟩|⟨a1,a2,a3,a4,a5,ai,a6⟩
     . have hE:linkE c.b (c.links.l.take k) x=(73,x.frm):=by
         have h1:sidesI [x.frm] (fullOut c.b) (fullIn c.b)=73:=by rw[sidesI_one,sideE_unk a2 a1]
         rw[linkE_frm (by rw[h1];decide),h1]
       refine Or.inr ?_;(conv=>whnf);refine⟨_,_,Tryz.func125,rfl,Tryz.call125,?_⟩;(conv=>whnf)
       (try (conv=>whnf));repeat' (first|(exact absurd a3 (by assumption))|(refine⟨_,_,_,_,_,_,_,_,mtSI,(by first|exact .head _|exact .tail _ (.head _)|exact .tail _ (.tail _ (.head _))|exact .tail _ (.tail _ (.tail _ (.head _)))|exact List.mem_append_left _ (by assumption)),rfl,?_⟩;conv=>whnf)|refine OkM.seq ?_|((first|refine OkM.region tok ?_|refine OkM.of_ok (Ok.region_draw tok follows (by kernel_rfl) ?_)|refine OkM.cond ?_|refine OkM.ret ?_);conv=>whnf)|(refine bI ?_ ?_<;>intro<;>(conv=>whnf)<;>(try (exfalso;omega)))|fail)
       all_goals first
        | exact absurd a3 (by assumption)
        | (refine Or.inl ?_;(conv=>whnf)
           exact⟨by rw[hdr,hE];rfl,rfl⟩)
     . have hE:linkE c.b (c.links.l.take k) x=(74,x.frm):=by
         have h1:sidesI [x.frm] (fullOut c.b) (fullIn c.b)=74:=by rw[sidesI_one,sideE_side a2 a1]
         rw[linkE_frm (by rw[h1];decide),h1]
       have a7:¬ ((ai,True).2 ↔ False):=fun h=>h.1 trivial
       refine Or.inr ?_;(conv=>whnf);refine⟨_,_,Tryz.func125,rfl,Tryz.call125,?_⟩;(conv=>whnf)
       (try (conv=>whnf));repeat' (first|(exact absurd a3 (by assumption))|(exact absurd a7 (by assumption))|(refine⟨_,_,_,_,_,_,_,_,mtSI,(by first|exact .head _|exact .tail _ (.head _)|exact .tail _ (.tail _ (.head _))|exact .tail _ (.tail _ (.tail _ (.head _)))|exact List.mem_append_left _ (by assumption)),rfl,?_⟩;conv=>whnf)|refine OkM.seq ?_|((first|refine OkM.region tok ?_|refine OkM.of_ok (Ok.region_draw tok follows (by kernel_rfl) ?_)|refine OkM.cond ?_|refine OkM.skip ?_|refine OkM.ret ?_|refine⟨_,by assumption,?_⟩);conv=>whnf)|(refine bI ?_ ?_<;>intro<;>(conv=>whnf)<;>(try (exfalso;omega)))|(refine aJ ?_;conv=>whnf)|fail)
       all_goals first
        | (refine Or.inl ?_;(conv=>whnf)
           exact⟨by rw[hdr,hE];rfl,rfl⟩)
     . have h1:¬ sidesI [x.frm] (fullOut c.b) (fullIn c.b) ≠ 0:=by rw[sidesI_one,sideE_ok a2 (by simp)];simp
       have a7:(ai,False).2 ↔ False:=Iff.rfl
       have hE3:=linkE_to (pre:=c.links.l.take k) h1
       refine Or.inr ?_;(conv=>whnf);refine⟨_,_,Tryz.func125,rfl,Tryz.call125,?_⟩;(conv=>whnf)
       (try (conv=>whnf));repeat' (first|(exact absurd a3 (by assumption))|(exact absurd a7 (by assumption))|(refine⟨_,_,_,_,_,_,_,_,mtSI,(by first|exact .head _|exact .tail _ (.head _)|exact .tail _ (.tail _ (.head _))|exact .tail _ (.tail _ (.tail _ (.head _)))|exact List.mem_append_left _ (by assumption)),rfl,?_⟩;conv=>whnf)|refine OkM.seq ?_|((first|refine OkM.region tok ?_|refine OkM.cond ?_|refine OkM.skip ?_|refine OkM.ret ?_|refine⟨_,by assumption,?_⟩);conv=>whnf)|(refine bI ?_ ?_<;>intro<;>(conv=>whnf)<;>(try (exfalso;omega)))|(refine aJ ?_;conv=>whnf)|fail)
       rcases hN.three x.dst with⟨b1,b2,b3⟩|⟨b1,b2,b3,b4,b5,bi,b6⟩|⟨b1,b2,b3,b4,b5,bi,b6⟩
       . have hE:linkE c.b (c.links.l.take k) x=(73,x.dst):=by
           have h1:sidesI [x.dst] (fullIn c.b) (fullOut c.b)=73:=by rw[sidesI_one,sideE_unk b1 b2]
           rw[hE3 (by rw[h1];decide),h1]
         refine Or.inr ?_;(conv=>whnf);refine⟨_,_,Tryz.func125,rfl,Tryz.call125,?_⟩;(conv=>whnf)
         (try (conv=>whnf));repeat' (first|(exact absurd b3 (by assumption))|(refine⟨_,_,_,_,_,_,_,_,mtSI,(by first|exact .head _|exact .tail _ (.head _)|exact .tail _ (.tail _ (.head _))|exact .tail _ (.tail _ (.tail _ (.head _)))|exact List.mem_append_left _ (by assumption)),rfl,?_⟩;conv=>whnf)|refine OkM.seq ?_|((first|refine OkM.region tok ?_|refine OkM.of_ok (Ok.region_draw tok follows (by kernel_rfl) ?_)|refine OkM.cond ?_|refine OkM.ret ?_);conv=>whnf)|(refine bI ?_ ?_<;>intro<;>(conv=>whnf)<;>(try (exfalso;omega)))|fail)
         all_goals first
          | (refine Or.inl ?_;(conv=>whnf)
             exact⟨by rw[hdr,hE];rfl,rfl⟩)
       . have h2:¬ sidesI [x.dst] (fullIn c.b) (fullOut c.b) ≠ 0:=by rw[sidesI_one,sideE_ok b1 (by simp)];simp
         have b7:(bi,True).2 ↔ True:=Iff.rfl
         refine Or.inr ?_;(conv=>whnf);refine⟨_,_,Tryz.func125,rfl,Tryz.call125,?_⟩;(conv=>whnf)
         (try (conv=>whnf));repeat' (first|(exact absurd b3 (by assumption))|(exact absurd b7 (by assumption))|((first|refine⟨_,_,_,_,_,_,_,_,mtSI,(by first|exact .head _|exact .tail _ (.head _)|exact .tail _ (.tail _ (.head _))|exact .tail _ (.tail _ (.tail _ (.head _)))|exact List.mem_append_left _ (by assumption)),rfl,?_⟩|refine⟨_,_,_,_,_,_,_,0,_,mtSI,rfl,rfl,?_⟩);conv=>whnf)|refine OkM.seq ?_|((first|refine OkM.region tok ?_|refine OkM.of_ok (Ok.region_draw tok follows (by kernel_rfl) ?_)|refine OkM.cond ?_|refine OkM.skip ?_|refine OkM.ret ?_|refine nI ?_|refine⟨_,by assumption,?_⟩);conv=>whnf)|(refine bI ?_ ?_<;>intro<;>(conv=>whnf)<;>(try (exfalso;omega)))|(refine aJ ?_;conv=>whnf)|fail)
         all_goals first
          | (have hE:=linkE_cost (c:=c.b) (pre:=c.links.l.take k) (x:=x) h1 h2 (by omega)
             refine Or.inl ?_;(conv=>whnf)
             exact⟨by rw[hdr,hE];rfl,rfl⟩)
          | (have hE:=linkE_dbl (c:=c.b) (pre:=c.links.l.take k) (x:=x) h1 h2 (by omega) (by
               refine Classical.byContradiction fun hn=>(by assumption:¬ (lk lf x.frm).isSome=true) ((hfr x.frm).2 ⟨a2,fun y hy he=>hn ⟨y,hy,he⟩⟩))
             refine Or.inl ?_;(conv=>whnf)
             exact⟨by rw[hdr,hE];rfl,rfl⟩)
          | skip
         rename_i hc1 hc2 hfs
         have hfr0:=(hfr x.frm).1 (Classical.not_not.1 hfs)
         have hE:=linkE_ok (c:=c.b) (pre:=c.links.l.take k) (x:=x) h1 h2 (by omega) (fun⟨y,hy,he⟩=>hfr0.2 y hy he)
         refine⟨(k+1,mdel lf x.frm,cf),by dsimp only;omega,⟨by dsimp only;omega,by rw[hdr,hE];rfl,mdel_keys hkf _,fun s=>?_⟩,List.Sublist.refl _,?_⟩
         . dsimp only
           rw[mdel_lk hkf,List.take_add_one,hx]
           by_cases hs:s=x.frm
           . rw[if_pos hs]
             exact⟨fun h=>by simp at h,fun h=>absurd hs.symm (h.2 x (by simp))⟩
           . rw[if_neg hs,hfr s]
             constructor
             . rintro⟨g1,g2⟩
               refine⟨g1,fun y hy=>?_⟩
               rcases mAp0.1 hy with hy|hy
               . exact g2 y hy
               . simp at hy
                 rw[hy]
                 exact fun h=>hs h.symm
             . rintro⟨g1,g2⟩
               exact⟨g1,fun y hy=>g2 y (List.mem_append_left _ hy)⟩
         . (conv=>whnf)
           rfl
       . have hE:linkE c.b (c.links.l.take k) x=(74,x.dst):=by
           have h1:sidesI [x.dst] (fullIn c.b) (fullOut c.b)=74:=by rw[sidesI_one,sideE_side b1 b2]
           rw[hE3 (by rw[h1];decide),h1]
         have b7:¬ ((bi,False).2 ↔ True):=fun h=>h.2 trivial
         refine Or.inr ?_;(conv=>whnf);refine⟨_,_,Tryz.func125,rfl,Tryz.call125,?_⟩;(conv=>whnf)
         (try (conv=>whnf));repeat' (first|(exact absurd b3 (by assumption))|(exact absurd b7 (by assumption))|(refine⟨_,_,_,_,_,_,_,_,mtSI,(by first|exact .head _|exact .tail _ (.head _)|exact .tail _ (.tail _ (.head _))|exact .tail _ (.tail _ (.tail _ (.head _)))|exact List.mem_append_left _ (by assumption)),rfl,?_⟩;conv=>whnf)|refine OkM.seq ?_|((first|refine OkM.region tok ?_|refine OkM.of_ok (Ok.region_draw tok follows (by kernel_rfl) ?_)|refine OkM.cond ?_|refine OkM.skip ?_|refine OkM.ret ?_|refine⟨_,by assumption,?_⟩);conv=>whnf)|(refine bI ?_ ?_<;>intro<;>(conv=>whnf)<;>(try (exfalso;omega)))|(refine aJ ?_;conv=>whnf)|fail)
         all_goals first
          | (refine Or.inl ?_;(conv=>whnf)
             exact⟨by rw[hdr,hE];rfl,rfl⟩)
   . obtain rfl:k=c.links.l.length:=by omega
     rw[firstE_nil (by simp)] at hO
     (conv=>whnf)
     (try (conv=>whnf));repeat' (first|refine OkM.seq ?_|((first|refine OkM.region tok ?_|refine OkM.cond ?_|refine OkM.exit ?_|refine OkM.ret ?_);conv=>whnf)|(refine bI ?_ ?_<;>intro<;>(conv=>whnf)<;>(try (exfalso;omega)))|fail)
     all_goals first
      | (exfalso;omega)
      | (refine Or.inl ?_;(conv=>whnf)
         exact⟨by rw[hO];rfl,rfl⟩)
end Go.Proofs.YtnlingegeangmaaGreatDoor
namespace Go.Vx.Hp
structure Swo{α:Type}(lt:α->α->Prop):Prop where
 irrefl:∀ a,¬ lt a a
 trans:∀ a b c,¬ lt b a->¬ lt c b->¬ lt c a
 asymm:∀ a b,lt a b->¬ lt b a
section
variable {α : Type} {lt : α → α → Prop}
def Heap(lt:α->α->Prop)(ys:List α):Prop:=∀ j,0<j->∀ a b,ys[j]? = some a->ys[(j - 1) / 2]? = some b->¬ lt a b
def HeapX(lt:α->α->Prop)(ys:List α)(i:Nat):Prop:=
 (∀ j,0<j->j ≠ i->∀ a b,ys[j]? = some a->ys[(j - 1) / 2]? = some b->¬ lt a b) /\
 ∀ j,0<j->(j - 1) / 2=i->0<i->∀ a b,ys[j]? = some a->ys[(i - 1) / 2]? = some b->¬ lt a b
def HeapD(lt:α->α->Prop)(ys:List α)(i:Nat):Prop:=
 (∀ j,0<j->(j - 1) / 2 ≠ i->∀ a b,ys[j]? = some a->ys[(j - 1) / 2]? = some b->¬ lt a b) /\
 ∀ j,0<j->(j - 1) / 2=i->0<i->∀ a b,ys[j]? = some a->ys[(i - 1) / 2]? = some b->¬ lt a b
def swp(ys:List α)(i j:Nat)(a b:α):List α:=(ys.set i b).set j a
theorem swp_get{ys:List α}{i j:Nat}{a b:α}(hi:ys[i]? = some a)(hj:ys[j]? = some b)(hne:i ≠ j)(k:Nat):(swp ys i j a b)[k]? = if k=j then some a else if k=i then some b else ys[k]?:=by
 have hil:=(gSm0.1 hi).1
 have hjl:=(gSm0.1 hj).1
 unfold swp
 by_cases h1:k=j
 . subst h1;rw[if_pos rfl,List.getElem?_set_self (by simpa using hjl)]
 . rw[if_neg h1,List.getElem?_set_ne (Ne.symm h1)]
   by_cases h2:k=i
   . subst h2;rw[if_pos rfl,List.getElem?_set_self hil]
   . rw[if_neg h2,List.getElem?_set_ne (Ne.symm h2)]
theorem swp_length(ys:List α)(i j:Nat)(a b:α):(swp ys i j a b).length=ys.length:=by simp[swp]
theorem set_perm{ys:List α}{i:Nat}{a b:α}(hi:ys[i]? = some a):(b :: ys).Perm (a :: ys.set i b):=by
 induction ys generalizing i with
 | nil=>simp at hi
 | cons y ys ih=>
  cases i with
  | zero=>simp at hi;subst hi;simpa using List.Perm.swap _ _ _
  | succ i=>
   simp only[List.getElem?_cons_succ] at hi
   simp only[List.set_cons_succ]
   exact (List.Perm.swap _ _ _).trans (((ih hi).cons y).trans (List.Perm.swap _ _ _))
theorem swp_perm{ys:List α}{i j:Nat}{a b:α}(hi:ys[i]? = some a)(hj:ys[j]? = some b)(hne:i ≠ j):(swp ys i j a b).Perm ys:=by
 have h1:=set_perm (b:=b) hi
 have hj':(ys.set i b)[j]? = some b:=by rw[List.getElem?_set_ne hne];exact hj
 have h2:=set_perm (b:=a) hj'
 -- b :: ys ~ a :: ys.set i b ~ b :: swp
 exact (List.perm_cons b).1 (h1.trans h2).symm
theorem heapX_snoc{ys:List α}(h:Heap lt ys)(x:α):HeapX lt (ys++[x]) ys.length:=by
 have hg:∀ j a,j ≠ ys.length->(ys++[x])[j]? = some a->ys[j]? = some a:=by
  intro j a hj ha
  rcases Nat.lt_or_ge j ys.length with hl|hl
  . rwa [List.getElem?_append_left hl] at ha
  . have:=(gSm0.1 ha).1
    simp at this;omega
 refine⟨fun j hj hne a b ha hb=>?_,fun j hj hp hi a b ha hb=>?_⟩
 . have hl:=(gSm0.1 ha).1
   simp at hl
   exact h j hj a b (hg _ _ hne ha) (hg _ _ (by omega) hb)
 . have hl:=(gSm0.1 ha).1
   simp at hl;omega
theorem heapX_zero{ys:List α}(h:HeapX lt ys 0):Heap lt ys:=fun j hj a b ha hb=>h.1 j hj (by omega) a b ha hb
theorem heapX_stop{ys:List α}{i:Nat}{a b:α}(h:HeapX lt ys i)(hi:ys[i]? = some a)(hu:ys[(i - 1) / 2]? = some b)(hn:¬ lt a b):Heap lt ys:=by
 intro j hj c d hc hd
 by_cases hji:j=i
 . subst hji
   rw[hi] at hc;rw[hu] at hd
   cases hc;cases hd
   exact hn
 . exact h.1 j hj hji c d hc hd
theorem heapX_up(ho:Swo lt){ys:List α}{i:Nat}{a b:α}(h:HeapX lt ys i)(h0:0<i)(hi:ys[i]? = some a)(hu:ys[(i - 1) / 2]? = some b)(hl:lt a b):HeapX lt (swp ys i ((i - 1) / 2) a b) ((i - 1) / 2):=by
 have hne:i ≠ (i - 1) / 2:=by omega
 have hg:=swp_get hi hu hne
 refine⟨fun j hj hju c d hc hd=>?_,fun j hj hp hu0 c d hc hd=>?_⟩
 . rw[hg] at hc hd
   rw[if_neg hju] at hc
   by_cases hji:j=i
   . subst hji
     rw[if_pos rfl] at hc;rw[if_pos rfl] at hd
     cases hc;cases hd
     exact ho.asymm _ _ hl
   . rw[if_neg hji] at hc
     by_cases hpu:(j - 1) / 2=(i - 1) / 2
     . rw[if_pos hpu] at hd
       cases hd
       have h1:¬ lt c b:=h.1 j hj hji c b hc (by rw[hpu];exact hu)
       -- c not below b,a below b
       exact ho.trans _ _ _ (ho.asymm _ _ hl) h1
     . rw[if_neg hpu] at hd
       by_cases hpi:(j - 1) / 2=i
       . rw[if_pos hpi] at hd
         cases hd
         exact h.2 j hj hpi h0 c b hc hu
       . rw[if_neg hpi] at hd
         exact h.1 j hj hji c d hc hd
 . rw[hg] at hc hd
   rw[if_neg (by omega),if_neg (by omega)] at hd
   have hju:j ≠ (i - 1) / 2:=by omega
   rw[if_neg hju] at hc
   have hub:¬ lt b d:=h.1 ((i - 1) / 2) hu0 (by omega) b d hu hd
   by_cases hji:j=i
   . subst hji
     rw[if_pos rfl] at hc
     cases hc
     exact hub
   . rw[if_neg hji] at hc
     have h1:¬ lt c b:=h.1 j hj hji c b hc (by rw[hp];exact hu)
     exact ho.trans _ _ _ hub h1
theorem heap_min(ho:Swo lt){ys:List α}(h:Heap lt ys){a:α}(h0:ys[0]? = some a):∀ (j:Nat) b,ys[j]? = some b->¬ lt b a:=by
 intro j
 induction j using Nat.strongRecOn with
 | _ j ih=>
  intro b hb
  by_cases hj:j=0
  . subst hj;rw[h0] at hb;cases hb;exact ho.irrefl _
  . have hl:=(gSm0.1 hb).1
    have hpl:(j - 1) / 2<ys.length:=by omega
    have hp:=gEt0 hpl
    exact ho.trans _ _ _ (ih ((j - 1) / 2) (by omega) _ hp) (h j (by omega) b _ hb hp)
theorem heapD_top{ys:List α}(h:Heap lt ys){l:Nat}(b:α):HeapD lt ((ys.set 0 b).take l) 0:=by
 refine⟨fun j hj hne c d hc hd=>?_,fun j hj hp h0=>absurd h0 (by omega)⟩
 have hjl:j<l:=by have:=(gSm0.1 hc).1;rw[List.length_take] at this;omega
 rw[List.getElem?_take_of_lt hjl,List.getElem?_set_ne (by omega)] at hc
 rw[List.getElem?_take_of_lt (by omega),List.getElem?_set_ne (by omega)] at hd
 exact h j hj c d hc hd
theorem top_perm{ys:List α}{a b:α}(h0:ys[0]? = some a)(hb:ys[ys.length - 1]? = some b):(a :: (ys.set 0 b).take (ys.length - 1)).Perm ys:=by
 cases ys with
 | nil=>simp at h0
 | cons y ys=>
  simp at h0
  subst h0
  simp only[List.length_cons,Nat.add_sub_cancel] at hb ⊢
  cases hn:ys.length with
  | zero=>have:=List.eq_nil_of_length_eq_zero hn;subst this;simp
  | succ n=>
   rw[hn] at hb
   simp only[List.getElem?_cons_succ] at hb
   simp only[List.set_cons_zero,List.take_succ_cons]
   have hy:ys=ys.take n++[b]:=by
    apply List.ext_getElem?
    intro k
    rcases Nat.lt_trichotomy k n with hk|hk|hk
    . rw[List.getElem?_append_left (by rw[List.length_take];omega),List.getElem?_take_of_lt hk]
    . subst hk
      rw[List.getElem?_append_right (by rw[List.length_take];omega),hb]
      simp[List.length_take,hn]
    . rw[List.getElem?_eq_none (by omega),List.getElem?_eq_none (by simp[List.length_take];omega)]
   have h1:(y :: b :: ys.take n).Perm (y :: (ys.take n++[b])):=List.Perm.cons _ (List.perm_append_singleton b _).symm
   rw[<- hy] at h1
   exact h1
theorem heapD_stop{ys:List α}{i:Nat}{a:α}(h:HeapD lt ys i)(hi:ys[i]? = some a)(hn:∀ (j:Nat) b,2*i+1<=j->j<=2*i+2->ys[j]? = some b->¬ lt b a):Heap lt ys:=by
 intro j hj c d hc hd
 by_cases hp:(j - 1) / 2=i
 . rw[hp,hi] at hd
   cases hd
   exact hn j c (by omega) (by omega) hc
 . exact h.1 j hj hp c d hc hd
theorem heapD_down(ho:Swo lt){ys:List α}{i k:Nat}{a b:α}(h:HeapD lt ys i)(hi:ys[i]? = some a)(hk:ys[k]? = some b)(h1:2*i+1<=k)(h2:k<=2*i+2)(hl:lt b a)
    (hn:∀ (j:Nat) c,2*i+1<=j->j<=2*i+2->ys[j]? = some c->¬ lt c b):HeapD lt (swp ys i k a b) k:=by
 have hg:=swp_get hi hk (by omega)
 refine⟨fun j hj hpk c d hc hd=>?_,fun j hj hpk hk0 c d hc hd=>?_⟩
 . rw[hg] at hc hd
   rw[if_neg hpk] at hd
   by_cases hpi:(j - 1) / 2=i
   . rw[if_pos hpi] at hd
     cases hd
     by_cases hjk:j=k
     . rw[if_pos hjk] at hc;cases hc;exact ho.asymm _ _ hl
     . rw[if_neg hjk,if_neg (by omega)] at hc
       exact hn j c (by omega) (by omega) hc
   . rw[if_neg hpi] at hd
     have hjk:j ≠ k:=by omega
     rw[if_neg hjk] at hc
     by_cases hji:j=i
     . rw[if_pos hji] at hc
       cases hc
       -- the old child b stands at i;its upper one is d
       subst hji
       exact h.2 k (by omega) (by omega) hj b d hk hd
     . rw[if_neg hji] at hc
       exact h.1 j hj hpi c d hc hd
 . rw[hg] at hc hd
   have hpi:(k - 1) / 2=i:=by omega
   rw[hpi,if_neg (by omega),if_pos rfl] at hd
   cases hd
   rw[if_neg (by omega),if_neg (by omega)] at hc
   exact h.1 j hj (by omega) c b hc (by rw[hpk];exact hk)
end
end Go.Vx.Hp
namespace Go.Proofs.YtnlingegeangmaaGreatDoor
open Go Go.Vx
structure Route where
 kind:Int
 value:Int
 len:Int
 out:Int
def Route.row(r:Route):List D:=[.i .i64 r.kind,.i .i64 r.value,.i .i64 r.len,.i .i64 r.out]
structure Num where
 r:Route
 at_:Int
def Num.row(r:Num):List D:=[.i .i64 r.r.kind,.i .i64 r.r.value,.i .i64 r.r.len,.i .i64 r.r.out,.i .i64 r.at_]
def firstP(r s:Num):Prop:=if r.r.len ≠ s.r.len then s.r.len<r.r.len else if r.r.value ≠ s.r.value then r.r.value<s.r.value else if r.r.kind ≠ s.r.kind then r.r.kind<s.r.kind else r.at_<s.at_
theorem first_spec(r s:Num):FSpec Tryz.prog T 114 [.agg [],.agg r.row,.agg s.row] (fun d _=>d = .b (firstP r s)):=by
 refine FSpec.of_ok tok Tryz.func114 rfl Tryz.call114 (by simp) ?_
 repeat' (first|refine Ok.seq ?_|((first|refine Ok.region tok ?_|refine Ok.cond ?_);conv=>whnf)|refine Ok.block ?_|((first|refine Ok.skip ?_|refine Ok.ret ?_);conv=>whnf)|(refine⟨fun _=>?_,fun _=>?_⟩)|fail)
 all_goals left
 all_goals (conv=>whnf)
 all_goals exact b_eq (by simp[firstP, *])
theorem idx_map{α:Type}(l:List α)(f:α->List D)(k:Nat)(h:k<l.length):(l.map f)[((k:Nat):Int).toNat]? = some (f l[k]):=by simp[h]
theorem first_swo:Hp.Swo firstP:=by
 refine⟨fun a=>?_,fun a b c=>?_,fun a b=>?_⟩
 . simp[firstP]
 . intro h1 h2
   unfold firstP at *
   split<;>split at h1<;>split at h2<;>(try split at h1)<;>(try split at h2)<;>(try split)<;>(try split at h1)<;>(try split at h2)<;>(try split)<;>omega
 . intro h1
   unfold firstP at *
   split<;>split at h1<;>(try split at h1)<;>(try split)<;>(try split at h1)<;>(try split)<;>omega
theorem map_at{α:Type}{l:List α}{f:α->List D}{k:Nat}{a:α}(h:l[k]? = some a):(l.map f)[k]? = some (f a):=by simp[h]
theorem half(i:Nat)(h:0<i):((i:Int) - 1).tdiv 2=(((i - 1) / 2:Nat):Int):=by
 rw[Int.tdiv_eq_ediv_of_nonneg (by omega)];omega
def numb(routes:List Route):List Num:=routes.zipIdx.map fun x=>⟨x.1,x.2⟩
theorem numb_take(routes:List Route)(k:Nat)(h:k<routes.length):(numb routes).take (k+1)=(numb routes).take k++[⟨routes[k],k⟩]:=by
 rw[List.take_succ_eq_append_getElem (by simpa[numb] using h)]
 simp[numb]
def z5:List D:=[.i .i64 0,.i .i64 0,.i .i64 0,.i .i64 0,.i .i64 0]
def ddF(acc:List Num)(r:Num):List Num:=match acc.getLast? with
 | some q=>if q.r.len=r.r.len/\q.r.value=r.r.value then acc else acc++[r]
 | none=>acc++[r]
theorem dd_len:∀ (ps:List Num),(ps.foldl ddF []).length<=ps.length:=by
 have key:∀ (ps acc:List Num),(ps.foldl ddF acc).length<=acc.length+ps.length:=by
  intro ps
  induction ps with
  | nil=>intro acc;simp
  | cons p ps ih=>
   intro acc
   have h1:(ddF acc p).length<=acc.length+1:=by
    unfold ddF
    split
    . split<;>simp
    . simp
   have:=ih (ddF acc p)
   simp only[List.foldl_cons,List.length_cons]
   omega
 intro ps
 simpa using key ps []
theorem order_spec(routes:List Route)(room:List (List D))(hlen:routes.length<=270):FSpec Tryz.prog T 65 [.lst 57 (routes.map Route.row) room]
    (fun d rows=>rows=[]/\∃ ps:List Num,ps.Perm (numb routes)/\ps.Pairwise (fun a b=>¬ firstP b a)/\d = .lst 130 ((ps.foldl ddF []).map Num.row) []):=by
 refine FSpec.of_ok tok Tryz.func65 rfl Tryz.call65 (by simp) ?_
 repeat' (first|refine Ok.seq ?_|(refine Ok.region tok ?_;conv=>whnf)|fail)
 left
 repeat' (first|refine Ok.seq ?_|(refine Ok.region tok ?_;conv=>whnf)|refine Ok.block ?_|fail)
 refine Ok.ghostB 0 0 130 rfl rfl ?_
 (conv=>whnf)
 refine Ok.loopK [0,3,12,13,14] 1 1 (fun x:Nat × List Num=>⟨[(0,.lst 57 (routes.map Route.row) room),(3,.bp 0 0),(12,.lst 57 (routes.map Route.row) room),(13,.i .i64 (routes.map Route.row).length),(14,.i .i64 (x.1:Nat))],
  [[.own 0 x.2.length,.fn 114 [.agg []] []]],[some (130,x.2.map Num.row)],65⟩) (fun x=>x.1<=routes.length/\x.2.Perm ((numb routes).take x.1)/\Hp.Heap firstP x.2) (fun x=>routes.length - x.1) (0,[]) ⟨Nat.zero_le _,by simp,fun j _ a b h=>by simp at h⟩ ?_ ?_
 . (conv=>whnf)
   rfl
 rintro⟨k,ys⟩ ⟨hk,hp,hh⟩
 dsimp only
 repeat' (first|refine Ok.seq ?_|((first|refine Ok.region tok ?_|refine Ok.cond ?_);conv=>whnf)|fail)
 refine⟨fun h1=>?_,fun h1=>?_⟩
 . have h1':k<routes.length:=by simpa using h1
   repeat' (first|refine Ok.seq ?_|(refine Ok.region tok ?_;conv=>whnf)|refine Ok.block ?_|(refine Ok.skip ?_;conv=>whnf)|fail)
   refine⟨by omega,_,idx_map _ _ _ h1',?_⟩
   (conv=>whnf)
   repeat' (first|(refine Ok.region tok ?_;conv=>whnf)|fail)
   right
   right
   left
   (conv=>whnf)
   refine⟨_,_,Tryz.func115,rfl,Tryz.call115,?_⟩
   (conv=>whnf)
   refine Ok.joinK [74,77,86,87,88] 1 1 (fun zs:List Num=>⟨[(74,.lst 57 (routes.map Route.row) room),(77,.bp 0 0),(86,.lst 57 (routes.map Route.row) room),(87,.i .i64 (routes.map Route.row).length),(88,.i .i64 (k:Nat))],
    [[.own 0 zs.length,.fn 114 [.agg []] []]],[some (130,zs.map Num.row)],74⟩) (fun e zs=>(e = .normal\/e = .ret)/\zs.Perm (ys++[⟨routes[k],k⟩])/\Hp.Heap firstP zs) ?_ ?_
   . repeat' (first|refine Ok.seq ?_|((first|refine Ok.region tok ?_|refine Ok.region_plan (id:=1) tok follows [(5,6,[]),(4,7,[]),(5,7,[6]),(6,7,[]),(4,10,[]),(5,10,[]),(6,10,[]),(7,10,[])] [.q 0,.q 1,.q 2,.q 3,.q 4,.q 5,.l 6,.l 7,.q 8,.q 9,.l 10] (by kernel_rfl) ?_);conv=>whnf)|fail)
     refine Alt2.l ⟨by simp,?_⟩
     (conv=>whnf)
     refine⟨by simp,_,.inl ⟨rfl,rfl⟩,?_⟩
     (conv=>whnf)
     have hyl:ys.length<=k:=by have:=hp.length_eq;simp[numb] at this;omega
     have hzl:(ys++[(⟨routes[k],k⟩:Num)]).length=ys.length+1:=by simp
     refine⟨by simp;omega,(ys++[(⟨routes[k],k⟩:Num)]).map Num.row,(ys++[(⟨routes[k],k⟩:Num)]).length,by simp[Num.row],by simp,?_⟩
     (conv=>whnf)
     generalize hz:ys++[(⟨routes[k],k⟩:Num)]=zs at hzl ⊢
     repeat' (first|refine Ok.seq ?_|(refine Ok.region tok ?_;conv=>whnf)|refine Ok.block ?_|(refine nI ?_;conv=>whnf)|fail)
     refine Ok.loopK [0,4,74,77,86,87,88] 1 1 (fun x:Nat × List Num=>⟨[(0,.bp 0 0),(4,.i .i64 (x.1:Nat)),(74,.lst 57 (routes.map Route.row) room),(77,.bp 0 0),(86,.lst 57 (routes.map Route.row) room),(87,.i .i64 (routes.map Route.row).length),(88,.i .i64 (k:Nat))],
      [[.own 0 x.2.length,.fn 114 [.agg []] []]],[some (130,x.2.map Num.row)],74⟩) (fun x=>x.1<x.2.length/\x.2.length<=k+1/\x.2.Perm zs/\Hp.HeapX firstP x.2 x.1) (fun x=>x.1) (ys.length,zs) ⟨by dsimp only;omega,by dsimp only;omega,.refl _,by rw[<- hz];exact Hp.heapX_snoc hh _⟩ ?_ ?_
     . (conv=>whnf)
       have e1:((zs.length:Int) - 1)=(ys.length:Nat):=by omega
       simp[e1]
     rintro⟨i,us⟩ ⟨hi,hul,hup,hux⟩
     dsimp only at hi hul hup hux ⊢
     repeat' (first|refine Ok.seq ?_|((first|refine Ok.region tok ?_|refine Ok.cond ?_);conv=>whnf)|fail)
     refine⟨fun h2=>?_,fun h2=>?_⟩
     . have h2':0<i:=by omega
       repeat' (first|refine Ok.seq ?_|(refine Ok.region tok ?_;conv=>whnf)|refine Ok.block ?_|((first|refine Ok.skip ?_|refine nI ?_);conv=>whnf)|fail)
       refine⟨by decide,?_⟩
       obtain⟨u,hu⟩:∃ u,u=(i - 1) / 2:=⟨_,rfl⟩
       rw[half i h2',<- hu]
       refine nI ?_
       (conv=>whnf)
       obtain⟨a,ha⟩:∃ a,us[i]? = some a:=⟨_,gEt0 hi⟩
       obtain⟨b,hb⟩:∃ b,us[u]? = some b:=⟨_,gEt0 (by omega)⟩
       repeat' (first|refine Ok.seq ?_|(refine Ok.region_draw tok follows (by kernel_rfl) ?_;conv=>whnf)|fail)
       refine⟨by omega,by omega,by simp,?_⟩
       repeat' (first|fail)
       refine⟨rfl,_,map_at ha,?_⟩
       (conv=>whnf)
       refine⟨by omega,by omega,by simp,?_⟩
       (conv=>whnf)
       refine⟨rfl,_,map_at hb,?_⟩
       (conv=>whnf)
       refine⟨_,first_spec a b,rfl,?_⟩
       (conv=>whnf)
       repeat' (first|(refine Ok.cond ?_;conv=>whnf)|fail)
       refine⟨fun h3=>?_,fun h3=>?_⟩
       . repeat' (first|(refine Ok.ret ?_;conv=>whnf)|fail)
         refine⟨us,⟨.inr rfl,hup,Hp.heapX_stop hux ha (by rw[<- hu];exact hb) h3⟩,?_⟩
         (conv=>whnf)
       . have h3:firstP a b:=Classical.not_not.1 h3
         have hne:i ≠ u:=by omega
         have hb':(us.set i b)[u]? = some b:=by rw[List.getElem?_set_ne hne];exact hb
         repeat' (first|refine Ok.seq ?_|((first|refine Ok.region_plan (id:=6) tok follows [(3,25,[]),(8,25,[]),(13,25,[]),(16,25,[]),(20,25,[]),(23,25,[]),(3,27,[]),(8,27,[]),(13,27,[]),(16,27,[]),(20,27,[]),(23,27,[]),(25,27,[])] [.q 0,.q 1,.q 2,.q 3,.q 4,.q 5,.q 6,.q 7,.q 8,.q 9,.q 10,.q 11,.q 12,.q 13,.q 14,.q 15,.q 16,.q 17,.q 18,.q 19,.q 20,.q 21,.q 22,.q 23,.q 24,.l 25,.q 26,.l 27] (by kernel_rfl) ?_|refine Ok.skip ?_);conv=>whnf)|fail)
         refine⟨by omega,by omega,by simp,?_⟩
         (conv=>whnf)
         refine⟨rfl,_,map_at hb,?_⟩
         (conv=>whnf)
         refine⟨by omega,by omega,by simp,?_⟩
         (conv=>whnf)
         refine⟨rfl,_,map_at ha,?_⟩
         (conv=>whnf)
         refine⟨by omega,by omega,by simp,?_⟩
         (conv=>whnf)
         refine⟨_,map_at ha,by simp[Num.row],(us.set i b).map Num.row,by simp[setCells,Num.row,List.map_set],?_⟩
         (conv=>whnf)
         refine⟨by omega,by omega,by simp,?_⟩
         (conv=>whnf)
         refine⟨_,map_at hb',by simp[Num.row],(Hp.swp us i (u) a b).map Num.row,by simp[setCells,Num.row,List.map_set,Hp.swp],?_⟩
         (conv=>whnf)
         repeat' (first|(refine Ok.region tok ?_;conv=>whnf)|fail)
         refine⟨(u,Hp.swp us i (u) a b),by dsimp only;omega,⟨by rw[Hp.swp_length];dsimp only;omega,by rw[Hp.swp_length];exact hul,(Hp.swp_perm ha hb hne).trans hup,by rw[hu] at hb ⊢;exact Hp.heapX_up first_swo hux h2' ha hb h3⟩,?_⟩
         (conv=>whnf)
         simp[Hp.swp_length]
     . repeat' (first|(refine Ok.exit ?_;conv=>whnf)|fail)
       have hi0:i=0:=by omega
       subst hi0
       refine⟨us,⟨.inl rfl,hup,Hp.heapX_zero hux⟩,?_⟩
       (conv=>whnf)
   . rintro e zs ⟨he,hp2,hh2⟩
     have hzl:zs.length=ys.length+1:=by rw[hp2.length_eq];simp
     rcases he with rfl|rfl
     all_goals
      (conv=>whnf)
      repeat' (first|((first|refine Ok.region tok ?_|refine nI ?_);conv=>whnf)|fail)
      refine⟨(k+1,zs),by dsimp only;omega,⟨by dsimp only;omega,?_,hh2⟩,?_⟩
      . dsimp only at hp ⊢
        rw[numb_take _ _ h1']
        exact hp2.trans (hp.append_right _)
      . (conv=>whnf)
        simp
 . have hkk:k=routes.length:=by simp at h1;dsimp only at hk;omega
   subst hkk
   repeat' (first|refine Ok.seq ?_|(refine Ok.region tok ?_;conv=>whnf)|refine Ok.block ?_|(refine Ok.exit ?_;conv=>whnf)|fail)
   refine Ok.ghost 6 130 rfl ?_
   (conv=>whnf)
   have hn0:(numb routes).length=routes.length:=by simp[numb]
   dsimp only at hp hh
   rw[tkL0 (by omega)] at hp
   refine Ok.loopK [3,6,25,26] 2 1 (fun x:List Num × List Num=>⟨[(3,.bp 0 0),(6,.own 1 (x.2.foldl ddF []).length),(25,.i .i64 (routes.map Route.row).length),(26,.i .i64 (x.2.length:Nat))],
    [[.own 0 x.1.length,.fn 114 [.agg []] []]],[some (130,x.1.map Num.row),some (130,(x.2.foldl ddF []).map Num.row)],65⟩) (fun x=>(x.2++x.1).Perm (numb routes)/\x.2.Pairwise (fun a b=>¬ firstP b a)/\(∀ a ∈ x.2,∀ b ∈ x.1,¬ firstP b a)/\Hp.Heap firstP x.1)
    (fun x=>x.1.length) (ys,[]) ⟨by simpa using hp,by simp,by simp,hh⟩ ?_ ?_
   . (conv=>whnf);all_goals (first|rfl|simp)
   rintro⟨us,ps⟩ ⟨hq,hs,hm,hu⟩
   dsimp only at hq hs hm hu ⊢
   have hql:ps.length+us.length=routes.length:=by have:=hq.length_eq;simp[numb] at this;omega
   repeat' (first|refine Ok.seq ?_|((first|refine Ok.region tok ?_|refine Ok.cond ?_);conv=>whnf)|fail)
   refine⟨fun h2=>?_,fun h2=>?_⟩
   . have hul:0<us.length:=by simp at h2;omega
     repeat' (first|refine Ok.seq ?_|(refine Ok.region tok ?_;conv=>whnf)|refine Ok.block ?_|(refine Ok.skip ?_;conv=>whnf)|fail)
     right
     right
     left
     (conv=>whnf)
     refine⟨_,_,Tryz.func116,rfl,Tryz.call116,?_⟩
     (conv=>whnf)
     refine Ok.joinK [2,111,114,133,134] 2 2 (fun x:Num × List Num=>⟨[(2,.bp 1 0),(111,.bp 0 0),(114,.own 1 (ps.foldl ddF []).length),(133,.i .i64 (routes.map Route.row).length),(134,.i .i64 (ps.length:Nat))],
      [[.own 0 x.2.length,.fn 114 [.agg []] []],x.1.row],[some (130,x.2.map Num.row),some (130,(ps.foldl ddF []).map Num.row)],108⟩) (fun e x=>e = .ret/\(x.1 :: x.2).Perm us/\(∀ b ∈ us,¬ firstP b x.1)/\Hp.Heap firstP x.2) ?_ ?_
     . obtain⟨a,ha⟩:∃ a,us[0]? = some a:=⟨_,gEt0 hul⟩
       obtain⟨b,hb⟩:∃ b,us[us.length - 1]? = some b:=⟨_,gEt0 (by omega)⟩
       repeat' (first|refine Ok.seq ?_|((first|refine Ok.region tok ?_|refine Ok.region_plan (id:=1) tok follows [(3,13,[]),(5,13,[]),(12,13,[])] [.q 0,.q 1,.q 2,.q 3,.q 4,.q 5,.q 6,.q 7,.q 8,.q 9,.q 10,.q 11,.l 12,.l 13,.q 14] (by kernel_rfl) ?_);conv=>whnf)|fail)
       refine⟨by omega,by omega,by simp,?_⟩
       (conv=>whnf)
       refine⟨rfl,_,map_at ha,?_⟩
       (conv=>whnf)
       repeat' (first|refine Ok.seq ?_|((first|refine Ok.region_plan (id:=2) tok follows [(3,12,[]),(7,12,[]),(10,12,[])] [.q 0,.q 1,.q 2,.q 3,.q 4,.q 5,.q 6,.q 7,.q 8,.q 9,.q 10,.q 11,.l 12] (by kernel_rfl) ?_|refine nI ?_);conv=>whnf)|fail)
       refine⟨by omega,by omega,by simp,?_⟩
       (conv=>whnf)
       have e1:((us.length:Int) - 1).toNat=us.length - 1:=by omega
       refine⟨rfl,_,map_at (by rw[e1];exact hb),?_⟩
       (conv=>whnf)
       refine⟨by omega,by omega,by simp,?_⟩
       (conv=>whnf)
       refine⟨_,map_at ha,by simp[Num.row],(us.set 0 b).map Num.row,by simp[setCells,Num.row,List.map_set],?_⟩
       (conv=>whnf)
       repeat' (first|refine Ok.seq ?_|(refine Ok.region tok ?_;conv=>whnf)|fail)
       refine⟨us.length - 1,rfl,by show ((us.length:Int) - 1)=_;omega,by simp,?_⟩
       (conv=>whnf)
       repeat' (first|refine Ok.seq ?_|(refine Ok.region tok ?_;conv=>whnf)|refine Ok.block ?_|fail)
       obtain⟨vs,hvs⟩:∃ vs,vs=(us.set 0 b).take (us.length - 1):=⟨_,rfl⟩
       have hvl:vs.length=us.length - 1:=by rw[hvs];simp
       have hvp:(a :: vs).Perm us:=by rw[hvs];exact Hp.top_perm ha hb
       have hvd:Hp.HeapD firstP vs 0:=by rw[hvs];exact Hp.heapD_top hu b
       have hmin:∀ c ∈ us,¬ firstP c a:=fun c hc=>let ⟨j,hj⟩:=List.getElem?_of_mem hc;Hp.heap_min first_swo hu ha j c hj
       refine Ok.trunc 0 0 0 rfl rfl rfl (vs.map Num.row) (by rw[hvs];simp[List.map_take]) ?_
       (conv=>whnf)
       refine Ok.loopK [0,2,3,4,5,111,114,133,134] 2 3 (fun x:Nat × List Num=>⟨[(0,.bp 0 0),(2,.bp 1 0),(3,.bp 2 0),(4,.i .i64 ((us.length:Int) - 1)),(5,.i .i64 (x.1:Nat)),(111,.bp 0 0),(114,.own 1 (ps.foldl ddF []).length),(133,.i .i64 (routes.map Route.row).length),(134,.i .i64 (ps.length:Nat))],
        [[.own 0 (us.length - 1),.fn 114 [.agg []] []],z5,a.row],[some (130,x.2.map Num.row),some (130,(ps.foldl ddF []).map Num.row)],108⟩) (fun x=>x.2.Perm vs/\Hp.HeapD firstP x.2 x.1/\(x.1<x.2.length\/x.1=0)) (fun x=>vs.length - x.1) (0,vs) ⟨.refl _,hvd,.inr rfl⟩ ?_ ?_
       . (conv=>whnf);all_goals (first|rfl|simp)
       rintro⟨i,xs⟩ ⟨hxp,hxd,hxi⟩
       dsimp only at hxp hxd hxi ⊢
       have hxl:xs.length=us.length - 1:=by rw[hxp.length_eq,hvl]
       have hps:routes.length<=270:=hlen
       refine Ok.block ?_
       refine Ok.seq ?_
       refine Ok.region tok ?_
       (conv=>whnf)
       refine Ok.seqK [0,2,3,4,5,6,111,114,133,134] 2 3 (fun x:Nat=>⟨[(0,.bp 0 0),(2,.bp 1 0),(3,.bp 2 0),(4,.i .i64 ((us.length:Int) - 1)),(5,.i .i64 (i:Nat)),(6,.i .i64 (x:Nat)),(111,.bp 0 0),(114,.own 1 (ps.foldl ddF []).length),(133,.i .i64 (routes.map Route.row).length),(134,.i .i64 (ps.length:Nat))],
        [[.own 0 (us.length - 1),.fn 114 [.agg []] []],z5,a.row],[some (130,xs.map Num.row),some (130,(ps.foldl ddF []).map Num.row)],108⟩)
        (fun x=>(x=i\/2*i+1<=x/\x<=2*i+2/\x<xs.length/\∀ c d,xs[i]? = some c->xs[x]? = some d->firstP d c)/\∀ j c d,2*i+1<=j->j<=2*i+2->xs[j]? = some c->xs[x]? = some d->¬ firstP c d) ?_ ?_
       . repeat' (first|refine Ok.seq ?_|(refine Ok.region tok ?_;conv=>whnf)|refine Ok.block ?_|(refine nI ?_;conv=>whnf)|fail)
         refine Ok.loopK [0,2,3,4,5,6,7,111,114,133,134] 2 3 (fun x:Nat × Nat=>⟨[(0,.bp 0 0),(2,.bp 1 0),(3,.bp 2 0),(4,.i .i64 ((us.length:Int) - 1)),(5,.i .i64 (i:Nat)),(6,.i .i64 (x.1:Nat)),(7,.i .i64 (x.2:Nat)),(111,.bp 0 0),(114,.own 1 (ps.foldl ddF []).length),(133,.i .i64 (routes.map Route.row).length),(134,.i .i64 (ps.length:Nat))],
          [[.own 0 (us.length - 1),.fn 114 [.agg []] []],z5,a.row],[some (130,xs.map Num.row),some (130,(ps.foldl ddF []).map Num.row)],108⟩)
          (fun x=>2*i+1<=x.2/\x.2<=2*i+3/\(x.1=i\/2*i+1<=x.1/\x.1<x.2/\x.1<xs.length/\∀ c d,xs[i]? = some c->xs[x.1]? = some d->firstP d c)/\∀ j c d,2*i+1<=j->j<x.2->xs[j]? = some c->xs[x.1]? = some d->¬ firstP c d)
          (fun x=>2*i+3 - x.2) (i,2*i+1) ⟨by dsimp only;omega,by dsimp only;omega,.inl rfl,fun j c d h1 h2=>absurd h2 (by dsimp only;omega)⟩ ?_ ?_
         . (conv=>whnf);all_goals (first|rfl|simp)
         rintro⟨x,y⟩ ⟨hy1,hy2,hx1,hx2⟩
         dsimp only at hy1 hy2 hx1 hx2 ⊢
         repeat' (first|refine Ok.seq ?_|((first|refine Ok.region tok ?_|refine nI ?_);conv=>whnf)|fail)
         refine⟨fun h3=>?_,fun h3=>?_⟩
         . repeat' (first|(refine Ok.cond ?_;conv=>whnf)|fail)
           refine⟨fun h4=>?_,fun h4=>?_⟩
           . have hyl:y<xs.length:=by omega
             have hxl2:x<xs.length:=by omega
             obtain⟨c,hc⟩:∃ c,xs[y]? = some c:=⟨_,gEt0 hyl⟩
             obtain⟨d,hd⟩:∃ d,xs[x]? = some d:=⟨_,gEt0 hxl2⟩
             repeat' (first|refine Ok.seq ?_|(refine Ok.region_draw tok follows (by kernel_rfl) ?_;conv=>whnf)|refine Ok.block ?_|(refine Ok.skip ?_;conv=>whnf)|fail)
             refine⟨by omega,by omega,by simp[hxl],?_⟩
             (conv=>whnf)
             refine⟨rfl,_,map_at hc,?_⟩
             (conv=>whnf)
             refine⟨by omega,by omega,by simp[hxl],?_⟩
             (conv=>whnf)
             refine⟨rfl,_,map_at hd,?_⟩
             (conv=>whnf)
             refine⟨_,first_spec c d,rfl,?_⟩
             (conv=>whnf)
             repeat' (first|(refine Ok.cond ?_;conv=>whnf)|fail)
             refine⟨fun h5=>?_,fun h5=>?_⟩
             . repeat' (first|((first|refine Ok.region tok ?_|refine nI ?_);conv=>whnf)|fail)
               refine⟨(y,y+1),by dsimp only;omega,⟨by dsimp only;omega,by dsimp only;omega,.inr ⟨hy1,by dsimp only;omega,hyl,fun e f he hf=>?_⟩,fun j e f h6 h7 he hf=>?_⟩,?_⟩
               . rw[hc] at hf
                 cases hf
                 rcases hx1 with rfl|⟨_,_,_,hx3⟩
                 . rw[hd] at he;cases he;exact h5
                 . exact Classical.byContradiction fun hn=>first_swo.trans _ _ _ (first_swo.asymm _ _ (hx3 e d he hd)) hn h5
               . rw[hc] at hf
                 cases hf
                 by_cases hj:j=y
                 . subst hj;rw[hc] at he;cases he;exact first_swo.irrefl _
                 . exact first_swo.trans _ _ _ (first_swo.asymm _ _ h5) (hx2 j e d h6 (by dsimp only at h7;omega) he hd)
               . (conv=>whnf);all_goals (first|rfl|simp)
             . repeat' (first|((first|refine Ok.region tok ?_|refine Ok.skip ?_|refine nI ?_);conv=>whnf)|fail)
               refine⟨(x,y+1),by dsimp only;omega,⟨by dsimp only;omega,by dsimp only;omega,?_,fun j e f h6 h7 he hf=>?_⟩,?_⟩
               . rcases hx1 with h|⟨h6,h7,h8,h9⟩
                 . exact .inl h
                 . exact .inr ⟨h6,by dsimp only;omega,h8,h9⟩
               . by_cases hj:j=y
                 . subst hj;rw[hc] at he;rw[hd] at hf;cases he;cases hf;exact h5
                 . exact hx2 j e f h6 (by dsimp only at h7;omega) he hf
               . (conv=>whnf);all_goals (first|rfl|simp)
           . repeat' (first|(refine Ok.exit ?_;conv=>whnf)|fail)
             refine⟨x,⟨?_,fun j e f h6 h7 he hf=>?_⟩,?_⟩
             . rcases hx1 with h|⟨h6,h7,h8,h9⟩
               . exact .inl h
               . exact .inr ⟨h6,by omega,h8,h9⟩
             . have:=(gSm0.1 he).1
               exact hx2 j e f h6 (by omega) he hf
             . (conv=>whnf);all_goals (first|rfl|simp)
         . repeat' (first|((first|refine Ok.cond ?_|refine Ok.exit ?_);conv=>whnf)|fail)
           refine⟨x,⟨?_,fun j e f h6 h7 he hf=>hx2 j e f h6 (by omega) he hf⟩,?_⟩
           . rcases hx1 with h|⟨h6,h7,h8,h9⟩
             . exact .inl h
             . exact .inr ⟨h6,by omega,h8,h9⟩
           . (conv=>whnf);all_goals (first|rfl|simp)
       . intro x ⟨hx1,hx2⟩
         repeat' (first|refine Ok.seq ?_|((first|refine Ok.region tok ?_|refine Ok.cond ?_);conv=>whnf)|fail)
         refine⟨fun h3=>?_,fun h3=>?_⟩
         . have h3':x=i:=by omega
           subst h3'
           repeat' (first|refine Ok.seq ?_|((first|refine Ok.region tok ?_|refine Ok.ret ?_);conv=>whnf)|fail)
           refine⟨(a,xs),⟨rfl,(hxp.cons a).trans hvp,hmin,?_⟩,?_⟩
           . by_cases hxl3:x<xs.length
             . obtain⟨c,hc⟩:∃ c,xs[x]? = some c:=⟨_,gEt0 hxl3⟩
               exact Hp.heapD_stop hxd hc fun j e h6 h7 he=>hx2 j e c h6 h7 he hc
             . intro j hj e f he hf
               have:=(gSm0.1 he).1
               dsimp only at this
               omega
           . (conv=>whnf)
             simp[hxl,Num.row]
         . have h3':x ≠ i:=by omega
           obtain⟨hx3,hx4,hx5,hx6⟩:=hx1.resolve_left h3'
           have hil:i<xs.length:=by omega
           obtain⟨c,hc⟩:∃ c,xs[i]? = some c:=⟨_,gEt0 hil⟩
           obtain⟨d,hd⟩:∃ d,xs[x]? = some d:=⟨_,gEt0 hx5⟩
           have hd':(xs.set i d)[x]? = some d:=by rw[List.getElem?_set_ne (Ne.symm h3')];exact hd
           repeat' (first|refine Ok.seq ?_|((first|refine Ok.region_plan (id:=13) tok follows [(3,25,[]),(8,25,[]),(13,25,[]),(16,25,[]),(20,25,[]),(23,25,[]),(3,27,[]),(8,27,[]),(13,27,[]),(16,27,[]),(20,27,[]),(23,27,[]),(25,27,[])] [.q 0,.q 1,.q 2,.q 3,.q 4,.q 5,.q 6,.q 7,.q 8,.q 9,.q 10,.q 11,.q 12,.q 13,.q 14,.q 15,.q 16,.q 17,.q 18,.q 19,.q 20,.q 21,.q 22,.q 23,.q 24,.l 25,.q 26,.l 27] (by kernel_rfl) ?_|refine Ok.skip ?_);conv=>whnf)|fail)
           refine⟨by omega,by omega,by simp[hxl],?_⟩
           (conv=>whnf)
           refine⟨rfl,_,map_at hd,?_⟩
           (conv=>whnf)
           refine⟨by omega,by omega,by simp[hxl],?_⟩
           (conv=>whnf)
           refine⟨rfl,_,map_at hc,?_⟩
           (conv=>whnf)
           refine⟨by omega,by omega,by simp[hxl],?_⟩
           (conv=>whnf)
           refine⟨_,map_at hc,by simp[Num.row],(xs.set i d).map Num.row,by simp[setCells,Num.row,List.map_set],?_⟩
           (conv=>whnf)
           refine⟨by omega,by omega,by simp[hxl],?_⟩
           (conv=>whnf)
           refine⟨_,map_at hd',by simp[Num.row],(Hp.swp xs i x c d).map Num.row,by simp[setCells,Num.row,List.map_set,Hp.swp],?_⟩
           (conv=>whnf)
           repeat' (first|(refine Ok.region tok ?_;conv=>whnf)|fail)
           refine⟨(x,Hp.swp xs i x c d),by dsimp only;omega,⟨(Hp.swp_perm hc hd (Ne.symm h3')).trans hxp,Hp.heapD_down first_swo hxd hc hd hx3 hx4 (hx6 c d hc hd) fun j e h6 h7 he=>hx2 j e d h6 h7 he hd,.inl (by rw[Hp.swp_length];exact hx5)⟩,?_⟩
           (conv=>whnf);all_goals (first|rfl|simp)
     . rintro e ⟨b,zs⟩ ⟨he,hp2,hmin2,hh2⟩
       dsimp only at hp2 hmin2 hh2 ⊢
       subst he
       have hsl:(b :: zs).length=us.length:=hp2.length_eq
       have hfold:(ps++[b]).foldl ddF []=ddF (ps.foldl ddF []) b:=by simp[List.foldl_append]
       have hol:(ps.foldl ddF []).length<=ps.length:=dd_len ps
       have hI:((ps++[b])++zs).Perm (numb routes)/\(ps++[b]).Pairwise (fun a b=>¬ firstP b a)/\(∀ a ∈ ps++[b],∀ c ∈ zs,¬ firstP c a)/\Hp.Heap firstP zs:=by
        have hbu:b ∈ us:=hp2.subset (List.mem_cons_self ..)
        refine⟨?_,?_,?_,hh2⟩
        . rw[List.append_assoc]
          exact (hp2.append_left ps).trans hq
        . rw[List.pairwise_append]
          exact⟨hs,by simp,fun c hc d hd=>by simp at hd;subst hd;exact hm c hc d hbu⟩
        . intro c hc d hd
          have hdu:d ∈ us:=hp2.subset (List.mem_cons_of_mem _ hd)
          rcases mAp0.1 hc with hc|hc
          . exact hm c hc d hdu
          . simp at hc;subst hc;exact hmin2 d hdu
       generalize ho:ps.foldl ddF []=o at hfold hol ⊢
       repeat' (first|refine Ok.seq ?_|((first|refine Ok.region tok ?_|refine Ok.region_draw tok follows (by kernel_rfl) ?_);conv=>whnf)|fail)
       refine⟨fun h5=>?_,fun h5=>?_⟩
       . obtain⟨q,hqe⟩:∃ q,o[o.length - 1]? = some q:=⟨_,gEt0 (by omega)⟩
         have e2:((o.length:Int) - 1).toNat=o.length - 1:=by omega
         have hdd0:ddF o b=if q.r.len=b.r.len/\q.r.value=b.r.value then o else o++[b]:=by
          unfold ddF
          rw[List.getLast?_eq_getElem?,hqe]
         repeat' (first|(refine nI ?_;conv=>whnf)|fail)
         refine⟨by omega,by omega,by simp,?_⟩
         (conv=>whnf)
         refine⟨rfl,_,map_at (by rw[e2];exact hqe),?_⟩
         (conv=>whnf)
         refine⟨fun h6=>?_,fun h6=>?_⟩
         . repeat' (first|(refine nI ?_;conv=>whnf)|fail)
           refine⟨by omega,by omega,by simp,?_⟩
           (conv=>whnf)
           refine⟨rfl,_,map_at (by rw[e2];exact hqe),?_⟩
           (conv=>whnf)
           repeat' (first|(refine Ok.cond ?_;conv=>whnf)|fail)
           refine⟨fun h7=>?_,fun h7=>?_⟩
           . have hdd:ddF o b=o:=by rw[hdd0,if_pos ⟨h6,h7⟩]
             repeat' (first|((first|refine Ok.region tok ?_|refine Ok.exit ?_|refine nI ?_);conv=>whnf)|fail)
             refine⟨(zs,ps++[b]),by dsimp only;simp at hsl;omega,hI,?_⟩
             (conv=>whnf)
             simp[hfold,hdd]
           . have hdd:ddF o b=o++[b]:=by rw[hdd0,if_neg (fun h=>h7 h.2)]
             repeat' (first|((first|refine Ok.region tok ?_|refine Ok.skip ?_);conv=>whnf)|fail)
             refine Alt2.l ⟨by simp,?_⟩
             (conv=>whnf)
             refine⟨by simp,_,.inl ⟨rfl,rfl⟩,?_⟩
             (conv=>whnf)
             refine⟨by simp;omega,(o++[b]).map Num.row,(o++[b]).length,by simp[Num.row],by simp,?_⟩
             (conv=>whnf)
             repeat' (first|((first|refine Ok.region tok ?_|refine nI ?_);conv=>whnf)|fail)
             refine⟨(zs,ps++[b]),by dsimp only;simp at hsl;omega,hI,?_⟩
             (conv=>whnf)
             simp[hfold,hdd]

         . have hdd:ddF o b=o++[b]:=by rw[hdd0,if_neg (fun h=>h6 h.1)]
           repeat' (first|((first|refine Ok.region tok ?_|refine Ok.cond ?_|refine Ok.skip ?_);conv=>whnf)|fail)
           refine Alt2.l ⟨by simp,?_⟩
           (conv=>whnf)
           refine⟨by simp,_,.inl ⟨rfl,rfl⟩,?_⟩
           (conv=>whnf)
           refine⟨by simp;omega,(o++[b]).map Num.row,(o++[b]).length,by simp[Num.row],by simp,?_⟩
           (conv=>whnf)
           repeat' (first|((first|refine Ok.region tok ?_|refine nI ?_);conv=>whnf)|fail)
           refine⟨(zs,ps++[b]),by dsimp only;simp at hsl;omega,hI,?_⟩
           (conv=>whnf)
           simp[hfold,hdd]

       . have hdd:ddF o b=o++[b]:=by
           have:o=[]:=List.eq_nil_of_length_eq_zero (by omega)
           subst this
           rfl
         repeat' (first|((first|refine Ok.region tok ?_|refine Ok.cond ?_|refine Ok.skip ?_);conv=>whnf)|fail)
         refine Alt2.l ⟨by simp,?_⟩
         (conv=>whnf)
         refine⟨by simp,_,.inl ⟨rfl,rfl⟩,?_⟩
         (conv=>whnf)
         refine⟨by simp;omega,(o++[b]).map Num.row,(o++[b]).length,by simp[Num.row],by simp,?_⟩
         (conv=>whnf)
         repeat' (first|((first|refine Ok.region tok ?_|refine nI ?_);conv=>whnf)|fail)
         refine⟨(zs,ps++[b]),by dsimp only;simp at hsl;omega,hI,?_⟩
         (conv=>whnf)
         simp[hfold,hdd]

   . repeat' (first|refine Ok.seq ?_|((first|refine Ok.region tok ?_|refine Ok.exit ?_|refine Ok.ret ?_);conv=>whnf)|fail)
     left
     (conv=>whnf)
     have hus:us=[]:=List.eq_nil_of_length_eq_zero (by simp at h2;omega)
     subst hus
     refine⟨rfl,ps,by simpa using hq,hs,?_⟩
     simp only[oneD]
     rw[tkL0 (by simp),List.drop_of_length_le (by simp)]
def okR(bits:Int)(r:Route):Prop:=1<=r.kind/\r.kind<=3/\0<=r.len/\r.len<=bits/\0<=r.out/\r.out<48/\0<=r.value/\r.value<2 ^ bits.toNat/\r.value % 2 ^ (bits - r.len).toNat=0
instance (bits:Int) (r:Route):Decidable (okR bits r):=by unfold okR;infer_instance
def checkE(bits:Int)(l:List Route):Int:=if 256<l.length then 2 else if bits<1\/32<bits then 1 else if ∀ r ∈ l,okR bits r then 0 else 80
theorem checkE_bad{bits:Int}{l:List Route}(h1:¬ 256<l.length)(h2:¬ bits<1)(h3:¬ 32<bits){r:Route}(hr:r ∈ l)(hn:¬ okR bits r):checkE bits l=80:=by
 unfold checkE
 rw[if_neg h1,if_neg (by omega),if_neg (fun h=>hn (h r hr))]
theorem pow_bd(k:Nat)(h:k<=32):(0:Int)<2 ^ k/\(2:Int) ^ k<=4294967296:=by
 refine⟨Int.pow_pos (by omega),?_⟩
 have:(2:Nat) ^ k<=2 ^ 32:=Nat.pow_le_pow_right (by omega) h
 have h2:((2 ^ k:Nat):Int)<=((2 ^ 32:Nat):Int):=by exact_mod_cast this
 simpa using h2
theorem shr_zero(v:Int)(k:Nat)(hv:0<=v):v.fdiv (2 ^ k)=0 ↔ v<2 ^ k:=by
 have hp:(0:Int)<2 ^ k:=Int.pow_pos (by omega)
 rw[Int.fdiv_eq_ediv_of_nonneg _ (by omega)]
 constructor
 . intro h
   have:=Int.lt_ediv_add_one_mul_self v hp
   rw[h] at this
   omega
 . intro h
   exact Int.ediv_eq_zero_of_lt hv h
theorem and_mask(v:Int)(k:Nat)(hk:k<=32)(h0:0<=v)(h1:v<4294967296):((BitVec.ofInt 64 v &&& BitVec.ofInt 64 (2 ^ k - 1)).toNat:Int)=v % 2 ^ k:=by
 obtain⟨n,rfl⟩:=Int.eq_ofNat_of_zero_le h0
 have hp:1<=2 ^ k:=Nat.one_le_two_pow
 have hk2:(2:Nat) ^ k<=2 ^ 32:=Nat.pow_le_pow_right (by omega) hk
 have e1:((2:Int) ^ k - 1)=((2 ^ k - 1:Nat):Int):=by rw[Int.natCast_sub hp];simp
 rw[e1,BitVec.ofInt_natCast,BitVec.ofInt_natCast,BitVec.toNat_and,BitVec.toNat_ofNat,BitVec.toNat_ofNat,Nat.mod_eq_of_lt (by omega),Nat.mod_eq_of_lt (by omega),Nat.and_two_pow_sub_one_eq_mod]
 simp
theorem mask_eq(bits:Int)(r:Route)(h1:bits<=32)(h2:0<=r.len)(h4:0<=r.value)(h5:r.value<2 ^ bits.toNat) :
    IntKind.i64.wrap ((BitVec.ofInt IntKind.i64.bits r.value &&& BitVec.ofInt IntKind.i64.bits (1*2 ^ min (bits - r.len).toNat IntKind.i64.bits - 1)).toNat:Int)=r.value % 2 ^ (bits - r.len).toNat:=by
 have hm2:min (bits - r.len).toNat IntKind.i64.bits=(bits - r.len).toNat:=by show min (bits - r.len).toNat 64=_;omega
 have hb:=pow_bd bits.toNat (by omega)
 rw[hm2,Int.one_mul]
 have e:=and_mask r.value (bits - r.len).toNat (by omega) h4 (by omega)
 show IntKind.i64.wrap ((BitVec.ofInt 64 r.value &&& BitVec.ofInt 64 (2 ^ (bits - r.len).toNat - 1)).toNat:Int)=_
 rw[e,IntKind.wrap_i64]
 have hp:(0:Int)<2 ^ (bits - r.len).toNat:=Int.pow_pos (by omega)
 have g1:=Int.emod_nonneg r.value (b:=2 ^ (bits - r.len).toNat) (by omega)
 have g2:r.value % 2 ^ (bits - r.len).toNat<=r.value:=by
  have k1:=Int.mul_ediv_add_emod r.value (2 ^ (bits - r.len).toNat)
  have k2:0<=2 ^ (bits - r.len).toNat*(r.value / 2 ^ (bits - r.len).toNat):=Int.mul_nonneg (by omega) (Int.ediv_nonneg h4 (by omega))
  omega
 omega
theorem check_spec(bits:Int)(l:List Route)(room:List (List D)):FSpec Tryz.prog T 64 [.i .i64 bits,.lst 57 (l.map Route.row) room] (fun d _=>d = .i .i64 (checkE bits l)):=by
 refine FSpec.of_ok tok Tryz.func64 rfl Tryz.call64 (by simp) ?_
 repeat' (first|refine Ok.seq ?_|((first|refine Ok.region tok ?_|refine Ok.cond ?_);conv=>whnf)|fail)
 refine⟨fun h1=>?_,fun h1=>?_⟩
 . repeat' (first|refine Ok.seq ?_|((first|refine Ok.region tok ?_|refine Ok.ret ?_);conv=>whnf)|fail)
   left
   (conv=>whnf)
   have:256<l.length:=by simp at h1;omega
   simp[oneD,checkE,this]
 have h1':¬ 256<l.length:=by simp at h1;omega
 repeat' (first|refine Ok.seq ?_|((first|refine Ok.region tok ?_|refine Ok.skip ?_);conv=>whnf)|fail)
 refine⟨fun h2=>?_,fun h2=>?_⟩
 . repeat' (first|refine Ok.seq ?_|((first|refine Ok.region tok ?_|refine Ok.cond ?_|refine Ok.ret ?_);conv=>whnf)|fail)
   left
   (conv=>whnf)
   simp[oneD,checkE,h1',h2]
 repeat' (first|(refine Ok.cond ?_;conv=>whnf)|fail)
 refine⟨fun h3=>?_,fun h3=>?_⟩
 . repeat' (first|refine Ok.seq ?_|((first|refine Ok.region tok ?_|refine Ok.ret ?_);conv=>whnf)|fail)
   left
   (conv=>whnf)
   simp[oneD,checkE,h1',h3]
 repeat' (first|refine Ok.seq ?_|(refine Ok.region tok ?_;conv=>whnf)|refine Ok.block ?_|(refine Ok.skip ?_;conv=>whnf)|fail)
 refine Ok.loopK [0,16,17,18] 0 0 (fun k:Nat=>⟨[(0,.i .i64 bits),(16,.lst 57 (l.map Route.row) room),(17,.i .i64 (l.map Route.row).length),(18,.i .i64 (k:Nat))],[],[],74⟩) (fun k=>k<=l.length/\∀ r ∈ l.take k,okR bits r) (fun k=>l.length - k) 0 ⟨Nat.zero_le _,by simp⟩ ?_ ?_
 . (conv=>whnf);all_goals (first|rfl|simp)
 rintro k ⟨hk,ha⟩
 repeat' (first|refine Ok.seq ?_|((first|refine Ok.region tok ?_|refine Ok.cond ?_);conv=>whnf)|fail)
 refine⟨fun h4=>?_,fun h4=>?_⟩
 . have h4':k<l.length:=by simpa using h4
   repeat' (first|refine Ok.seq ?_|(refine Ok.region tok ?_;conv=>whnf)|refine Ok.block ?_|(refine Ok.skip ?_;conv=>whnf)|fail)
   refine⟨by omega,_,idx_map _ _ _ h4',?_⟩
   (conv=>whnf)
   obtain⟨r,hr0⟩:∃ r,r=l[k]:=⟨_,rfl⟩
   have hrl:r ∈ l:=by rw[hr0];exact List.getElem_mem h4'
   rw[<- hr0]
   have hm:min bits.toNat IntKind.i64.bits=bits.toNat:=by show min bits.toNat 64=_;omega
   have hm2:0<=r.len->min (bits - r.len).toNat IntKind.i64.bits=(bits - r.len).toNat:=fun h=>by show min (bits - r.len).toNat 64=_;omega
   have hb:=pow_bd bits.toNat (by omega)
   have hb2:0<=r.len->(0:Int)<2 ^ min (bits - r.len).toNat IntKind.i64.bits/\(2:Int) ^ min (bits - r.len).toNat IntKind.i64.bits<=4294967296:=fun h=>by rw[hm2 h];exact pow_bd _ (by omega)
   have hbad:¬ okR bits r->checkE bits l=80:=checkE_bad h1' h2 h3 hrl
   repeat' (first|refine Ok.seq ?_|((first|refine Ok.region tok ?_|refine Ok.region_draw tok follows (by kernel_rfl) ?_|refine Ok.cond ?_|refine Ok.skip ?_|refine Ok.ret ?_|refine nI ?_);conv=>whnf)|(refine⟨fun _=>?_,fun _=>?_⟩)|((first|refine aJ ?_|refine num_any ?_);conv=>whnf)|fail)
   all_goals try (left;(conv=>whnf);rw[hbad (by intro h;unfold okR at h;omega)];rfl)
   . rename_i h
     rw[hm,ne_eq,shr_zero _ _ (by omega)] at h
     left
     (conv=>whnf)
     rw[hbad (by intro h;unfold okR at h;omega)]
     rfl
   . rename_i h6 h
     rw[hm,ne_eq,shr_zero _ _ (by omega)] at h6
     rw[mask_eq bits r (by omega) (by omega) (by omega) (by omega)] at h
     left
     (conv=>whnf)
     rw[hbad (fun h'=>h h'.2.2.2.2.2.2.2.2)]
     rfl
   . rename_i h6 h
     rw[hm,ne_eq,shr_zero _ _ (by omega)] at h6
     rw[mask_eq bits r (by omega) (by omega) (by omega) (by omega)] at h
     have hok:okR bits r:=⟨by omega,by omega,by omega,by omega,by omega,by omega,by omega,by omega,Classical.not_not.1 h⟩
     refine⟨k+1,by omega,⟨by omega,fun q hq=>?_⟩,?_⟩
     . rw[List.take_succ_eq_append_getElem h4'] at hq
       rcases mAp0.1 hq with hq|hq
       . exact ha q hq
       . simp at hq;rw[hq,<- hr0];exact hok
     . (conv=>whnf);all_goals (first|rfl|simp)
 . have hkk:k=l.length:=by simp at h4;omega
   subst hkk
   rw[List.take_length] at ha
   repeat' (first|refine Ok.seq ?_|((first|refine Ok.region tok ?_|refine Ok.exit ?_|refine Ok.ret ?_);conv=>whnf)|fail)
   left
   (conv=>whnf)
   unfold checkE
   rw[if_neg h1',if_neg (by omega),if_pos ha]
   rfl
end Go.Proofs.YtnlingegeangmaaGreatDoor
namespace Go.Proofs.YtnlingegeangmaaGreatDoor
open Go Go.Vx
def hasR(bits:Int)(r:Route)(v:Int):Prop:=v.fdiv (2 ^ (bits - r.len).toNat)=r.value.fdiv (2 ^ (bits - r.len).toNat)
theorem has_spec(bits:Int)(r:Route)(v:Int)(h0:bits<=32)(h1:0<=r.len)(h2:r.len<=bits):FSpec Tryz.prog T 66 [.i .i64 bits,.agg r.row,.i .i64 v] (fun d _=>d = .b (hasR bits r v)):=by
 have hm2:min (bits - r.len).toNat IntKind.i64.bits=(bits - r.len).toNat:=by show min (bits - r.len).toNat 64=_;omega
 refine FSpec.of_ok tok Tryz.func66 rfl Tryz.call66 (by simp) ?_
 repeat' (first|refine Ok.seq ?_|((first|refine Ok.region tok ?_|refine Ok.region_draw tok follows (by kernel_rfl) ?_|refine Ok.ret ?_|refine nI ?_|refine aJ ?_|refine num_any ?_);conv=>whnf)|fail)
 left
 (conv=>whnf)
 refine b_eq ?_
 rw[hm2]
 rfl
def mk(k:Int):Route:=⟨k,0,0,0⟩
def IsPick(bits:Int)(l:List Route)(v k:Int):Prop:=(k=-1/\∀ x ∈ numb l,¬ hasR bits x.r v)\/(∃ x ∈ numb l,x.at_=k/\hasR bits x.r v/\∀ y ∈ numb l,hasR bits y.r v->¬ firstP y x)
theorem first_tie{x y:Num}(h1:¬ firstP x y)(h2:¬ firstP y x):x.at_=y.at_:=by
 unfold firstP at *
 split at h1<;>split at h2<;>(try split at h1)<;>(try split at h2)<;>(try split at h1)<;>(try split at h2)<;>omega
theorem IsPick.uniq{bits:Int}{l:List Route}{v k k':Int}(h:IsPick bits l v k)(h':IsPick bits l v k'):k=k':=by
 rcases h with⟨rfl,h⟩|⟨x,hx,rfl,hh,hm⟩<;>rcases h' with⟨rfl,h'⟩|⟨y,hy,rfl,hh',hm'⟩
 . rfl
 . exact absurd hh' (h y hy)
 . exact absurd hh (h' x hx)
 . exact first_tie (hm' x hx hh) (hm y hy hh')
open Classical in
noncomputable def pick(bits:Int)(l:List Route)(v:Int):Int:=if h:∃ k,IsPick bits l v k then h.choose else 0
theorem pick_eq{bits:Int}{l:List Route}{v k:Int}(h:IsPick bits l v k):pick bits l v=k:=by
 unfold pick
 rw[dif_pos ⟨k,h⟩]
 exact (Exists.choose_spec (⟨k,h⟩:∃ k,IsPick bits l v k)).uniq h
def lookE(bits:Int)(l:List Route)(v:Int):Int:=if checkE bits l ≠ 0 then checkE bits l else if v<0\/2 ^ bits.toNat<=v then 1 else 0
noncomputable def lookK(bits:Int)(l:List Route)(v:Int):Int:=if lookE bits l v ≠ 0 then 0 else pick bits l v
theorem checkE_ok{bits:Int}{l:List Route}(h:checkE bits l=0):l.length<=256/\1<=bits/\bits<=32/\∀ r ∈ l,okR bits r:=by
 unfold checkE at h
 split at h
 . omega
 split at h
 . omega
 split at h
 . rename_i h1 h2 h3
   exact⟨by omega,by omega,by omega,h3⟩
 . omega
theorem dd_find(p:Num->Bool)(hp:∀ a b:Num,a.r.len=b.r.len->a.r.value=b.r.value->p a=p b):∀ (n:Nat) (ps:List Num),ps.length=n->(ps.foldl ddF []).find? p=ps.find? p:=by
 intro n
 induction n with
 | zero=>intro ps h;have:=List.eq_nil_of_length_eq_zero h;subst this;rfl
 | succ n ih=>
  intro ps h
  obtain⟨qs,b,rfl⟩:∃ qs b,ps=qs++[b]:=⟨ps.dropLast,ps.getLast (by intro e;subst e;simp at h),(List.dropLast_concat_getLast _).symm⟩
  have hq:=ih qs (by simpa using h)
  rw[List.foldl_append,List.foldl_cons,List.foldl_nil]
  generalize qs.foldl ddF []=o at hq ⊢
  have key:(o++[b]).find? p=(qs++[b]).find? p:=by rw[List.find?_append,List.find?_append,hq]
  unfold ddF
  split
  . rename_i q hl
    split
    . rename_i hqb
      rw[<- key,List.find?_append]
      cases ho:o.find? p with
      | some z=>rfl
      | none=>
       have hqm:q ∈ o:=List.mem_of_getLast? hl
       have h1:=List.find?_eq_none.1 ho q hqm
       have h2:p b=false:=by rw[<- hp q b hqb.1 hqb.2];simpa using h1
       simp[h2]
    . exact key
  . exact key
theorem numb_at(l:List Route)(k:Nat)(h:k<l.length):(⟨l[k],k⟩:Num) ∈ numb l:=by
 have:(numb l)[k]? = some ⟨l[k],k⟩:=by simp[numb,h]
 exact mOf0 this
theorem numb_mem{l:List Route}{x:Num}(h:x ∈ numb l):∃ k,∃ hk:k<l.length,x=⟨l[k],k⟩:=by
 obtain⟨k,hk⟩:=List.getElem?_of_mem h
 have hl:k<l.length:=by have:=(gSm0.1 hk).1;simpa[numb] using this
 refine⟨k,hl,?_⟩
 simp[numb,hl] at hk
 exact hk.symm
theorem dd_mem:∀ (ps acc:List Num) (x:Num),x ∈ ps.foldl ddF acc->x ∈ acc\/x ∈ ps
 | [],acc,x,h=>.inl h
 | p :: ps,acc,x,h=>by
  rcases dd_mem ps _ x h with h|h
  . unfold ddF at h
    have key:x ∈ acc++[p]->x ∈ acc\/x ∈ p :: ps:=fun h=>by
     rcases mAp0.1 h with h|h
     . exact .inl h
     . simp at h;simp[h]
    split at h
    . split at h
      . exact .inl h
      . exact key h
    . exact key h
  . exact .inr (List.mem_cons_of_mem _ h)
theorem find_pick{bits v:Int}{l:List Route}{ps:List Num}(hp:ps.Perm (numb l))(hs:ps.Pairwise (fun a b=>¬ firstP b a)) :
    (∀ x,((ps.foldl ddF []).find? fun x=>decide (v.fdiv (2 ^ (bits - x.r.len).toNat)=x.r.value.fdiv (2 ^ (bits - x.r.len).toNat)))=some x->IsPick bits l v x.at_) /\
    (((ps.foldl ddF []).find? fun x=>decide (v.fdiv (2 ^ (bits - x.r.len).toNat)=x.r.value.fdiv (2 ^ (bits - x.r.len).toNat)))=none->IsPick bits l v (-1)):=by
 rw[dd_find _ (fun a b h1 h2=>by simp only[h1,h2]) ps.length ps rfl]
 refine⟨fun x hx=>?_,fun hn=>.inl ⟨rfl,fun x hx hh=>?_⟩⟩
 . obtain⟨h1,us,ws,rfl,h2⟩:=List.find?_eq_some_iff_append.1 hx
   refine .inr ⟨x,hp.subset (by simp),rfl,by simpa[hasR] using h1,fun y hy hhy=>?_⟩
   have hy':=hp.symm.subset hy
   rcases mAp0.1 hy' with hy'|hy'
   . have:=h2 y hy'
     simp only[hasR] at hhy
     simp[hhy] at this
   . rcases List.mem_cons.1 hy' with rfl|hy'
     . exact first_swo.irrefl _
     . rw[List.pairwise_append] at hs
       exact (List.pairwise_cons.1 hs.2.1).1 y hy'
 . have:=List.find?_eq_none.1 hn x (hp.symm.subset hx)
   simp only[hasR] at hh
   simp[hh] at this
theorem Lookup_spec(bits v:Int)(l:List Route)(room:List (List D)):FSpec Tryz.prog T 18 [.i .i64 bits,.lst 57 (l.map Route.row) room,.i .i64 v] (fun d _=>d = .tup [.i .i64 (lookK bits l v),.i .i64 (lookE bits l v)]):=by
 refine FSpec.of_ok tok Tryz.func18 rfl Tryz.call18 (by simp) ?_
 (try (conv=>whnf));repeat' (first|refine Ok.seq ?_|((first|refine Ok.region tok ?_|refine Ok.cond ?_|refine Ok.skip ?_|refine Ok.ret ?_);conv=>whnf)|(refine Or.inl ?_;(conv=>whnf);(repeat (refine aI ?_;conv=>whnf));refine⟨_,check_spec bits l room,rfl,?_⟩;conv=>whnf)|(refine bI ?_ ?_<;>intro<;>(conv=>whnf)<;>(try (exfalso;omega)))|fail)
 . rename_i h1
   left
   (conv=>whnf)
   simp[oneD,lookK,lookE,h1]
 . rename_i h1 h2
   have h1:checkE bits l=0:=Classical.not_not.1 h1
   left
   (conv=>whnf)
   simp[oneD,lookK,lookE,h1,h2]
 rename_i h1 h2
 have h1:checkE bits l=0:=Classical.not_not.1 h1
 obtain⟨hl,hb1,hb2,hok⟩:=checkE_ok h1
 have hm:min bits.toNat IntKind.i64.bits=bits.toNat:=by show min bits.toNat 64=_;omega
 (try (conv=>whnf));repeat' (first|refine Ok.seq ?_|((first|refine Ok.region tok ?_|refine Ok.cond ?_|refine Ok.skip ?_|refine Ok.ret ?_);conv=>whnf)|(refine bI ?_ ?_<;>intro<;>(conv=>whnf)<;>(try (exfalso;omega)))|((first|refine aJ ?_|refine num_any ?_);conv=>whnf)|fail)
 . rename_i h3
   rw[hm,ne_eq,shr_zero _ _ (by omega)] at h3
   left
   (conv=>whnf)
   have:2 ^ bits.toNat<=v:=by omega
   simp[oneD,lookK,lookE,h1,this]
 rename_i h3
 rw[hm,ne_eq,shr_zero _ _ (by omega)] at h3
 have hE:lookE bits l v=0:=by unfold lookE;rw[if_neg (by omega),if_neg (by omega)]
 right
 left
 (conv=>whnf)
 refine⟨_,order_spec l room (by omega),?_⟩
 rintro d rows ⟨rfl,ps,hp,hs,rfl⟩
 obtain⟨hf1,hf2⟩:=find_pick (bits:=bits) (v:=v) hp hs
 have hmem:∀ x ∈ ps.foldl ddF [],okR bits x.r:=fun x hx=>by
  rcases dd_mem ps [] x hx with h|h
  . cases h
  . obtain⟨j,hj,rfl⟩:=numb_mem (hp.subset h)
    exact hok _ (List.getElem_mem hj)
 have hol2:(ps.foldl ddF []).length<=256:=by have:=dd_len ps;have:=hp.length_eq;simp[numb] at this;omega
 generalize ps.foldl ddF []=o at hf1 hf2 hmem hol2 ⊢
 have hol:(o.map Num.row).length=o.length:=by simp
 (try (conv=>whnf));repeat' (first|refine Ok.block ?_|fail)
 refine Ok.loopU [0,2,26,27] [28] 0 0 (fun (k:Nat)=>[.i .i64 (k:Nat)]) (fun _ b=>b) (fun _ r=>r) (fun (k:Nat)=>k<=o.length/\∀ x ∈ o.take k,¬ hasR bits x.r v) (fun (k:Nat)=>o.length - k) (0) (⟨Nat.zero_le _,by simp⟩) ?_;(conv=>whnf);refine⟨by ((conv=>whnf);first|rfl|(simp[envCat,tkL0];done)|(simp[envCat,tkL0];rw[IntKind.wrap_i64];omega)),?_⟩
 rintro k ⟨hk,ha⟩
 by_cases hkl:k<o.length
 . obtain⟨x,hx⟩:∃ x,o[k]? = some x:=⟨_,gEt0 hkl⟩
   have hxm:=hmem x (mOf0 hx)
   have hl1:=hxm.2.2.1
   have hl2:=hxm.2.2.2.1
   (try (conv=>whnf));repeat' (first|refine Ok.seq ?_|((first|refine Ok.region tok ?_|refine Ok.cond ?_);conv=>whnf)|refine Ok.block ?_|((first|refine Ok.skip ?_|refine Ok.ret ?_|refine nI ?_|refine ix _ (by assumption) ?_);conv=>whnf)|(refine Or.inl ?_;(conv=>whnf);(repeat (refine aI ?_;conv=>whnf));refine⟨_,has_spec bits x.r v hb2 hl1 hl2,rfl,?_⟩;conv=>whnf)|(refine bI ?_ ?_<;>intro<;>(conv=>whnf)<;>(try (exfalso;omega)))|fail)
   . rename_i hh
     refine Or.inl ?_;(conv=>whnf)
     have hfind:o.find? (fun x=>decide (v.fdiv (2 ^ (bits - x.r.len).toNat)=x.r.value.fdiv (2 ^ (bits - x.r.len).toNat)))=some x:=by
      refine List.find?_eq_some_iff_append.2 ⟨by simpa[hasR] using hh,o.take k,o.drop (k+1),?_,fun y hy=>by simpa[hasR] using ha y hy⟩
      have:=gSm0.1 hx
      rw[<- this.2,List.getElem_cons_drop,List.take_append_drop]
     simp[oneD,lookK,hE,pick_eq (hf1 x hfind)]
   . rename_i hh
     refine⟨k+1,by omega,⟨by omega,fun y hy=>?_⟩,?_⟩
     . rw[List.take_add_one,hx] at hy
       rcases mAp0.1 hy with hy|hy
       . exact ha y hy
       . simp at hy;rw[hy];exact hh
     . (conv=>whnf);(first|rfl|simp[envCat,tkL0])
 . have hkk:k=o.length:=by omega
   subst hkk
   (try (conv=>whnf));repeat' (first|refine Ok.seq ?_|((first|refine Ok.region tok ?_|refine Ok.cond ?_|refine Ok.exit ?_|refine Ok.ret ?_);conv=>whnf)|(refine bI ?_ ?_<;>intro<;>(conv=>whnf)<;>(try (exfalso;omega)))|fail)
   refine Or.inl ?_;(conv=>whnf)
   have hfind:o.find? (fun x=>decide (v.fdiv (2 ^ (bits - x.r.len).toNat)=x.r.value.fdiv (2 ^ (bits - x.r.len).toNat)))=none:=by
    rw[List.find?_eq_none]
    intro y hy
    simpa[hasR] using ha y (by simpa using hy)
   simp[oneD,lookK,hE,pick_eq (hf2 hfind)]
end Go.Proofs.YtnlingegeangmaaGreatDoor
namespace Go.Proofs.YtnlingegeangmaaGreatDoor
open Go Go.Vx
def samePre(a b:Num):Prop:=a.r.len=b.r.len/\a.r.value=b.r.value
def preLt(a b:Num):Prop:=b.r.len<a.r.len\/(a.r.len=b.r.len/\a.r.value<b.r.value)
theorem preLt_first{a b:Num}(h:preLt a b):firstP a b:=by
 unfold preLt at h
 unfold firstP
 rcases h with h|⟨h1,h2⟩
 . rw[if_pos (by omega)];exact h
 . rw[if_neg (by omega),if_pos (by omega)];exact h2
theorem pre_cases{a b:Num}(h:¬ firstP b a):preLt a b\/samePre a b:=by
 unfold firstP at h
 unfold preLt samePre
 split at h
 . omega
 split at h<;>omega
theorem preLt_same{a b c:Num}(h:preLt a c)(hs:samePre a b):preLt b c:=by unfold preLt samePre at *;omega
theorem preLt_irrefl{a b:Num}(h:preLt a b)(hs:samePre a b):False:=by unfold preLt samePre at *;omega
theorem preLt_asymm{a b:Num}(h:preLt a b)(h':preLt b a):False:=by unfold preLt at *;omega
theorem same_symm{a b:Num}(h:samePre a b):samePre b a:=⟨h.1.symm,h.2.symm⟩
theorem same_trans{a b c:Num}(h:samePre a b)(h':samePre b c):samePre a c:=⟨h.1.trans h'.1,h.2.trans h'.2⟩
structure IsOrd(l:List Route)(os:List Num):Prop where
 sorted:os.Pairwise preLt
 best:∀ x ∈ os,x ∈ numb l/\∀ y ∈ numb l,samePre y x->¬ firstP y x
 all:∀ y ∈ numb l,∃ x ∈ os,samePre y x
theorem numb_inj{l:List Route}{x y:Num}(hx:x ∈ numb l)(hy:y ∈ numb l)(h:x.at_=y.at_):x=y:=by
 obtain⟨i,hi,rfl⟩:=numb_mem hx
 obtain⟨j,hj,rfl⟩:=numb_mem hy
 have:i=j:=by simp only at h;omega
 subst this
 rfl
theorem sorted_ext{α:Type}{lt:α->α->Prop}(ha:∀ a b,lt a b->¬ lt b a):∀ {l m:List α},l.Pairwise lt->m.Pairwise lt->(∀ x,x ∈ l ↔ x ∈ m)->l=m
 | [],[],_,_,_=>rfl
 | [],b :: m,_,_,h=>by have:=(h b).2 (by simp);cases this
 | a :: l,[],_,_,h=>by have:=(h a).1 (by simp);cases this
 | a :: l,b :: m,h1,h2,h=>by
  rw[List.pairwise_cons] at h1 h2
  have hab:a=b:=by
   have m1:=(h a).1 (by simp)
   have m2:=(h b).2 (by simp)
   rcases List.mem_cons.1 m1 with e|m1
   . exact e
   . rcases List.mem_cons.1 m2 with e|m2
     . exact e.symm
     . exact absurd (h1.1 b m2) (ha _ _ (h2.1 a m1))
  subst hab
  congr 1
  refine sorted_ext ha h1.2 h2.2 fun x=>?_
  have irr:∀ x,¬ lt x x:=fun x h=>ha x x h h
  constructor
  . intro hx
    rcases List.mem_cons.1 ((h x).1 (by simp[hx])) with e|e
    . subst e;exact absurd (h1.1 _ hx) (irr _)
    . exact e
  . intro hx
    rcases List.mem_cons.1 ((h x).2 (by simp[hx])) with e|e
    . subst e;exact absurd (h2.1 _ hx) (irr _)
    . exact e
theorem IsOrd.sub{l:List Route}{os os':List Num}(h:IsOrd l os)(h':IsOrd l os'):∀ x,x ∈ os->x ∈ os':=by
 intro x hx
 obtain⟨hxl,hxb⟩:=h.best x hx
 obtain⟨y,hy,hxy⟩:=h'.all x hxl
 obtain⟨hyl,hyb⟩:=h'.best y hy
 have:=numb_inj hxl hyl (first_tie (hyb x hxl hxy) (hxb y hyl (same_symm hxy)))
 rw[this];exact hy
theorem IsOrd.uniq{l:List Route}{os os':List Num}(h:IsOrd l os)(h':IsOrd l os'):os=os':=
 sorted_ext (fun _ _=>preLt_asymm) h.sorted h'.sorted fun x=>⟨h.sub h' x,h'.sub h x⟩
open Classical in
noncomputable def ordF(l:List Route):List Route:=if h:∃ os,IsOrd l os then h.choose.map (·.r) else []
theorem ordF_eq{l:List Route}{os:List Num}(h:IsOrd l os):ordF l=os.map (·.r):=by
 unfold ordF
 rw[dif_pos ⟨os,h⟩,(Exists.choose_spec (⟨os,h⟩:∃ os,IsOrd l os)).uniq h]
structure DdInv(qs o:List Num):Prop where
 sorted:o.Pairwise preLt
 best:∀ x ∈ o,x ∈ qs/\∀ y ∈ qs,samePre y x->¬ firstP y x
 all:∀ y ∈ qs,∃ x ∈ o,samePre y x
theorem dd_step{qs o:List Num}{b:Num}(h:DdInv qs o)(hb:∀ a ∈ qs,¬ firstP b a):DdInv (qs++[b]) (ddF o b):=by
 have hin:∀ x ∈ o,x ∈ qs:=fun x hx=>(h.best x hx).1
 by_cases hex:∃ x ∈ o,samePre b x
 . have hddo:ddF o b=o:=by
     obtain⟨x,hx,hbx⟩:=hex
     unfold ddF
     cases hl:o.getLast? with
     | none=>rw[List.getLast?_eq_none_iff] at hl;subst hl;cases hx
     | some q=>
      have hq:=List.mem_of_getLast? hl
      have hqb:samePre q b:=by
       obtain⟨r,hr⟩:=List.getLast?_eq_some_iff.1 hl
       subst hr
       rcases mAp0.1 hx with hx1|hx1
       . have h1:=(List.pairwise_append.1 h.sorted).2.2 x hx1 q (by simp)
         exact absurd (preLt_first (preLt_same h1 (same_symm hbx))) (hb q (hin q hq))
       . simp at hx1
         subst hx1
         exact same_symm hbx
      simp only
      rw[if_pos ⟨hqb.1,hqb.2⟩]
   rw[hddo]
   refine⟨h.sorted,fun x hx=>⟨List.mem_append_left _ (hin x hx),fun y hy hyx=>?_⟩,fun y hy=>?_⟩
   . rcases mAp0.1 hy with hy|hy
     . exact (h.best x hx).2 y hy hyx
     . simp at hy;rw[hy];exact hb x (hin x hx)
   . rcases mAp0.1 hy with hy|hy
     . exact h.all y hy
     . simp at hy;subst hy;exact hex
 . have hno:∀ x ∈ o,¬ samePre b x:=fun x hx hs=>hex ⟨x,hx,hs⟩
   have hddo:ddF o b=o++[b]:=by
    unfold ddF
    cases hl:o.getLast? with
    | none=>rfl
    | some q=>
     simp only
     exact if_neg (fun hh=>hno q (List.mem_of_getLast? hl) (same_symm hh))
   rw[hddo]
   have hlt:∀ x ∈ o,preLt x b:=fun x hx=>(pre_cases (hb x (hin x hx))).resolve_right fun hs=>hno x hx (same_symm hs)
   refine⟨List.pairwise_append.2 ⟨h.sorted,by simp,fun x hx y hy=>by simp at hy;subst hy;exact hlt x hx⟩,fun x hx=>?_,fun y hy=>?_⟩
   . rcases mAp0.1 hx with hx|hx
     . refine⟨List.mem_append_left _ (hin x hx),fun y hy hyx=>?_⟩
       rcases mAp0.1 hy with hy|hy
       . exact (h.best x hx).2 y hy hyx
       . simp at hy;rw[hy];exact hb x (hin x hx)
     . simp at hx
       subst hx
       refine⟨by simp,fun y hy hyx=>?_⟩
       rcases mAp0.1 hy with hy|hy
       . obtain⟨z,hz,hyz⟩:=h.all y hy
         exact absurd (same_trans (same_symm hyx) hyz) (hno z hz)
       . simp at hy;subst hy;exact first_swo.irrefl _
   . rcases mAp0.1 hy with hy|hy
     . obtain⟨z,hz,hyz⟩:=h.all y hy
       exact⟨z,List.mem_append_left _ hz,hyz⟩
     . simp at hy;subst hy;exact⟨_,by simp,rfl,rfl⟩
theorem dd_inv:∀ (n:Nat) (ps:List Num),ps.length=n->ps.Pairwise (fun a b=>¬ firstP b a)->DdInv ps (ps.foldl ddF [])
 | 0,ps,h,_=>by
  have:=List.eq_nil_of_length_eq_zero h
  subst this
  exact⟨by simp,by simp,by simp⟩
 | n+1,ps,h,hs=>by
  obtain⟨qs,b,rfl⟩:∃ qs b,ps=qs++[b]:=⟨ps.dropLast,ps.getLast (by intro e;subst e;simp at h),(List.dropLast_concat_getLast _).symm⟩
  rw[List.pairwise_append] at hs
  rw[List.foldl_append]
  exact dd_step (dd_inv n qs (by simpa using h) hs.1) fun a ha=>hs.2.2 a ha b (by simp)
theorem dd_ord{l:List Route}{ps:List Num}(hp:ps.Perm (numb l))(hs:ps.Pairwise (fun a b=>¬ firstP b a)):IsOrd l (ps.foldl ddF []):=by
 have h:=dd_inv _ ps rfl hs
 exact⟨h.sorted,fun x hx=>⟨hp.subset (h.best x hx).1,fun y hy=>(h.best x hx).2 y (hp.symm.subset hy)⟩,fun y hy=>h.all y (hp.symm.subset hy)⟩
noncomputable def ordE(bits:Int)(l:List Route):List Route:=if checkE bits l ≠ 0 then [] else ordF l
theorem Order_spec(bits:Int)(l:List Route)(room:List (List D)):FSpec Tryz.prog T 38 [.i .i64 bits,.lst 57 (l.map Route.row) room] (fun d rows=>rows=[some (57,(ordE bits l).map Route.row)]/\d = .tup [.own 0 (ordE bits l).length,.i .i64 (checkE bits l)]):=by
 refine FSpec.of_ok tok Tryz.func38 rfl Tryz.call38 (by simp) ?_
 (try (conv=>whnf));repeat' (first|refine Ok.seq ?_|((first|refine Ok.region tok ?_|refine Ok.cond ?_|refine Ok.skip ?_|refine Ok.ret ?_);conv=>whnf)|(refine Or.inl ?_;(conv=>whnf);(repeat (refine aI ?_;conv=>whnf));refine⟨_,check_spec bits l room,rfl,?_⟩;conv=>whnf)|(refine bI ?_ ?_<;>intro<;>(conv=>whnf)<;>(try (exfalso;omega)))|fail)
 . rename_i h1
   refine Or.inr (Or.inr ?_);(conv=>whnf)
   simp[oneD,ordE,h1]
 rename_i h1
 have h1:checkE bits l=0:=Classical.not_not.1 h1
 obtain⟨hl,hb1,hb2,hok⟩:=checkE_ok h1
 right
 left
 (conv=>whnf)
 refine⟨_,order_spec l room (by omega),?_⟩
 rintro d rows ⟨rfl,ps,hp,hs,rfl⟩
 have hE:ordE bits l=(ps.foldl ddF []).map (·.r):=by unfold ordE;rw[if_neg (by omega),ordF_eq (dd_ord hp hs)]
 have hol2:(ps.foldl ddF []).length<=256:=by have:=dd_len ps;have:=hp.length_eq;simp[numb] at this;omega
 generalize ps.foldl ddF []=o at hE hol2 ⊢
 have hol:(o.map Num.row).length=o.length:=by simp
 (try (conv=>whnf));repeat' (first|refine Ok.block ?_|fail)
 refine Ok.ghost 7 57 rfl ?_
 (conv=>whnf)
 refine Ok.loopU [17,18] [7,19] 1 0 (fun (x:Nat × List Route)=>[.own 0 x.2.length,.i .i64 (x.1:Nat)]) (fun _ b=>b) (fun (x:Nat × List Route) (_:Vx.Rows)=>[some (57,x.2.map Route.row)]) (fun (x:Nat × List Route)=>x.1<=o.length/\x.2=(o.take x.1).map (·.r)) (fun (x:Nat × List Route)=>o.length - x.1) ((0,[])) (⟨Nat.zero_le _,by simp⟩) ?_;(conv=>whnf);refine⟨by ((conv=>whnf);first|rfl|(simp[envCat, tkL0, Route.row];done)|(simp[envCat, tkL0, Route.row];rw[IntKind.wrap_i64];omega)),?_⟩
 rintro⟨k,acc⟩ ⟨hk,hacc⟩
 dsimp only at hk hacc ⊢
 have hal:acc.length=k:=by rw[hacc];simp;omega
 by_cases hkl:k<o.length
 . obtain⟨x,hx⟩:∃ x,o[k]? = some x:=⟨_,gEt0 hkl⟩
   (try (conv=>whnf));repeat' (first|refine Ok.seq ?_|((first|refine Ok.region tok ?_|refine Ok.cond ?_);conv=>whnf)|refine Ok.block ?_|((first|refine Ok.skip ?_|refine nI ?_|refine ix _ (by assumption) ?_|refine Alt2.l (aI ?_)|refine⟨_,.inl ⟨rfl,rfl⟩,?_⟩|refine⟨_,_,rfl,rfl,?_⟩);conv=>whnf)|(refine bI ?_ ?_<;>intro<;>(conv=>whnf)<;>(try (exfalso;omega)))|(refine aJ ?_;conv=>whnf)|fail)
   refine⟨(k+1,acc++[x.r]),by dsimp only;omega,⟨by dsimp only;omega,?_⟩,?_⟩
   . dsimp only
     rw[List.take_add_one,hx,hacc]
     simp
   . (conv=>whnf);simp[envCat,Route.row]
 . have hkk:k=o.length:=by omega
   subst hkk
   (try (conv=>whnf));repeat' (first|refine Ok.seq ?_|((first|refine Ok.region tok ?_|refine Ok.cond ?_|refine Ok.exit ?_|refine Ok.ret ?_);conv=>whnf)|(refine bI ?_ ?_<;>intro<;>(conv=>whnf)<;>(try (exfalso;omega)))|fail)
   refine Or.inr (Or.inl ?_);(conv=>whnf)
   have ha:acc=ordE bits l:=by rw[hacc,hE,List.take_length]
   rw[<- ha,h1]
   refine⟨rfl,?_⟩
   simp[oneD]
theorem Order_at(bits:Int)(l:List Route){rl sl:List (List D)}(h:rl=l.map Route.row):FSpec Tryz.prog T 38 [.i .i64 bits,.lst 57 rl sl] (fun d rows=>rows=[some (57,(ordE bits l).map Route.row)]/\d = .tup [.own 0 (ordE bits l).length,.i .i64 (checkE bits l)]):=by
 subst h;exact Order_spec _ _ _
end Go.Proofs.YtnlingegeangmaaGreatDoor
namespace Go.Proofs.YtnlingegeangmaaGreatDoor
open Go Go.Vx
def q(k:Nat)(x:Int):Int:=x.fdiv (2 ^ k)
theorem p2(k:Nat):(0:Int)<2 ^ k:=Int.pow_pos (by omega)
theorem q_ediv(k:Nat)(x:Int):q k x=x / 2 ^ k:=by unfold q;exact Int.fdiv_eq_ediv_of_nonneg _ (Int.le_of_lt (p2 k))
theorem q_up{i j:Nat}{a b:Int}(h:q j a=q j b)(hij:j<=i):q i a=q i b:=by
 have e:∀ x:Int,q i x=q j x / 2 ^ (i - j):=fun x=>by
  rw[q_ediv,q_ediv,Int.ediv_ediv_of_nonneg (Int.le_of_lt (p2 j)),<- Int.pow_add]
  congr 2
  omega
 rw[e,e,h]
theorem hasR_q{bits v:Int}{r:Route}:hasR bits r v ↔ q (bits - r.len).toNat v=q (bits - r.len).toNat r.value:=Iff.rfl
def cov(l:List Route)(bits len x:Int):Prop:=∃ r ∈ l,len<=r.len/\hasR bits r x
def Fil(l:List Route)(bits v len:Int):Prop:=∀ x,0<=x->x<2 ^ bits.toNat->q (bits - len).toNat x=q (bits - len).toNat v->cov l bits len x
def Hal(l:List Route)(bits v len:Int):Prop:=∀ x,0<=x->x<2 ^ bits.toNat->q (bits - len).toNat x=q (bits - len).toNat v->cov l bits (len+1) x
theorem fil_one{l:List Route}{bits v len:Int}{r:Route}(hr:r ∈ l)(h:r.len=len)(hq:q (bits - len).toNat r.value=q (bits - len).toNat v):Fil l bits v len:=
 fun x _ _ hx=>⟨r,hr,by omega,by rw[hasR_q,h,hx,hq]⟩
theorem fil_none{l:List Route}{bits v len:Int}(h0:0<=v)(h1:v<2 ^ bits.toNat)(h:∀ r ∈ l,¬ (len<=r.len/\q (bits - len).toNat r.value=q (bits - len).toNat v)):¬ Fil l bits v len:=by
 intro hf
 obtain⟨r,hr,hl,hh⟩:=hf v h0 h1 rfl
 exact h r hr ⟨hl,(q_up (hasR_q.1 hh) (by omega)).symm⟩
theorem fil_hal{l:List Route}{bits v len:Int}(h:∀ r ∈ l,¬ (r.len=len/\q (bits - len).toNat r.value=q (bits - len).toNat v)):Fil l bits v len ↔ Hal l bits v len:=by
 constructor
 . intro hf x h0 h1 hx
   obtain⟨r,hr,hl,hh⟩:=hf x h0 h1 hx
   refine⟨r,hr,?_,hh⟩
   apply Classical.byContradiction
   intro hn
   have:r.len=len:=by omega
   refine h r hr ⟨this,?_⟩
   rw[hasR_q,this] at hh
   rw[<- hh,hx]
 . intro hf x h0 h1 hx
   obtain⟨r,hr,hl,hh⟩:=hf x h0 h1 hx
   exact⟨r,hr,by omega,hh⟩
theorem hal_end{l:List Route}{bits v:Int}(h0:0<=v)(h1:v<2 ^ bits.toNat)(hok:∀ r ∈ l,okR bits r):¬ Hal l bits v bits:=by
 intro hf
 obtain⟨r,hr,hl,_⟩:=hf v h0 h1 rfl
 have:=(hok r hr).2.2.2.1
 omega
theorem half_vals{k:Nat}{v:Int}(hv:v % 2 ^ (k+1)=0):q k v=2*q (k+1) v/\q k (v+2 ^ k)=2*q (k+1) v+1:=by
 have hp:=p2 k
 rw[q_ediv,q_ediv,q_ediv]
 have e:(2:Int) ^ (k+1)=2*2 ^ k:=by rw[Int.pow_succ,Int.mul_comm]
 rw[e] at hv ⊢
 have hd:=Int.mul_ediv_add_emod v (2*2 ^ k)
 rw[hv,Int.add_zero] at hd
 generalize v / (2*2 ^ k)=c at hd ⊢
 have hv2:v=(2*c)*2 ^ k:=by rw[<- hd,Int.mul_comm (2*2 ^ k) c,Int.mul_comm 2 c,Int.mul_assoc]
 refine⟨by rw[hv2,Int.mul_ediv_cancel _ (by omega)],?_⟩
 have:v+2 ^ k=(2*c+1)*2 ^ k:=by rw[hv2,Int.add_mul,Int.one_mul]
 rw[this,Int.mul_ediv_cancel _ (by omega)]
theorem half_of{k:Nat}{x:Int}:q k x=2*q (k+1) x\/q k x=2*q (k+1) x+1:=by
 have e:q (k+1) x=q k x / 2:=by
  rw[q_ediv,q_ediv,Int.ediv_ediv_of_nonneg (Int.le_of_lt (p2 k)),<- Int.pow_succ]
 omega
theorem hal_split{l:List Route}{bits v len:Int}(h1:len<bits)(hv:v % 2 ^ (bits - len).toNat=0) :
    Hal l bits v len ↔ Fil l bits v (len+1)/\Fil l bits (v+2 ^ (bits - len - 1).toNat) (len+1):=by
 obtain⟨k,hk⟩:∃ k:Nat,(bits - len).toNat=k+1:=⟨(bits - len).toNat - 1,by omega⟩
 have hk1:(bits - (len+1)).toNat=k:=by omega
 have hk2:(bits - len - 1).toNat=k:=by omega
 rw[hk] at hv
 obtain⟨a1,a2⟩:=half_vals hv
 unfold Hal Fil
 rw[hk,hk1,hk2]
 constructor
 . intro h
   refine⟨fun x h0 h1 hx=>h x h0 h1 (q_up hx (by omega)),fun x h0 h1 hx=>h x h0 h1 ?_⟩
   have:=half_of (k:=k) (x:=x)
   omega
 . rintro⟨f1,f2⟩ x h0 h1 hx
   rcases half_of (k:=k) (x:=x) with hh|hh
   . exact f1 x h0 h1 (by omega)
   . exact f2 x h0 h1 (by omega)
theorem or_half{v:Int}{k:Nat}(hk:k<32)(h0:0<=v)(h1:v<4294967296)(hv:v % 2 ^ (k+1)=0) :
    IntKind.i64.wrap ((BitVec.ofInt IntKind.i64.bits v ||| BitVec.ofInt IntKind.i64.bits (2 ^ k)).toNat:Int)=v+2 ^ k:=by
 obtain⟨n,rfl⟩:=Int.eq_ofNat_of_zero_le h0
 have hk2:(2:Nat) ^ k<=2 ^ 31:=Nat.pow_le_pow_right (by omega) (by omega)
 have e1:((2:Int) ^ k)=((2 ^ k:Nat):Int):=by simp
 have hv2:n % 2 ^ (k+1)=0:=by
  have e2:((2:Int) ^ (k+1))=((2 ^ (k+1):Nat):Int):=by simp
  rw[e2] at hv
  exact_mod_cast hv
 have hd:=Nat.div_add_mod n (2 ^ (k+1))
 rw[hv2,Nat.add_zero] at hd
 have hlt:(2:Nat) ^ k<2 ^ (k+1):=by rw[Nat.pow_succ];have:=Nat.two_pow_pos k;omega
 have hor:n ||| 2 ^ k=n+2 ^ k:=by
  rw[<- hd]
  exact (Nat.two_pow_add_eq_or_of_lt hlt _).symm
 show IntKind.i64.wrap ((BitVec.ofInt 64 (n:Int) ||| BitVec.ofInt 64 (2 ^ k)).toNat:Int)=_
 rw[e1,BitVec.ofInt_natCast,BitVec.ofInt_natCast,BitVec.toNat_or,BitVec.toNat_ofNat,BitVec.toNat_ofNat,Nat.mod_eq_of_lt (by omega),Nat.mod_eq_of_lt (by omega),hor,IntKind.wrap_i64]
 omega
theorem shl_one{k:Nat}(hk:k<32):IntKind.i64.wrap (1*2 ^ min k IntKind.i64.bits)=2 ^ k:=by
 have hm:min k IntKind.i64.bits=k:=by show min k 64=k;omega
 have:=pow_bd k (by omega)
 rw[hm,Int.one_mul,IntKind.wrap_i64]
 omega
theorem count_lt{α:Type}{p s:α->Bool}{l:List α}(h:∀ x ∈ l,p x=true->s x=true):l.countP p<l.countP s ↔ ∃ x ∈ l,s x=true/\p x=false:=by
 induction l with
 | nil=>simp
 | cons x l ih=>
  have hle:l.countP p<=l.countP s:=List.countP_mono_left fun y hy=>h y (by simp[hy])
  have ih:=ih fun y hy=>h y (by simp[hy])
  rw[List.countP_cons,List.countP_cons]
  have hx:=h x (by simp)
  constructor
  . intro hlt
    by_cases hp:s x=true/\p x=false
    . exact⟨x,by simp,hp⟩
    . have:l.countP p<l.countP s:=by
        cases h1:p x<;>cases h2:s x<;>simp_all
      obtain⟨y,hy,hh⟩:=ih.1 this
      exact⟨y,by simp[hy],hh⟩
  . rintro⟨y,hy,h1,h2⟩
    rcases List.mem_cons.1 hy with rfl|hy
    . simp[h1,h2];omega
    . have:=ih.2 ⟨y,hy,h1,h2⟩
      cases h3:p x<;>cases h4:s x<;>simp_all<;>omega
def FillS(l:List Route)(bits:Int)(n:Nat):Prop:=∀ (v len:Int) (rows room:List (List D)),rows=l.map Route.row->0<=len->len<=bits->(bits - len).toNat=n->0<=v->v<2 ^ bits.toNat->v % 2 ^ (bits - len).toNat=0 ->
 FSpec Tryz.prog T 129 [.i .i64 bits,.lst 57 rows room,.i .i64 v,.i .i64 len] (fun d _=>d = .b (Fil l bits v len))
def HalfS(l:List Route)(bits:Int)(n:Nat):Prop:=∀ (v len:Int) (rows room:List (List D)),rows=l.map Route.row->0<=len->len<=bits->(bits - len).toNat=n->0<=v->v<2 ^ bits.toNat->v % 2 ^ (bits - len).toNat=0 ->
 FSpec Tryz.prog T 87 [.i .i64 bits,.lst 57 rows room,.i .i64 v,.i .i64 len] (fun d _=>d = .b (Hal l bits v len))
theorem fill_of_half{l:List Route}{bits:Int}(hb1:1<=bits)(hb2:bits<=32)(hl:l.length<=256)(hok:∀ r ∈ l,okR bits r){n:Nat}(hH:HalfS l bits n):FillS l bits n:=by
 rintro v len _ room rfl h0 h1 hn hv0 hv1 hv2
 have hll:(l.map Route.row).length=l.length:=by simp
 have hm:min (bits - len).toNat IntKind.i64.bits=(bits - len).toNat:=by show min (bits - len).toNat 64=_;omega
 refine FSpec.of_ok tok Tryz.func129 rfl Tryz.call129 (by simp) ?_
 (try (conv=>whnf));repeat' (first|refine Ok.seq ?_|(refine Ok.region tok ?_;conv=>whnf)|refine Ok.block ?_|fail)
 refine Ok.loopU [0,1,2,3,12,13] [9,14] 0 0 (fun (x:Bool × Nat)=>[bD x.1,.i .i64 (x.2:Nat)]) (fun _ b=>b) (fun _ r=>r) (fun (x:Bool × Nat)=>x.2<=l.length/\(x.1=true ↔ ∃ r ∈ l.take x.2,len<=r.len/\q (bits - len).toNat r.value=q (bits - len).toNat v)/\∀ r ∈ l.take x.2,¬ (r.len=len/\q (bits - len).toNat r.value=q (bits - len).toNat v)) (fun (x:Bool × Nat)=>l.length - x.2) ((false,0)) (⟨Nat.zero_le _,by simp,by simp⟩) ?_;(conv=>whnf);refine⟨by ((conv=>whnf);first|rfl|(simp[envCat, tkL0, Route.row];done)|(simp[envCat, tkL0, Route.row];rw[IntKind.wrap_i64];omega)),?_⟩
 rintro⟨p,k⟩ ⟨hk,hp,hno⟩
 dsimp only at hk hp hno ⊢
 by_cases hkl:k<l.length
 . obtain⟨r,hr⟩:∃ r,l[k]? = some r:=⟨_,gEt0 hkl⟩
   have hrm:=mOf0 hr
   have htk:l.take (k+1)=l.take k++[r]:=by rw[List.take_add_one,hr];rfl
   (try (conv=>whnf));repeat' (first|refine Ok.seq ?_|((first|refine Ok.region tok ?_|refine Ok.region_draw tok follows (by kernel_rfl) ?_|refine Ok.cond ?_);conv=>whnf)|refine Ok.block ?_|((first|refine Ok.skip ?_|refine Ok.ret ?_|refine nI ?_|refine ix _ (by assumption) ?_);conv=>whnf)|(refine bI ?_ ?_<;>intro<;>(conv=>whnf)<;>(try (exfalso;omega)))|((first|refine aJ ?_|refine num_any ?_);conv=>whnf)|fail)
   . rename_i a1 a2 a3
     rw[hm] at a2
     refine Or.inl ?_;(conv=>whnf)
     exact b_eq ⟨fun _=>fil_one hrm a3 a2,fun _=>trivial⟩
   . rename_i a1 a2 a3
     rw[hm] at a2
     refine⟨(true,k+1),by dsimp only;omega,⟨by dsimp only;omega,?_,?_⟩,?_⟩
     . dsimp only
       rw[htk]
       exact⟨fun _=>⟨r,by simp,a1,a2⟩,fun _=>rfl⟩
     . dsimp only
       rw[htk]
       intro s hs
       rcases mAp0.1 hs with hs|hs
       . exact hno s hs
       . simp at hs;subst hs;exact fun h=>a3 h.1
     . (conv=>whnf);(first|rfl|simp[envCat, tkL0, Route.row])
   . rename_i a1 a2
     rw[hm] at a2
     refine⟨(p,k+1),by dsimp only;omega,⟨by dsimp only;omega,?_,?_⟩,?_⟩
     . dsimp only
       rw[htk,hp]
       constructor
       . rintro⟨s,hs,h⟩;exact⟨s,by simp[hs],h⟩
       . rintro⟨s,hs,h⟩
         rcases mAp0.1 hs with hs|hs
         . exact⟨s,hs,h⟩
         . simp at hs;subst hs;exact absurd h.2 a2
     . dsimp only
       rw[htk]
       intro s hs
       rcases mAp0.1 hs with hs|hs
       . exact hno s hs
       . simp at hs;subst hs;exact fun h=>a2 h.2
     . cases p
       . (conv=>whnf);(first|rfl|simp[envCat, tkL0, Route.row])
       . (conv=>whnf);(first|rfl|simp[envCat, tkL0, Route.row])
   . rename_i a1
     refine⟨(p,k+1),by dsimp only;omega,⟨by dsimp only;omega,?_,?_⟩,?_⟩
     . dsimp only
       rw[htk,hp]
       constructor
       . rintro⟨s,hs,h⟩;exact⟨s,by simp[hs],h⟩
       . rintro⟨s,hs,h⟩
         rcases mAp0.1 hs with hs|hs
         . exact⟨s,hs,h⟩
         . simp at hs;subst hs;exact absurd h.1 a1
     . dsimp only
       rw[htk]
       intro s hs
       rcases mAp0.1 hs with hs|hs
       . exact hno s hs
       . simp at hs;subst hs;exact fun h=>a1 (by omega)
     . cases p
       . (conv=>whnf);(first|rfl|simp[envCat, tkL0, Route.row])
       . (conv=>whnf);(first|rfl|simp[envCat, tkL0, Route.row])
 . have hkk:k=l.length:=by omega
   subst hkk
   rw[List.take_length] at hp hno
   cases p with
   | false=>
    have hF:¬ Fil l bits v len:=fil_none hv0 hv1 fun r hr h=>by have:=hp.2 ⟨r,hr,h⟩;cases this
    (try (conv=>whnf));repeat' (first|refine Ok.seq ?_|((first|refine Ok.region tok ?_|refine Ok.cond ?_|refine Ok.exit ?_|refine Ok.ret ?_);conv=>whnf)|(refine bI ?_ ?_<;>intro<;>(conv=>whnf)<;>(try (exfalso;omega)))|fail)
    refine Or.inl ?_;(conv=>whnf)
    exact b_eq ⟨fun h=>h.elim,fun h=>hF h⟩
   | true=>
    (try (conv=>whnf));repeat' (first|refine Ok.seq ?_|((first|refine Ok.region tok ?_|refine Ok.cond ?_|refine Ok.skip ?_|refine Ok.exit ?_|refine Ok.ret ?_);conv=>whnf)|(refine Or.inl ?_;(conv=>whnf);(repeat (refine aI ?_;conv=>whnf));refine⟨_,hH v len _ room rfl h0 h1 hn hv0 hv1 hv2,rfl,?_⟩;conv=>whnf)|(refine bI ?_ ?_<;>intro<;>(conv=>whnf)<;>(try (exfalso;omega)))|fail)
    refine Or.inl ?_;(conv=>whnf)
    exact b_eq (fil_hal hno).symm
theorem half_end{l:List Route}{bits:Int}(hb1:1<=bits)(hb2:bits<=32)(hok:∀ r ∈ l,okR bits r):HalfS l bits 0:=by
 rintro v len _ room rfl h0 h1 hn hv0 hv1 hv2
 have he:len=bits:=by omega
 subst he
 refine FSpec.of_ok tok Tryz.func87 rfl Tryz.call87 (by simp) ?_
 (try (conv=>whnf));repeat' (first|refine Ok.seq ?_|((first|refine Ok.region tok ?_|refine Ok.cond ?_|refine Ok.ret ?_);conv=>whnf)|(refine bI ?_ ?_<;>intro<;>(conv=>whnf)<;>(try (exfalso;omega)))|fail)
 refine Or.inl ?_;(conv=>whnf)
 exact b_eq ⟨fun h=>h.elim,fun h=>hal_end hv0 hv1 hok h⟩
theorem half_of_fill{l:List Route}{bits:Int}(hb1:1<=bits)(hb2:bits<=32){n:Nat}(hF:FillS l bits n):HalfS l bits (n+1):=by
 rintro v len _ room rfl h0 h1 hn hv0 hv1 hv2
 have hlt:len<bits:=by omega
 have e1:(bits - (len+1)).toNat=n:=by omega
 have e2:(bits - len - 1).toNat=n:=by omega
 have e3:(bits - len).toNat=n+1:=by omega
 have hbd:=pow_bd bits.toNat (by omega)
 have hspl:=hal_split (l:=l) hlt hv2
 rw[e3] at hv2
 have hor:=or_half (k:=n) (by omega) hv0 (by omega) hv2
 have hsh:=shl_one (k:=n) (by omega)
 rw[<- e2] at hsh
 have hpp:=p2 n
 have hpn:(2:Int) ^ (n+1)=2*2 ^ n:=by rw[Int.pow_succ,Int.mul_comm]
 have hv3:v % 2 ^ n=0:=by
  have hd:=Int.mul_ediv_add_emod v (2 ^ (n+1))
  rw[hv2,Int.add_zero,hpn] at hd
  rw[<- hd,Int.mul_assoc,Int.mul_left_comm]
  exact Int.mul_emod_right _ _
 have hv4:(v+2 ^ n) % 2 ^ n=0:=by rw[Int.add_emod_right];exact hv3
 have hv5:v+2 ^ n<2 ^ bits.toNat:=by
  have hb:(2:Int) ^ bits.toNat=2 ^ (bits.toNat - (n+1))*2 ^ (n+1):=by rw[<- Int.pow_add];congr 1;omega
  have hd:=Int.mul_ediv_add_emod v (2 ^ (n+1))
  rw[hv2,Int.add_zero] at hd
  generalize hc:v / 2 ^ (n+1)=c at hd
  generalize (2:Int) ^ (bits.toNat - (n+1))=M at hb
  have hcM:c<M:=by
   apply Classical.byContradiction
   intro hn
   have:M*2 ^ (n+1)<=c*2 ^ (n+1):=Int.mul_le_mul_of_nonneg_right (by omega) (by omega)
   rw[Int.mul_comm] at hd
   omega
  have h1:(c+1)*2 ^ (n+1)<=M*2 ^ (n+1):=Int.mul_le_mul_of_nonneg_right (by omega) (by omega)
  rw[Int.add_mul,Int.one_mul] at h1
  rw[Int.mul_comm] at hd
  omega
 refine FSpec.of_ok tok Tryz.func87 rfl Tryz.call87 (by simp) ?_
 have s1:=hF v (len+1) _ room rfl (by omega) (by omega) e1 hv0 hv1 (by rw[e1];exact hv3)
 have s2:=hF (v+2 ^ n) (len+1) _ room rfl (by omega) (by omega) e1 (by omega) hv5 (by rw[e1];exact hv4)
 rw[e2] at hspl
 rw[e2] at hsh
 have hsh2:IntKind.i64.wrap (1*2 ^ min (bits - len - 1).toNat IntKind.i64.bits)=2 ^ n:=by rw[e2];exact hsh
 (try (conv=>whnf));repeat' (first|refine Ok.seq ?_|((first|refine Ok.region tok ?_|refine⟨_,(hsh2).symm,?_⟩|refine⟨_,(hor).symm,?_⟩|refine Ok.cond ?_|refine Ok.skip ?_|refine Ok.ret ?_|refine nI ?_);conv=>whnf)|(refine Or.inl ?_;(conv=>whnf);(repeat (refine aI ?_;conv=>whnf));refine⟨_,s1,rfl,?_⟩;conv=>whnf)|(refine Or.inl ?_;(conv=>whnf);(repeat (refine aI ?_;conv=>whnf));refine⟨_,s2,rfl,?_⟩;conv=>whnf)|(refine bI ?_ ?_<;>intro<;>(conv=>whnf)<;>(try (exfalso;omega)))|(refine aJ ?_;conv=>whnf)|fail)
 . rename_i a1
   refine Or.inl ?_;(conv=>whnf)
   exact b_eq ⟨fun h=>hspl.2 ⟨a1,h⟩,fun h=>(hspl.1 h).2⟩
 . rename_i a1
   refine Or.inl ?_;(conv=>whnf)
   exact b_eq ⟨fun h=>h.elim,fun h=>a1 (hspl.1 h).1⟩
theorem half_all{l:List Route}{bits:Int}(hb1:1<=bits)(hb2:bits<=32)(hl:l.length<=256)(hok:∀ r ∈ l,okR bits r):∀ n,HalfS l bits n
 | 0=>half_end hb1 hb2 hok
 | n+1=>half_of_fill hb1 hb2 (fill_of_half hb1 hb2 hl hok (half_all hb1 hb2 hl hok n))
theorem halvesR_at{l:List Route}{bits:Int}(hb1:1<=bits)(hb2:bits<=32)(hl:l.length<=256)(hok:∀ r ∈ l,okR bits r){r:Route}(hr:okR bits r){rows room:List (List D)}(he:rows=l.map Route.row) :
    FSpec Tryz.prog T 87 [.i .i64 bits,.lst 57 rows room,.i .i64 r.value,.i .i64 r.len] (fun d _=>d = .b (Hal l bits r.value r.len)):=
 half_all hb1 hb2 hl hok _ _ _ _ _ he hr.2.2.1 hr.2.2.2.1 rfl hr.2.2.2.2.2.2.1 hr.2.2.2.2.2.2.2.1 hr.2.2.2.2.2.2.2.2
end Go.Proofs.YtnlingegeangmaaGreatDoor
namespace Go.Proofs.YtnlingegeangmaaGreatDoor
open Go Go.Vx
def cvR(bits:Int)(r s:Route):Prop:=r.len<=s.len/\hasR bits r s.value
instance (bits:Int) (r s:Route):Decidable (cvR bits r s):=by unfold cvR hasR;infer_instance
instance (bits:Int) (r:Route) (v:Int):Decidable (hasR bits r v):=by unfold hasR;infer_instance
def preR(a b:Route):Prop:=b.len<a.len\/(a.len=b.len/\a.value<b.value)
theorem hasR_up{bits:Int}{r s:Route}{x:Int}(h1:hasR bits r x)(h2:hasR bits s x)(hl:r.len<=s.len):hasR bits r s.value:=by
 rw[hasR_q] at *
 rw[<- h1]
 exact (q_up h2 (by omega)).symm
theorem same_of{bits:Int}{r s:Route}(hr:okR bits r)(hs:okR bits s)(hl:r.len=s.len)(h:hasR bits r s.value):r.value=s.value:=by
 rw[hasR_q,q_ediv,q_ediv] at h
 have h1:=hr.2.2.2.2.2.2.2.2
 have h2:=hs.2.2.2.2.2.2.2.2
 rw[hl] at h1 h
 have e1:=Int.mul_ediv_add_emod r.value (2 ^ (bits - s.len).toNat)
 have e2:=Int.mul_ediv_add_emod s.value (2 ^ (bits - s.len).toNat)
 rw[h1] at e1
 rw[h2] at e2
 rw[<- e1,<- e2,h]
def IsPar(bits:Int)(l:List Route)(k:Nat)(rk:Route)(n:Nat)(p:Int):Prop:=
 (p=-1/\∀ (i:Nat) r,i<n->i ≠ k->l[i]? = some r->¬ cvR bits r rk) \/
 ∃ (pp:Nat) (rp:Route),p=(pp:Int)/\pp<n/\pp ≠ k/\l[pp]? = some rp/\cvR bits rp rk/\∀ (i:Nat) r,i<n->i ≠ k->l[i]? = some r->cvR bits r rk->r.len<=rp.len
theorem pre_at{l:List Route}(hs:l.Pairwise preR){i j:Nat}{a b:Route}(ha:l[i]? = some a)(hb:l[j]? = some b)(hij:i<j):preR a b:=by
 obtain⟨h1,rfl⟩:=gSm0.1 ha
 obtain⟨h2,rfl⟩:=gSm0.1 hb
 exact List.pairwise_iff_getElem.1 hs i j h1 h2 hij
theorem at_len{l:List Route}(hs:l.Pairwise preR){i j:Nat}{a b:Route}(ha:l[i]? = some a)(hb:l[j]? = some b)(h1:a.len=b.len)(h2:a.value=b.value):i=j:=by
 rcases Nat.lt_trichotomy i j with h|h|h
 . have:=pre_at hs ha hb h;unfold preR at this;omega
 . exact h
 . have:=pre_at hs hb ha h;unfold preR at this;omega
theorem IsPar.uniq{bits:Int}{l:List Route}{k:Nat}{rk:Route}{p p':Int}(hok:∀ r ∈ l,okR bits r)(hs:l.Pairwise preR)(h:IsPar bits l k rk l.length p)(h':IsPar bits l k rk l.length p'):p=p':=by
 rcases h with⟨rfl,h⟩|⟨i,a,rfl,hi,hik,ha,hca,hma⟩<;>rcases h' with⟨rfl,h'⟩|⟨j,b,rfl,hj,hjk,hb,hcb,hmb⟩
 . rfl
 . exact absurd hcb (h j b hj hjk hb)
 . exact absurd hca (h' i a hi hik ha)
 . have hl:a.len=b.len:=by
     have:=hma j b hj hjk hb hcb
     have:=hmb i a hi hik ha hca
     omega
   have hv:=same_of (hok a (mOf0 ha)) (hok b (mOf0 hb)) hl (hasR_up hca.2 hcb.2 (by omega))
   rw[at_len hs ha hb hl hv]
open Classical in
noncomputable def parF(bits:Int)(l:List Route)(k:Nat)(rk:Route):Int:=if h:∃ p,IsPar bits l k rk l.length p then h.choose else 0
theorem parF_eq{bits:Int}{l:List Route}{k:Nat}{rk:Route}{p:Int}(hok:∀ r ∈ l,okR bits r)(hs:l.Pairwise preR)(h:IsPar bits l k rk l.length p):parF bits l k rk=p:=by
 unfold parF
 rw[dif_pos ⟨p,h⟩]
 exact IsPar.uniq hok hs (Exists.choose_spec (⟨p,h⟩:∃ p,IsPar bits l k rk l.length p)) h
theorem behind{bits:Int}{l:List Route}{i k:Nat}{r rk:Route}(hok:∀ r ∈ l,okR bits r)(hs:l.Pairwise preR)(hr:l[i]? = some r)(hk:l[k]? = some rk)(hik:i ≠ k)(hc:cvR bits r rk):k<i/\r.len<rk.len:=by
 have hne:¬ (r.len=rk.len):=fun hl=>hik (at_len hs hr hk hl (same_of (hok r (mOf0 hr)) (hok rk (mOf0 hk)) hl hc.2))
 have hlt:r.len<rk.len:=by have:=hc.1;omega
 refine⟨?_,hlt⟩
 rcases Nat.lt_or_gt_of_ne hik with h|h
 . have:=pre_at hs hr hk h;unfold preR at this;omega
 . exact h
theorem parent_at{bits:Int}{l:List Route}{k:Nat}{rk:Route}(hb2:bits<=32)(hl:l.length<=256)(hok:∀ r ∈ l,okR bits r)(hs:l.Pairwise preR)(hk:l[k]? = some rk){rows room:List (List D)}(he:rows=l.map Route.row) :
    FSpec Tryz.prog T 88 [.i .i64 bits,.lst 57 rows room,.i .i64 (k:Nat)] (fun d _=>d = .i .i64 (parF bits l k rk)):=by
 subst he
 have hll:(l.map Route.row).length=l.length:=by simp
 have hkl:k<l.length:=(gSm0.1 hk).1
 refine FSpec.of_ok tok Tryz.func88 rfl Tryz.call88 (by simp) ?_
 (try (conv=>whnf));repeat' (first|refine Ok.seq ?_|(refine Ok.region tok ?_;conv=>whnf)|refine Ok.block ?_|(refine nI ?_;conv=>whnf)|fail)
 refine Ok.loopU [0,1,2] [7] 0 0 (fun (u:Nat)=>[.i .i64 (u:Nat)]) (fun _ b=>b) (fun _ r=>r) (fun (u:Nat)=>k<u/\u<=l.length/\∀ (i:Nat) r,k<i->i<u->l[i]? = some r->¬ hasR bits r rk.value) (fun (u:Nat)=>l.length - u) (k+1) (⟨by omega,by omega,fun i r h1 h2=>by omega⟩) ?_;(conv=>whnf);refine⟨by ((conv=>whnf);first|rfl|(simp[envCat, tkL0, Route.row];done)|(simp[envCat, tkL0, Route.row];rw[IntKind.wrap_i64];omega)),?_⟩
 rintro u ⟨hku,hul,hno⟩
 by_cases hlt:u<l.length
 . obtain⟨ru,hru⟩:∃ r,l[u]? = some r:=⟨_,gEt0 hlt⟩
   have hoku:=hok ru (mOf0 hru)
   have hu1:=hoku.2.2.1
   have hu2:=hoku.2.2.2.1
   (try (conv=>whnf));repeat' (first|refine Ok.seq ?_|((first|refine Ok.region tok ?_|refine Ok.region_draw tok follows (by kernel_rfl) ?_|refine Ok.cond ?_);conv=>whnf)|refine Ok.block ?_|((first|refine Ok.skip ?_|refine Ok.ret ?_|refine nI ?_|refine ix _ (by assumption) ?_|refine⟨_,has_spec bits ru rk.value hb2 hu1 hu2,rfl,?_⟩);conv=>whnf)|(refine bI ?_ ?_<;>intro<;>(conv=>whnf)<;>(try (exfalso;omega)))|fail)
   . rename_i hh
     have hpre:=pre_at hs hk hru hku
     have hp:IsPar bits l k rk l.length (u:Int):=.inr ⟨u,ru,rfl,hlt,by omega,hru,⟨by unfold preR at hpre;omega,hh⟩,fun i r hi hik hr hc=>by
      have hb:=(behind hok hs hr hk hik hc).1
      rcases Nat.lt_trichotomy i u with h|h|h
      . exact absurd hc.2 (hno i r hb h hr)
      . subst h;rw[hru] at hr;cases hr;omega
      . have:=pre_at hs hru hr h;unfold preR at this;omega⟩
     refine Or.inl ?_;(conv=>whnf)
     rw[parF_eq hok hs hp]
     rfl
   . rename_i hh
     refine⟨u+1,by omega,⟨by omega,by omega,fun i r h1 h2 hr=>?_⟩,?_⟩
     . by_cases hiu:i=u
       . subst hiu;rw[hru] at hr;cases hr;exact hh
       . exact hno i r h1 (by omega) hr
     . (conv=>whnf);(first|rfl|simp[envCat, tkL0, Route.row])
 . have huu:u=l.length:=by omega
   subst huu
   have hp:IsPar bits l k rk l.length (-1):=.inl ⟨rfl,fun i r hi hik hr hc=>hno i r (behind hok hs hr hk hik hc).1 hi hr hc.2⟩
   (try (conv=>whnf));repeat' (first|refine Ok.seq ?_|((first|refine Ok.region tok ?_|refine Ok.cond ?_|refine Ok.exit ?_|refine Ok.ret ?_);conv=>whnf)|(refine bI ?_ ?_<;>intro<;>(conv=>whnf)<;>(try (exfalso;omega)))|fail)
   refine Or.inl ?_;(conv=>whnf)
   rw[parF_eq hok hs hp]
   rfl
theorem ord_pre{l:List Route}{os:List Num}(h:IsOrd l os):(os.map (·.r)).Pairwise preR:=by
 rw[List.pairwise_map]
 exact h.sorted
theorem ord_ok{bits:Int}{l:List Route}{os:List Num}(h:IsOrd l os)(hok:∀ r ∈ l,okR bits r):∀ r ∈ os.map (·.r),okR bits r:=by
 intro r hr
 obtain⟨x,hx,rfl⟩:=List.mem_map.1 hr
 obtain⟨j,hj,rfl⟩:=numb_mem (h.best x hx).1
 exact hok _ (List.getElem_mem hj)
open Classical in
theorem nodup_sub{α:Type}:∀ (l m:List α),l.Nodup->(∀ x ∈ l,x ∈ m)->l.length<=m.length
 | [],_,_,_=>by simp
 | a :: l,m,h1,h2=>by
  rw[List.nodup_cons] at h1
  have ha:=h2 a (by simp)
  have ih:=nodup_sub l (m.erase a) h1.2 fun x hx=>by
   have hne:x ≠ a:=fun e=>h1.1 (e ▸ hx)
   exact (List.mem_erase_of_ne hne).2 (h2 x (by simp[hx]))
  rw[List.length_erase_of_mem ha] at ih
  have:=List.length_pos_of_mem ha
  simp only[List.length_cons]
  omega
theorem ord_len{l:List Route}{os:List Num}(h:IsOrd l os):os.length<=l.length:=by
 have h1:os.Nodup:=by
  refine h.sorted.imp ?_
  rintro a b hab rfl
  exact preLt_irrefl hab ⟨rfl,rfl⟩
 have h2:=nodup_sub os (numb l) h1 fun x hx=>(h.best x hx).1
 simpa[numb] using h2
def keepR(bits:Int)(m:List Route)(k:Nat)(rk:Route):Prop:=parF bits m k rk<0\/∀ rp,m[(parF bits m k rk).toNat]? = some rp->rp.out ≠ rk.out
open Classical in
noncomputable def metG(bits:Int)(l m:List Route):List Route:=m.filter fun r=>decide (¬ Hal l bits r.value r.len)
noncomputable def metF(bits:Int)(l:List Route):List Route:=metG bits l l
open Classical in
noncomputable def keepF(bits:Int)(m:List Route)(n:Nat):List Route:=((m.zipIdx.take n).filter fun x=>decide (keepR bits m x.2 x.1)).map (·.1)
noncomputable def slimF(bits:Int)(l:List Route):List Route:=keepF bits (metF bits l) (metF bits l).length
theorem keepF_succ_pos{bits:Int}{m:List Route}{k:Nat}{rk:Route}(hk:m[k]? = some rk)(h:keepR bits m k rk):keepF bits m (k+1)=keepF bits m k++[rk]:=by
 have hz:m.zipIdx[k]? = some (rk,k):=by simp[hk]
 unfold keepF
 rw[List.take_add_one,hz]
 simp[h]
theorem keepF_succ_neg{bits:Int}{m:List Route}{k:Nat}{rk:Route}(hk:m[k]? = some rk)(h:¬ keepR bits m k rk):keepF bits m (k+1)=keepF bits m k:=by
 have hz:m.zipIdx[k]? = some (rk,k):=by simp[hk]
 unfold keepF
 rw[List.take_add_one,hz]
 simp[h]
theorem keepF_zero(bits:Int)(m:List Route):keepF bits m 0=[]:=rfl
theorem keepF_len(bits:Int)(m:List Route)(n:Nat):(keepF bits m n).length<=n:=by
 unfold keepF
 rw[lMp0]
 refine Nat.le_trans (List.length_filter_le _ _) ?_
 simp;omega
theorem parF_in{bits:Int}{m:List Route}{k:Nat}{rk:Route}(hok:∀ r ∈ m,okR bits r)(hs:m.Pairwise preR)(hk:m[k]? = some rk):parF bits m k rk=-1\/∃ (pp:Nat) (rp:Route),parF bits m k rk=(pp:Int)/\m[pp]? = some rp:=by
 have hex:∃ p,IsPar bits m k rk m.length p:=by
  by_cases hc:∃ (i:Nat) (r:Route),k<i/\m[i]? = some r/\cvR bits r rk
  . -- the first behind it
    have key:∀ n,(∃ (i:Nat) (r:Route),k<i/\i<n/\m[i]? = some r/\cvR bits r rk)->∃ (i:Nat) (r:Route),k<i/\m[i]? = some r/\cvR bits r rk/\∀ (j:Nat) s,k<j->j<i->m[j]? = some s->¬ cvR bits s rk:=by
     intro n
     induction n with
     | zero=>rintro⟨i,r,_,h,_⟩;omega
     | succ n ih=>
      rintro⟨i,r,h1,h2,h3,h4⟩
      by_cases hex:∃ (i:Nat) (r:Route),k<i/\i<n/\m[i]? = some r/\cvR bits r rk
      . exact ih hex
      . exact⟨i,r,h1,h3,h4,fun j s a b c d=>hex ⟨j,s,a,by omega,c,d⟩⟩
    obtain⟨i0,r0,a0,b0,c0⟩:=hc
    obtain⟨i,r,h1,h2,h3,h4⟩:=key (i0+1) ⟨i0,r0,a0,by omega,b0,c0⟩
    refine⟨(i:Int),.inr ⟨i,r,rfl,(gSm0.1 h2).1,by omega,h2,h3,fun j s a b c d=>?_⟩⟩
    have hb:=(behind hok hs c hk b d).1
    rcases Nat.lt_trichotomy j i with h|h|h
    . exact absurd d (h4 j s hb h c)
    . subst h;rw[h2] at c;cases c;omega
    . have:=pre_at hs h2 c h;unfold preR at this;omega
  . exact⟨-1,.inl ⟨rfl,fun i r a b c d=>hc ⟨i,r,(behind hok hs c hk b d).1,c,d⟩⟩⟩
 obtain⟨p,hp⟩:=hex
 rw[parF_eq hok hs hp]
 rcases hp with⟨rfl,_⟩|⟨pp,rp,rfl,_,_,h,_⟩
 . exact .inl rfl
 . exact .inr ⟨pp,rp,rfl,h⟩
theorem metG_pos{bits:Int}{l m:List Route}{k:Nat}{r:Route}(hr:m[k]? = some r)(h:¬ Hal l bits r.value r.len):metG bits l (m.take (k+1))=metG bits l (m.take k)++[r]:=by
 unfold metG
 rw[List.take_add_one,hr]
 simp[h]
theorem metG_neg{bits:Int}{l m:List Route}{k:Nat}{r:Route}(hr:m[k]? = some r)(h:Hal l bits r.value r.len):metG bits l (m.take (k+1))=metG bits l (m.take k):=by
 unfold metG
 rw[List.take_add_one,hr]
 simp[h]
theorem metG_take{bits:Int}{l m:List Route}{k:Nat}(hk:k<=m.length):(metG bits l (m.take k)).length<=k:=by
 unfold metG
 refine Nat.le_trans (List.length_filter_le _ _) ?_
 simp;omega
theorem metF_ok{bits:Int}{l:List Route}(hok:∀ r ∈ l,okR bits r)(hs:l.Pairwise preR):(∀ r ∈ metF bits l,okR bits r)/\(metF bits l).Pairwise preR/\(metF bits l).length<=l.length:=
 ⟨fun r hr=>hok r (List.mem_filter.1 hr).1,hs.filter _,List.length_filter_le _ _⟩
noncomputable def slimE(bits:Int)(l:List Route):List Route:=if checkE bits l ≠ 0 then [] else slimF bits (ordF l)
theorem ordF_ok{bits:Int}{l:List Route}(h:checkE bits l=0)(hex:∃ os,IsOrd l os):(∀ r ∈ ordF l,okR bits r)/\(ordF l).Pairwise preR/\(ordF l).length<=256:=by
 obtain⟨hl,hb1,hb2,hok⟩:=checkE_ok h
 obtain⟨os,hos⟩:=hex
 rw[ordF_eq hos]
 have:=ord_len hos
 exact⟨ord_ok hos hok,ord_pre hos,by simp;omega⟩
theorem insert_sorted(x:Num):∀ (ps:List Num),ps.Pairwise (fun a b=>¬ firstP b a)->∃ qs:List Num,qs.Perm (x :: ps)/\qs.Pairwise (fun a b=>¬ firstP b a)
 | [],_=>⟨[x],.refl _,by simp⟩
 | p :: ps,h=>by
  rw[List.pairwise_cons] at h
  by_cases hx:firstP x p
  . refine⟨x :: p :: ps,.refl _,?_⟩
    rw[List.pairwise_cons]
    refine⟨fun y hy=>?_,List.pairwise_cons.2 h⟩
    rcases List.mem_cons.1 hy with rfl|hy
    . exact first_swo.asymm _ _ hx
    . exact first_swo.trans _ _ _ (first_swo.asymm _ _ hx) (h.1 y hy)
  . obtain⟨qs,h1,h2⟩:=insert_sorted x ps h.2
    refine⟨p :: qs,(h1.cons p).trans (List.Perm.swap ..),?_⟩
    rw[List.pairwise_cons]
    refine⟨fun y hy=>?_,h2⟩
    rcases List.mem_cons.1 (h1.subset hy) with rfl|hy
    . exact hx
    . exact h.1 y hy
theorem sorted_ex:∀ (l:List Num),∃ ps:List Num,ps.Perm l/\ps.Pairwise (fun a b=>¬ firstP b a)
 | []=>⟨[],.refl _,by simp⟩
 | x :: l=>by
  obtain⟨ps,h1,h2⟩:=sorted_ex l
  obtain⟨qs,h3,h4⟩:=insert_sorted x ps h2
  exact⟨qs,h3.trans (h1.cons x),h4⟩
theorem ord_ex(l:List Route):∃ os,IsOrd l os:=by
 obtain⟨ps,h1,h2⟩:=sorted_ex (numb l)
 exact⟨_,dd_ord h1 h2⟩
theorem Slim_at(bits:Int)(l:List Route){rows room:List (List D)}(he:rows=l.map Route.row):FSpec Tryz.prog T 39 [.i .i64 bits,.lst 57 rows room] (fun d rows=>rows=[some (57,(slimE bits l).map Route.row)]/\d = .tup [.own 0 (slimE bits l).length,.i .i64 (checkE bits l)]):=by
 subst he
 refine FSpec.of_ok tok Tryz.func39 rfl Tryz.call39 (by simp) ?_
 (try (conv=>whnf));repeat' (first|refine Ok.seq ?_|((first|refine Ok.region tok ?_|refine Ok.cond ?_);conv=>whnf)|refine Ok.block ?_|((first|refine Ok.skip ?_|refine Ok.ret ?_);conv=>whnf)|(refine Or.inr (Or.inl ?_);(conv=>whnf);(repeat (refine aI ?_;conv=>whnf));refine⟨_,Order_at bits l rfl,?_⟩;rintro _ _ ⟨rfl,rfl⟩;conv=>whnf)|(refine bI ?_ ?_<;>intro<;>(conv=>whnf)<;>(try (exfalso;omega)))|fail)
 . rename_i h1
   refine Or.inr (Or.inr ?_);(conv=>whnf)
   simp[oneD,slimE,h1]
 rename_i h1
 have h1:checkE bits l=0:=Classical.not_not.1 h1
 obtain⟨hl,hb1,hb2,hok⟩:=checkE_ok h1
 obtain⟨o1,o2,o3⟩:=ordF_ok h1 (ord_ex l)
 have hE:slimE bits l=slimF bits (ordF l):=by unfold slimE;rw[if_neg (by omega)]
 have hO:ordE bits l=ordF l:=by unfold ordE;rw[if_neg (by omega)]
 rw[hO,hE,h1]
 generalize ordF l=a at o1 o2 o3 ⊢
 have hal:(a.map Route.row).length=a.length:=by simp
 obtain⟨hMok,hMs,hMl⟩:=metF_ok o1 o2
 refine Ok.ghost 8 57 rfl ?_
 (conv=>whnf)
 refine Ok.joinU [0,9] [8] 2 0 (fun (x:Unit)=>[.own 1 (metF bits a).length]) (fun _ b=>b) (fun (x:Unit) (_:Vx.Rows)=>[some (57,a.map Route.row),some (57,(metF bits a).map Route.row)]) (fun e (x:Unit)=>e = .exit 0) ?_;(conv=>whnf);refine And.intro ?_ ?_
 . refine Ok.loopU [0,6,9,24,25] [8,26] 2 0 (fun (x:List Route × Nat)=>[.own 1 x.1.length,.i .i64 (x.2:Nat)]) (fun _ b=>b) (fun (x:List Route × Nat) (_:Vx.Rows)=>[some (57,a.map Route.row),some (57,x.1.map Route.row)]) (fun (x:List Route × Nat)=>x.2<=a.length/\x.1=metG bits a (a.take x.2)) (fun (x:List Route × Nat)=>a.length - x.2) (([],0)) (⟨Nat.zero_le _,by simp[metG]⟩) ?_;(conv=>whnf);refine⟨by ((conv=>whnf);first|rfl|(simp[envCat, tkL0, Route.row];done)|(simp[envCat, tkL0, Route.row];rw[IntKind.wrap_i64];omega)),?_⟩
   rintro⟨m,k⟩ ⟨hk,hm⟩
   dsimp only at hk hm ⊢
   have hml:m.length<=k:=by rw[hm];exact metG_take hk
   by_cases hkl:k<a.length
   . obtain⟨r,hr⟩:∃ r,a[k]? = some r:=⟨_,gEt0 hkl⟩
     (try (conv=>whnf));repeat' (first|refine Ok.seq ?_|((first|refine Ok.region tok ?_|refine Ok.cond ?_);conv=>whnf)|refine Ok.block ?_|((first|refine Ok.skip ?_|refine nI ?_);conv=>whnf)|(refine Or.inl ?_;(conv=>whnf);(repeat (refine aI ?_;conv=>whnf));refine⟨_,halvesR_at hb1 hb2 o3 o1 (o1 r (mOf0 hr)) (take_all _ _),rfl,?_⟩;conv=>whnf)|((first|refine Alt2.l (aI ?_)|refine rd rfl (by assumption) ?_|refine⟨_,.inl ⟨rfl,rfl⟩,?_⟩|refine⟨_,_,rfl,rfl,?_⟩);conv=>whnf)|(refine bI ?_ ?_<;>intro<;>(conv=>whnf)<;>(try (exfalso;omega)))|(refine aJ ?_;conv=>whnf)|fail)
     . rename_i b
       refine⟨(m++[r],k+1),by dsimp only;omega,⟨by dsimp only;omega,by dsimp only;rw[hm,metG_pos hr b]⟩,?_⟩
       (conv=>whnf);(first|rfl|simp[envCat, tkL0, Route.row])
     . rename_i b
       refine⟨(m,k+1),by dsimp only;omega,⟨by dsimp only;omega,by dsimp only;rw[hm,metG_neg hr (Classical.not_not.1 b)]⟩,?_⟩
       (conv=>whnf);(first|rfl|simp[envCat, tkL0, Route.row])
   . have hkk:k=a.length:=by omega
     subst hkk
     rw[List.take_length] at hm
     (try (conv=>whnf));repeat' (first|refine Ok.seq ?_|((first|refine Ok.region tok ?_|refine Ok.cond ?_|refine Ok.exit ?_);conv=>whnf)|(refine bI ?_ ?_<;>intro<;>(conv=>whnf)<;>(try (exfalso;omega)))|fail)
     refine⟨(),rfl,?_⟩
     rw[hm]
     (conv=>whnf);(first|rfl|simp[envCat, tkL0, Route.row])
 . rintro e _ rfl
   generalize hmm:metF bits a=m at hMok hMs hMl
   have hmlen:(m.map Route.row).length=m.length:=by simp
   (try (conv=>whnf));repeat' (first|refine Ok.seq ?_|(refine Ok.region tok ?_;conv=>whnf)|refine Ok.block ?_|fail)
   refine Ok.ghost 9 57 rfl ?_
   (conv=>whnf)
   refine Ok.loopU [0,8,43,44] [9,45] 3 0 (fun (x:List Route × Nat)=>[.own 2 x.1.length,.i .i64 (x.2:Nat)]) (fun _ b=>b) (fun (x:List Route × Nat) (_:Vx.Rows)=>[some (57,a.map Route.row),some (57,m.map Route.row),some (57,x.1.map Route.row)]) (fun (x:List Route × Nat)=>x.2<=m.length/\x.1=keepF bits m x.2) (fun (x:List Route × Nat)=>m.length - x.2) (([],0)) (⟨Nat.zero_le _,rfl⟩) ?_;(conv=>whnf);refine⟨by ((conv=>whnf);first|rfl|(simp[envCat, tkL0, Route.row];done)|(simp[envCat, tkL0, Route.row];rw[IntKind.wrap_i64];omega)),?_⟩
   rintro⟨o,k⟩ ⟨hk,ho⟩
   dsimp only at hk ho ⊢
   have hol:=keepF_len bits m k
   rw[<- ho] at hol
   by_cases hkl:k<m.length
   . obtain⟨r,hr⟩:∃ r,m[k]? = some r:=⟨_,gEt0 hkl⟩
     have hspec:=parent_at hb2 (Nat.le_trans hMl o3) hMok hMs hr (take_all Route.row m) (room:=(m.map Route.row).drop m.length)
     rcases parF_in hMok hMs hr with hp|⟨pp,rp,hp,hrp⟩
     . have hkeep:keepR bits m k r:=.inl (by omega)
       rw[hp] at hspec
       (try (conv=>whnf));repeat' (first|refine Ok.seq ?_|((first|refine Ok.region tok ?_|refine Ok.region_draw tok follows (by kernel_rfl) ?_|refine Ok.cond ?_);conv=>whnf)|refine Ok.block ?_|((first|refine Ok.skip ?_|refine nI ?_);conv=>whnf)|(refine Or.inl ?_;(conv=>whnf);(repeat (refine aI ?_;conv=>whnf));refine⟨_,hspec,rfl,?_⟩;conv=>whnf)|((first|refine Alt2.l (aI ?_)|refine rd rfl (by assumption) ?_|refine⟨_,.inl ⟨rfl,rfl⟩,?_⟩|refine⟨_,_,rfl,rfl,?_⟩);conv=>whnf)|(refine bI ?_ ?_<;>intro<;>(conv=>whnf)<;>(try (exfalso;omega)))|(refine aJ ?_;conv=>whnf)|fail)
       refine⟨(o++[r],k+1),by dsimp only;omega,⟨by dsimp only;omega,by dsimp only;rw[ho,keepF_succ_pos hr hkeep]⟩,?_⟩
       (conv=>whnf);(first|rfl|simp[envCat, tkL0, Route.row])
     . rw[hp] at hspec
       have hpl:=(gSm0.1 hrp).1
       have hkeep:keepR bits m k r ↔ rp.out ≠ r.out:=by
        unfold keepR
        rw[hp]
        constructor
        . rintro (h|h)
          . omega
          . exact h rp hrp
        . intro h
          refine .inr fun rq hq=>?_
          rw[Int.toNat_natCast,hrp] at hq
          cases hq
          exact h
       (try (conv=>whnf));repeat' (first|refine Ok.seq ?_|((first|refine Ok.region tok ?_|refine Ok.region_draw tok follows (by kernel_rfl) ?_|refine Ok.cond ?_);conv=>whnf)|refine Ok.block ?_|((first|refine Ok.skip ?_|refine nI ?_);conv=>whnf)|(refine Or.inl ?_;(conv=>whnf);(repeat (refine aI ?_;conv=>whnf));refine⟨_,hspec,rfl,?_⟩;conv=>whnf)|((first|refine Alt2.l (aI ?_)|refine rd rfl (by assumption) ?_|refine⟨_,.inl ⟨rfl,rfl⟩,?_⟩|refine⟨_,_,rfl,rfl,?_⟩);conv=>whnf)|(refine bI ?_ ?_<;>intro<;>(conv=>whnf)<;>(try (exfalso;omega)))|(refine aJ ?_;conv=>whnf)|fail)
       . rename_i b
         refine⟨(o++[r],k+1),by dsimp only;omega,⟨by dsimp only;omega,by dsimp only;rw[ho,keepF_succ_pos hr (hkeep.2 b)]⟩,?_⟩
         (conv=>whnf);(first|rfl|simp[envCat, tkL0, Route.row])
       . rename_i b
         refine⟨(o,k+1),by dsimp only;omega,⟨by dsimp only;omega,by dsimp only;rw[ho,keepF_succ_neg hr (fun h=>b (hkeep.1 h))]⟩,?_⟩
         (conv=>whnf);(first|rfl|simp[envCat, tkL0, Route.row])
   . have hkk:k=m.length:=by omega
     subst hkk
     (try (conv=>whnf));repeat' (first|refine Ok.seq ?_|((first|refine Ok.region tok ?_|refine Ok.cond ?_|refine Ok.exit ?_|refine Ok.ret ?_);conv=>whnf)|(refine bI ?_ ?_<;>intro<;>(conv=>whnf)<;>(try (exfalso;omega)))|fail)
     refine Or.inr (Or.inl ?_);(conv=>whnf)
     have:slimF bits a=o:=by unfold slimF;rw[hmm,ho]
     rw[this]
     exact⟨rfl,rfl⟩
end Go.Proofs.YtnlingegeangmaaGreatDoor
namespace Go.Proofs.YtnlingegeangmaaGreatDoor
open Go Go.Vx
section
variable {c : ConfigB} {pre : List Str} {p : Str}
theorem sportE_unk(h:p ∉ fullIn c/\p ∉ fullOut c):sportE c pre p=(73,p):=if_pos h
theorem sportE_dbl(h:¬ (p ∉ fullIn c/\p ∉ fullOut c))(h2:p ∈ pre):sportE c pre p=(72,p):=by unfold sportE;rw[if_neg h,if_pos h2]
theorem sportE_ok(h:¬ (p ∉ fullIn c/\p ∉ fullOut c))(h2:p ∉ pre):sportE c pre p=(0,[]):=by unfold sportE;rw[if_neg h,if_neg h2]
variable {pr : List SlcB} {s : SlcB}
theorem sliceE_bad(h:¬ MName s.name):sliceE c pr s=(36,s.name):=if_pos h
theorem sliceE_dbl(h:MName s.name)(h2:s.name ∈ pr.map SlcB.name):sliceE c pr s=(72,s.name):=by
 unfold sliceE
 rw[if_neg fun g=>g h,if_pos (by obtain⟨x,hx,e⟩:=List.mem_map.1 h2;exact⟨x,hx,e⟩)]
theorem sliceE_ok(h:MName s.name)(h2:s.name ∉ pr.map SlcB.name):sliceE c pr s=orE (firstE (sportE c) [] s.ports) (if chkE (fds c.fields) (nds s.whr) ≠ 0 then (77,s.name) else (0,[])):=by
 unfold sliceE
 rw[if_neg fun g=>g h,if_neg (by rintro⟨x,hx,e⟩;exact h2 (List.mem_map.2 ⟨x,hx,e⟩))]
end
theorem mslices_at(hN:∀ s,FSpec Tryz.prog T 121 [.s s] (fun d _=>d = .b (MName s)))(c:Config)(hc:c.Ok)(ht:c.Tx)(hn:(nameO c.b).1=0)(hcn:(countO c.b).1=0) :
    FSpecH Tryz.prog T [] 83 [.agg c.row] (fun d rows M=>(d = .tup [.i .i64 (sliceO c.b).1,.s (sliceO c.b).2]/\rows=[])/\M=[]):=by
 have hll:(c.slices.l.map Slc.row).length=c.slices.l.length:=by simp
 have hL:=hc.slices
 have hpn:(fullsL c.b.boxes).length<=1000:=by rw[fullsL_len];have:=(count_ok hcn).2.1;omega
 have hnum:=numbered_at c hc (tx_names ht) hpn
 have hpr:((plcs c.b.boxes).map plRow).length=(plcs c.b.boxes).length:=by simp
 refine FSpecH.of_ok0 tok Tryz.func83 rfl Tryz.call83 (by simp) ?_
 (try (conv=>whnf));repeat' (first|(refine⟨_,_,_,_,_,mtSI,fun _ _=>?_⟩;conv=>whnf)|(refine Or.inr (Or.inl ?_);(conv=>whnf);(repeat (refine aI ?_;conv=>whnf));refine⟨_,hnum , ?_⟩;rintro _ _ _ ⟨gn,lst,cn,rfl,rfl,rfl,hnm,hwf,hky⟩<;>(conv=>whnf))|refine OkM.seq ?_|(refine OkM.region tok ?_;conv=>whnf)|refine OkM.block ?_|fail)
 rename_i g hg
 have hNo:NumOk c.b lst:=⟨fulls_nodup hn,hnm,hky⟩
 have hin:∀ p,(lk lst p).isSome=true ↔ ¬ (p ∉ fullIn c.b/\p ∉ fullOut c.b):=fun p=>by
  rw[hNo.some_iff,mem_fulls]
  constructor
  . rintro (h|h) ⟨h1,h2⟩
    . exact h1 h
    . exact h2 h
  . intro h
    by_cases h1:p ∈ fullIn c.b
    . exact Or.inl h1
    . exact Or.inr (Classical.byContradiction fun h2=>h ⟨h1,h2⟩)
 refine OkM.loopU [1,5,6,25,26] [27] 1 1 (fun (x:Nat × List (Str × Int × Nat) × Nat)=>[.i .i64 (x.1:Nat)]) (fun _ b=>b) (fun _ r=>r) (fun (x:Nat × List (Str × Int × Nat) × Nat)=>[(g,mObj D.s fI x.2.1 x.2.2),(gn,mObj D.s fI lst cn)]) (fun (x:Nat × List (Str × Int × Nat) × Nat)=>x.1<=c.slices.l.length/\KMap x.2.1 ((c.b.slices.take x.1).map SlcB.name)/\sliceO c.b=firstE (sliceE c.b) (c.b.slices.take x.1) (c.b.slices.drop x.1)) (fun (x:Nat × List (Str × Int × Nat) × Nat)=>c.slices.l.length - x.1) ((0,[],0)) (⟨Nat.zero_le _,KMap.nil,rfl⟩) (by first|exact .refl _|exact .cons _ (.refl _)|exact List.nil_sublist _) ?_;(conv=>whnf);refine⟨by ((conv=>whnf);first|rfl|(simp[envCat, tkL0, SI.row, Node.row, Pfx.row, Link.row, srow, Line.row, Rule.row, Box.row, Slc.row, Config.row, plRow];done)|(simp[envCat, tkL0, SI.row, Node.row, Pfx.row, Link.row, srow, Line.row, Rule.row, Box.row, Slc.row, Config.row, plRow];rw[IntKind.wrap_i64];omega)),?_⟩
 rintro⟨i,ls,ck⟩ ⟨hi,hkm,hfe⟩
 dsimp only at hi hkm hfe ⊢
 (conv=>whnf)
 by_cases hil:i<c.slices.l.length
 . obtain⟨b,hb⟩:∃ b,c.slices.l[i]? = some b:=⟨_,gEt0 hil⟩
   have hbI:c.slices.l[((i:Nat):Int).toNat]? = some b:=hb
   have hbb:c.b.slices[i]? = some b.b:=by simp[Config.b,hb]
   have htkb:c.b.slices.take (i+1)=c.b.slices.take i++[b.b]:=by rw[List.take_add_one,hbb];rfl
   have hbx:=hc.slc b (mOf0 hb)
   have hbt:=ht.slices b (mOf0 hb)
   have hbp:=hbx.ports
   have hpl:(b.ports.l.map srow).length=b.ports.l.length:=by simp
   have hck:=pcheck_at (fds c.fields.l) c.fields.room (nds b.whr.l) b.whr.room (by rw[fds_len];have:=hc.fields;omega) (by have:=hbx.whr;simp[nds];omega) (nds_ok hbt.whr)
   rw[fds_row,nds_row] at hck
   (try (conv=>whnf));repeat' (first|((first|refine⟨_,_,_,_,_,_,_,_,mtSI,(by first|exact .head _|exact .tail _ (.head _)|exact .tail _ (.tail _ (.head _))|exact .tail _ (.tail _ (.tail _ (.head _)))|exact List.mem_append_left _ (by assumption)),rfl,?_⟩|refine⟨_,_,_,_,_,mtSI,fun _ _=>?_⟩|refine⟨_,_,_,_,_,_,_,0,_,_,mtSI,rfl,rfl,rfl,?_⟩);conv=>whnf)|refine OkM.seq ?_|((first|refine OkM.region tok ?_|refine OkM.of_ok (Ok.region_draw tok follows (by kernel_rfl) ?_)|refine OkM.cond ?_);conv=>whnf)|refine OkM.block ?_|((first|refine OkM.skip ?_|refine OkM.ret ?_|refine ix _ (by assumption) ?_);conv=>whnf)|(refine Or.inl ?_;(conv=>whnf);refine Or.inl ?_;(conv=>whnf);(repeat (refine aI ?_;conv=>whnf));refine⟨_,hN b.name,rfl,?_⟩;conv=>whnf)|(refine bI ?_ ?_<;>intro<;>(conv=>whnf)<;>(try (exfalso;omega)))|fail)
   . rename_i hx
     refine Or.inl ?_;(conv=>whnf)
     refine⟨?_,rfl⟩
     rw[hfe,firstE_bad hbb (by rw[sliceE_bad hx];simp),sliceE_bad hx]
     rfl
   . rename_i hx hy
     have hx:=Classical.not_not.1 hx
     have hm:=(hkm _).1 hy
     refine Or.inl ?_;(conv=>whnf)
     refine⟨?_,rfl⟩
     rw[hfe,firstE_bad hbb (by rw[sliceE_dbl hx hm];simp),sliceE_dbl hx hm]
     rfl
   rename_i hx hy g2 hg2
   have hx:=Classical.not_not.1 hx
   have hm:b.b.name ∉ (c.b.slices.take i).map SlcB.name:=fun h=>hy ((hkm _).2 h)
   rw[firstE_split hbb,sliceE_ok hx hm] at hfe
   refine OkM.loopU [1,5,6,8,11,25,26,27,54,55] [56] 1 2 (fun (y:Nat × List (Str × Int × Nat) × Nat)=>[.i .i64 (y.1:Nat)]) (fun _ b=>b) (fun _ r=>r) (fun (y:Nat × List (Str × Int × Nat) × Nat)=>[(g2,mObj D.s fI y.2.1 y.2.2),(g,mObj D.s fI (mput ls ck b.name i).1 (mput ls ck b.name i).2),(gn,mObj D.s fI lst cn)]) (fun (y:Nat × List (Str × Int × Nat) × Nat)=>y.1<=b.ports.l.length/\KMap y.2.1 (b.ports.l.take y.1)/\firstE (sportE c.b) [] b.ports.l=firstE (sportE c.b) (b.ports.l.take y.1) (b.ports.l.drop y.1)) (fun (y:Nat × List (Str × Int × Nat) × Nat)=>b.ports.l.length - y.1) ((0,[],0)) (⟨Nat.zero_le _,KMap.nil,rfl⟩) (by first|exact .refl _|exact .cons _ (.refl _)|exact List.nil_sublist _) ?_;(conv=>whnf);refine⟨by ((conv=>whnf);first|rfl|(simp[envCat, tkL0, SI.row, Node.row, Pfx.row, Link.row, srow, Line.row, Rule.row, Box.row, Slc.row, Config.row, plRow];done)|(simp[envCat, tkL0, SI.row, Node.row, Pfx.row, Link.row, srow, Line.row, Rule.row, Box.row, Slc.row, Config.row, plRow];rw[IntKind.wrap_i64];omega)),?_⟩
   rintro⟨j,l2,c2⟩ ⟨hj,hkm2,hfe2⟩
   dsimp only at hj hkm2 hfe2 ⊢
   (conv=>whnf)
   by_cases hjl:j<b.ports.l.length
   . obtain⟨s,hs⟩:∃ s,b.ports.l[j]? = some s:=⟨_,gEt0 hjl⟩
     have hsr:(b.ports.l.map srow)[j]? = some (srow s):=by rw[gMp0,hs];rfl
     have htk:b.ports.l.take (j+1)=b.ports.l.take j++[s]:=by rw[List.take_add_one,hs];rfl
     (try (conv=>whnf));repeat' (first|((first|refine⟨_,_,_,_,_,_,_,_,mtSI,(by first|exact .head _|exact .tail _ (.head _)|exact .tail _ (.tail _ (.head _))|exact .tail _ (.tail _ (.tail _ (.head _)))|exact List.mem_append_left _ (by assumption)),rfl,?_⟩|refine⟨_,_,_,_,_,_,_,0,_,_,mtSI,rfl,rfl,rfl,?_⟩);conv=>whnf)|refine OkM.seq ?_|((first|refine OkM.region tok ?_|refine OkM.cond ?_);conv=>whnf)|refine OkM.block ?_|((first|refine OkM.skip ?_|refine OkM.ret ?_|refine nI ?_|refine ix _ (by assumption) ?_);conv=>whnf)|(refine bI ?_ ?_<;>intro<;>(conv=>whnf)<;>(try (exfalso;omega)))|fail)
     . rename_i hz
       have hu:=Classical.not_not.1 fun h=>hz ((hin s).2 h)
       rw[firstE_bad hs (by rw[sportE_unk hu];simp),sportE_unk hu] at hfe2
       change sliceO c.b=if (orE (firstE (sportE c.b) [] b.ports.l) _).1 ≠ 0 then orE (firstE (sportE c.b) [] b.ports.l) _ else _ at hfe
       rw[hfe2] at hfe
       refine Or.inl ?_;(conv=>whnf)
       refine⟨?_,rfl⟩
       rw[hfe]
       rfl
     . rename_i hz hv
       have hu:=(hin s).1 (Classical.not_not.1 hz)
       have hp:=(hkm2 s).1 hv
       rw[firstE_bad hs (by rw[sportE_dbl hu hp];simp),sportE_dbl hu hp] at hfe2
       change sliceO c.b=if (orE (firstE (sportE c.b) [] b.ports.l) _).1 ≠ 0 then orE (firstE (sportE c.b) [] b.ports.l) _ else _ at hfe
       rw[hfe2] at hfe
       refine Or.inl ?_;(conv=>whnf)
       refine⟨?_,rfl⟩
       rw[hfe]
       rfl
     . rename_i hz hv
       have hu:=(hin s).1 (Classical.not_not.1 hz)
       have hp:s ∉ b.ports.l.take j:=fun h=>hv ((hkm2 s).2 h)
       refine⟨(j+1,(mput l2 c2 s ((lk lst s).getD 0)).1,(mput l2 c2 s ((lk lst s).getD 0)).2),by dsimp only;omega,⟨by dsimp only;omega,by dsimp only;rw[htk];exact hkm2.put c2 s _,?_⟩,.refl _,?_⟩
       . rw[hfe2,firstE_ok hs (by rw[sportE_ok hu hp])]
       . (conv=>whnf)
         rfl
   . obtain rfl:j=b.ports.l.length:=by omega
     rw[firstE_nil (Nat.le_refl _)] at hfe2
     change sliceO c.b=if (orE (firstE (sportE c.b) [] b.ports.l) (if chkE (fds c.fields.l) (nds b.whr.l) ≠ 0 then (77,b.name) else (0,[]))).1 ≠ 0 then orE (firstE (sportE c.b) [] b.ports.l) (if chkE (fds c.fields.l) (nds b.whr.l) ≠ 0 then (77,b.name) else (0,[])) else _ at hfe
     rw[hfe2] at hfe
     (try (conv=>whnf));repeat' (first|refine OkM.seq ?_|((first|refine OkM.region tok ?_|refine OkM.of_ok (Ok.region_draw tok follows (by kernel_rfl) ?_)|refine OkM.cond ?_|refine OkM.skip ?_|refine OkM.exit ?_|refine OkM.ret ?_|refine nI ?_);conv=>whnf)|(refine Or.inl ?_;(conv=>whnf);refine Or.inl ?_;(conv=>whnf);(repeat (refine aI ?_;conv=>whnf));refine⟨_,hck,rfl,?_⟩;conv=>whnf)|(refine bI ?_ ?_<;>intro<;>(conv=>whnf)<;>(try (exfalso;omega)))|fail)
     . rename_i hz
       rw[if_pos hz] at hfe
       refine Or.inl ?_;(conv=>whnf)
       refine⟨?_,rfl⟩
       rw[hfe]
       rfl
     . rename_i hz
       rw[if_neg hz,if_neg (by simp[orE])] at hfe
       refine⟨(i+1,(mput ls ck b.name i).1,(mput ls ck b.name i).2),by dsimp only;omega,⟨by dsimp only;omega,?_,hfe⟩,.cons _ (.refl _),?_⟩
       . dsimp only
         rw[htkb,List.map_append]
         exact hkm.put ck b.name i
       . (conv=>whnf)
         rfl
 . obtain rfl:i=c.slices.l.length:=by omega
   rw[firstE_nil (by simp[Config.b])] at hfe
   (try (conv=>whnf));repeat' (first|refine OkM.seq ?_|((first|refine OkM.region tok ?_|refine OkM.cond ?_|refine OkM.exit ?_|refine OkM.ret ?_);conv=>whnf)|(refine bI ?_ ?_<;>intro<;>(conv=>whnf)<;>(try (exfalso;omega)))|fail)
   all_goals first
    | (exfalso;omega)
    | (refine Or.inl ?_;(conv=>whnf)
       exact⟨by rw[hfe];rfl,rfl⟩)
end Go.Proofs.YtnlingegeangmaaGreatDoor
namespace Go.Proofs.YtnlingegeangmaaGreatDoor
open Go Go.Vx
theorem part_of{f:FuncId}{ds:List D}{e:Er}(h:FSpecH Tryz.prog T [] f ds (fun d rows M=>(d = .tup [.i .i64 e.1,.s e.2]/\rows=[])/\M=[])):FSpec Tryz.prog T f ds (fun d _=>d = .tup [.i .i64 e.1,.s e.2]):=
 FSpecH.nil (h.mono fun _ _ _ h=>h.1.1)
theorem orE_bad{a b:Er}(h:a.1 ≠ 0):orE a b=a:=if_pos h
theorem orE_ok{a b:Er}(h:a.1=0):orE a b=b:=if_neg (fun g=>g h)
theorem mcheck_at(hW:WordOk)(hI:ItoaOk)(c:Config)(hc:c.Ok)(ht:c.Tx) :
    FSpec Tryz.prog T 35 [.agg c.row] (fun d _=>d = .tup [.i .i64 (checkO c.b).1,.s (checkO c.b).2]):=by
 have p0:=mhead_at c hc.fields
 have p1:=mcounts_at c hc
 have p2:=part_of (mnames_at misName_at c hc (tx_names ht))
 have p3:=fun hh hn=>part_of (mdeeds_at hW hI c hc ht hh hn)
 have p4:=fun hn hcn=>part_of (mlinks_at c hc ht hn hcn)
 have p5:=fun hn hcn=>part_of (mslices_at misName_at c hc ht hn hcn)
 refine FSpec.of_ok tok Tryz.func35 rfl Tryz.call35 (by simp) ?_
 (try (conv=>whnf));repeat' (first|refine Ok.seq ?_|(refine Ok.region tok ?_;conv=>whnf)|refine Ok.block ?_|fail)
 refine Ok.loopU [1,8,9] [10] 1 1 (fun (k:Nat)=>[.i .i64 (k:Nat)]) (fun _ b=>b) (fun _ r=>r) (fun (k:Nat)=>k<=6/\(0<k->(headO c.b).1=0)/\(1<k->(countO c.b).1=0)/\(2<k->(nameO c.b).1=0)/\(3<k->(deedO c.b).1=0)/\(4<k->(linkO c.b).1=0)/\(5<k->(sliceO c.b).1=0)) (fun (k:Nat)=>6 - k) (0) (⟨by omega,by omega,by omega,by omega,by omega,by omega,by omega⟩) ?_;(conv=>whnf);refine⟨by ((conv=>whnf);first|rfl|(simp[envCat, tkL0, SI.row, Node.row, Pfx.row, Link.row, srow, Line.row, Rule.row, Box.row, Slc.row, Config.row, plRow];done)|(simp[envCat, tkL0, SI.row, Node.row, Pfx.row, Link.row, srow, Line.row, Rule.row, Box.row, Slc.row, Config.row, plRow];rw[IntKind.wrap_i64];omega)),?_⟩
 rintro k ⟨hk,h0,h1,h2,h3,h4,h5⟩
 (conv=>whnf)
 obtain rfl|rfl|rfl|rfl|rfl|rfl|rfl:k=0\/k=1\/k=2\/k=3\/k=4\/k=5\/k=6:=by omega
 . have pp:=p0
   (try (conv=>whnf));repeat' (first|refine Ok.seq ?_|((first|refine Ok.region tok ?_|refine Ok.cond ?_);conv=>whnf)|refine Ok.block ?_|((first|refine Ok.skip ?_|refine Ok.ret ?_|refine nI ?_);conv=>whnf)|(refine Or.inl ?_;(conv=>whnf);(repeat (refine aI ?_;conv=>whnf));refine⟨_,pp,rfl,?_⟩;conv=>whnf)|(refine bI ?_ ?_<;>intro<;>(conv=>whnf)<;>(try (exfalso;omega)))|((first|refine aJ ?_|refine⟨_,rfl,?_⟩);conv=>whnf)|fail)
   all_goals first
    | (rename_i hz
       refine Or.inl ?_;(conv=>whnf)
       have:checkO c.b=headO c.b:=by unfold checkO;rw[orE_bad hz]
       rw[this]
       rfl)
    | (rename_i hz
       refine⟨1,by omega,⟨by omega,fun _=>Classical.not_not.1 hz,fun h=>absurd h (by omega),fun h=>absurd h (by omega),fun h=>absurd h (by omega),fun h=>absurd h (by omega),fun h=>absurd h (by omega)⟩,?_⟩
       (conv=>whnf)
       rfl)
 . have pp:=p1
   (try (conv=>whnf));repeat' (first|refine Ok.seq ?_|((first|refine Ok.region tok ?_|refine Ok.cond ?_);conv=>whnf)|refine Ok.block ?_|((first|refine Ok.skip ?_|refine Ok.ret ?_|refine nI ?_);conv=>whnf)|(refine Or.inl ?_;(conv=>whnf);(repeat (refine aI ?_;conv=>whnf));refine⟨_,pp,rfl,?_⟩;conv=>whnf)|(refine bI ?_ ?_<;>intro<;>(conv=>whnf)<;>(try (exfalso;omega)))|((first|refine aJ ?_|refine⟨_,rfl,?_⟩);conv=>whnf)|fail)
   all_goals first
    | (rename_i hz
       refine Or.inl ?_;(conv=>whnf)
       have:checkO c.b=countO c.b:=by unfold checkO;rw[orE_ok (h0 (by omega)),orE_bad hz]
       rw[this]
       rfl)
    | (rename_i hz
       refine⟨2,by omega,⟨by omega,fun _=>h0 (by omega),fun _=>Classical.not_not.1 hz,fun h=>absurd h (by omega),fun h=>absurd h (by omega),fun h=>absurd h (by omega),fun h=>absurd h (by omega)⟩,?_⟩
       (conv=>whnf)
       rfl)
 . have pp:=p2
   (try (conv=>whnf));repeat' (first|refine Ok.seq ?_|((first|refine Ok.region tok ?_|refine Ok.cond ?_);conv=>whnf)|refine Ok.block ?_|((first|refine Ok.skip ?_|refine Ok.ret ?_|refine nI ?_);conv=>whnf)|(refine Or.inl ?_;(conv=>whnf);(repeat (refine aI ?_;conv=>whnf));refine⟨_,pp,rfl,?_⟩;conv=>whnf)|(refine bI ?_ ?_<;>intro<;>(conv=>whnf)<;>(try (exfalso;omega)))|((first|refine aJ ?_|refine⟨_,rfl,?_⟩);conv=>whnf)|fail)
   all_goals first
    | (rename_i hz
       refine Or.inl ?_;(conv=>whnf)
       have:checkO c.b=nameO c.b:=by unfold checkO;rw[orE_ok (h0 (by omega)),orE_ok (h1 (by omega)),orE_bad hz]
       rw[this]
       rfl)
    | (rename_i hz
       refine⟨3,by omega,⟨by omega,fun _=>h0 (by omega),fun _=>h1 (by omega),fun _=>Classical.not_not.1 hz,fun h=>absurd h (by omega),fun h=>absurd h (by omega),fun h=>absurd h (by omega)⟩,?_⟩
       (conv=>whnf)
       rfl)
 . have pp:=(p3 (head_ok (h0 (by omega))) (h2 (by omega)))
   (try (conv=>whnf));repeat' (first|refine Ok.seq ?_|((first|refine Ok.region tok ?_|refine Ok.cond ?_);conv=>whnf)|refine Ok.block ?_|((first|refine Ok.skip ?_|refine Ok.ret ?_|refine nI ?_);conv=>whnf)|(refine Or.inl ?_;(conv=>whnf);(repeat (refine aI ?_;conv=>whnf));refine⟨_,pp,rfl,?_⟩;conv=>whnf)|(refine bI ?_ ?_<;>intro<;>(conv=>whnf)<;>(try (exfalso;omega)))|((first|refine aJ ?_|refine⟨_,rfl,?_⟩);conv=>whnf)|fail)
   all_goals first
    | (rename_i hz
       refine Or.inl ?_;(conv=>whnf)
       have:checkO c.b=deedO c.b:=by unfold checkO;rw[orE_ok (h0 (by omega)),orE_ok (h1 (by omega)),orE_ok (h2 (by omega)),orE_bad hz]
       rw[this]
       rfl)
    | (rename_i hz
       refine⟨4,by omega,⟨by omega,fun _=>h0 (by omega),fun _=>h1 (by omega),fun _=>h2 (by omega),fun _=>Classical.not_not.1 hz,fun h=>absurd h (by omega),fun h=>absurd h (by omega)⟩,?_⟩
       (conv=>whnf)
       rfl)
 . have pp:=(p4 (h2 (by omega)) (h1 (by omega)))
   (try (conv=>whnf));repeat' (first|refine Ok.seq ?_|((first|refine Ok.region tok ?_|refine Ok.cond ?_);conv=>whnf)|refine Ok.block ?_|((first|refine Ok.skip ?_|refine Ok.ret ?_|refine nI ?_);conv=>whnf)|(refine Or.inl ?_;(conv=>whnf);(repeat (refine aI ?_;conv=>whnf));refine⟨_,pp,rfl,?_⟩;conv=>whnf)|(refine bI ?_ ?_<;>intro<;>(conv=>whnf)<;>(try (exfalso;omega)))|((first|refine aJ ?_|refine⟨_,rfl,?_⟩);conv=>whnf)|fail)
   all_goals first
    | (rename_i hz
       refine Or.inl ?_;(conv=>whnf)
       have:checkO c.b=linkO c.b:=by unfold checkO;rw[orE_ok (h0 (by omega)),orE_ok (h1 (by omega)),orE_ok (h2 (by omega)),orE_ok (h3 (by omega)),orE_bad hz]
       rw[this]
       rfl)
    | (rename_i hz
       refine⟨5,by omega,⟨by omega,fun _=>h0 (by omega),fun _=>h1 (by omega),fun _=>h2 (by omega),fun _=>h3 (by omega),fun _=>Classical.not_not.1 hz,fun h=>absurd h (by omega)⟩,?_⟩
       (conv=>whnf)
       rfl)
 . have pp:=(p5 (h2 (by omega)) (h1 (by omega)))
   (try (conv=>whnf));repeat' (first|refine Ok.seq ?_|((first|refine Ok.region tok ?_|refine Ok.cond ?_);conv=>whnf)|refine Ok.block ?_|((first|refine Ok.skip ?_|refine Ok.ret ?_|refine nI ?_);conv=>whnf)|(refine Or.inl ?_;(conv=>whnf);(repeat (refine aI ?_;conv=>whnf));refine⟨_,pp,rfl,?_⟩;conv=>whnf)|(refine bI ?_ ?_<;>intro<;>(conv=>whnf)<;>(try (exfalso;omega)))|((first|refine aJ ?_|refine⟨_,rfl,?_⟩);conv=>whnf)|fail)
   all_goals first
    | (rename_i hz
       refine Or.inl ?_;(conv=>whnf)
       have:checkO c.b=sliceO c.b:=by unfold checkO;rw[orE_ok (h0 (by omega)),orE_ok (h1 (by omega)),orE_ok (h2 (by omega)),orE_ok (h3 (by omega)),orE_ok (h4 (by omega))]
       rw[this]
       rfl)
    | (rename_i hz
       refine⟨6,by omega,⟨by omega,fun _=>h0 (by omega),fun _=>h1 (by omega),fun _=>h2 (by omega),fun _=>h3 (by omega),fun _=>h4 (by omega),fun _=>Classical.not_not.1 hz⟩,?_⟩
       (conv=>whnf)
       rfl)
 . (try (conv=>whnf));repeat' (first|refine Ok.seq ?_|((first|refine Ok.region tok ?_|refine Ok.cond ?_|refine Ok.exit ?_|refine Ok.ret ?_);conv=>whnf)|(refine bI ?_ ?_<;>intro<;>(conv=>whnf)<;>(try (exfalso;omega)))|fail)
   all_goals first
    | (exfalso;omega)
    | (refine Or.inl ?_;(conv=>whnf)
       have h6:checkO c.b=sliceO c.b:=by unfold checkO;rw[orE_ok (h0 (by omega)),orE_ok (h1 (by omega)),orE_ok (h2 (by omega)),orE_ok (h3 (by omega)),orE_ok (h4 (by omega))]
       have h7:sliceO c.b=(0,[]):=firstE_emp (h5 (by omega))
       rw[h6,h7]
       rfl)
end Go.Proofs.YtnlingegeangmaaGreatDoor
namespace Go.Proofs.YtnlingegeangmaaGreatDoor
open Go Go.Vx
theorem check_parts{c:ConfigB}(h:(checkO c).1=0):(headO c).1=0/\(countO c).1=0/\(nameO c).1=0/\(deedO c).1=0/\(linkO c).1=0/\(sliceO c).1=0:=by
 unfold checkO at h
 by_cases h0:(headO c).1=0
 . rw[orE_ok h0] at h
   by_cases h1:(countO c).1=0
   . rw[orE_ok h1] at h
     by_cases h2:(nameO c).1=0
     . rw[orE_ok h2] at h
       by_cases h3:(deedO c).1=0
       . rw[orE_ok h3] at h
         by_cases h4:(linkO c).1=0
         . rw[orE_ok h4] at h
           exact⟨h0,h1,h2,h3,h4,h⟩
         . exact absurd (by rwa [orE_bad h4] at h) h4
       . exact absurd (by rwa [orE_bad h3] at h) h3
     . exact absurd (by rwa [orE_bad h2] at h) h2
   . exact absurd (by rwa [orE_bad h1] at h) h1
 . exact absurd (by rwa [orE_bad h0] at h) h0
end Go.Proofs.YtnlingegeangmaaGreatDoor
namespace Go.Proofs.YtnlingegeangmaaGreatDoor
open Go Go.Vx
section
variable {fs : List Fd} {pre : List SI} {s : SI}
theorem setE_unk(h:findI s.s fs 0<0):setE fs pre s=(41,[]):=if_pos h
theorem setE_dup(h:¬ findI s.s fs 0<0)(h2:∃ t ∈ pre,t.s=s.s):setE fs pre s=(45,[]):=by unfold setE;rw[if_neg h,if_pos h2]
theorem setE_val(h:¬ findI s.s fs 0<0)(h2:¬ ∃ t ∈ pre,t.s=s.s)(h3:s.n<0\/(tw ((fs[(findI s.s fs 0).toNat]?).getD ⟨[],0⟩).bits.toNat:Int) - 1<s.n):setE fs pre s=(42,[]):=by unfold setE;rw[if_neg h,if_neg h2,if_pos h3]
theorem setE_ok(h:¬ findI s.s fs 0<0)(h2:¬ ∃ t ∈ pre,t.s=s.s)(h3:¬ (s.n<0\/(tw ((fs[(findI s.s fs 0).toNat]?).getD ⟨[],0⟩).bits.toNat:Int) - 1<s.n)):setE fs pre s=(0,[]):=by unfold setE;rw[if_neg h,if_neg h2,if_neg h3]
end
theorem wordI_long{fs:List Fd}{l:List SI}(h:12<l.length):wordI fs l=2:=if_pos h
theorem wordI_ok{fs:List Fd}{l:List SI}(h:¬ 12<l.length)(h2:(chkO fs).1=0):wordI fs l=(firstE (setE fs) [] l).1:=by unfold wordI;rw[if_neg h,if_neg (fun g=>g h2)]
theorem widd_split{l:List Fd}{k:Nat}{c:Fd}(hc:l[k]? = some c):wid (l.take k)+c.bits.toNat<=wid l:=by
 rw[<- wid_snoc hc,wid_app l (k+1)]
 omega
end Go.Proofs.YtnlingegeangmaaGreatDoor
namespace Go.Proofs.YtnlingegeangmaaGreatDoor
open Go Go.Vx
structure Prt where
 name:Str
 box:Nat
 inn:Prop
 dst:Int
def Prt.row(x:Prt):List D:=[.s x.name,.i .i64 (x.box:Nat),.b x.inn,.i .i64 x.dst]
def prtB(n:Nat)(b:BoxB):List Prt:=(b.ins.map fun s=>⟨dot b.name s,n,True,-1⟩)++(b.outs.map fun s=>⟨dot b.name s,n,False,-1⟩)
def prtsN:Nat->List BoxB->List Prt
 | _,[]=>[]
 | n,b :: bs=>prtB n b++prtsN (n+1) bs
theorem prtsN_names(n:Nat)(l:List BoxB):(prtsN n l).map Prt.name=fullsL l:=by
 induction l generalizing n with
 | nil=>rfl
 | cons b l ih=>
  rw[fullsL_cons,prtsN,List.map_append,ih]
  simp[prtB,Function.comp_def]
end Go.Proofs.YtnlingegeangmaaGreatDoor
namespace Go.Proofs
open Go.Shelf
def Tryz.vxItoa_ren:Go.Shelf.Ren:=⟨fun|171=>150|243=>175|246=>216|283=>237|284=>238|285=>239|286=>240|129=>189|317=>254|318=>255|319=>256|320=>257|337=>274|338=>275|n=>n,fun|3=>3|9=>9|2=>2|4=>4|171=>346|0=>0|53=>285|37=>302|5=>5|173=>348|212=>364|51=>283|20=>20|213=>365|46=>253|232=>392|233=>393|n=>n,fun|17=>2|18=>4|19=>5|n=>n⟩
theorem Tryz.vxItoa:Go.Proofs.LaysM.n171 Tryz.prog Tryz.vxItoa_ren:={
 mixed:=by kernel_rfl
 f129:=Tryz.func189.trans (congrArg some (by kernel_rfl))
 f171:=Tryz.func150.trans (congrArg some (by kernel_rfl))
 f243:=Tryz.func175.trans (congrArg some (by kernel_rfl))
 f246:=Tryz.func216.trans (congrArg some (by kernel_rfl))
 f283:=Tryz.func237.trans (congrArg some (by kernel_rfl))
 f284:=Tryz.func238.trans (congrArg some (by kernel_rfl))
 f285:=Tryz.func239.trans (congrArg some (by kernel_rfl))
 f286:=Tryz.func240.trans (congrArg some (by kernel_rfl))
 f317:=Tryz.func254.trans (congrArg some (by kernel_rfl))
 f318:=Tryz.func255.trans (congrArg some (by kernel_rfl))
 f319:=Tryz.func256.trans (congrArg some (by kernel_rfl))
 f320:=Tryz.func257.trans (congrArg some (by kernel_rfl))
 f337:=Tryz.func274.trans (congrArg some (by kernel_rfl))
 f338:=Tryz.func275.trans (congrArg some (by kernel_rfl))
 t0:=Tryz.underlying0
 a0:=Tryz.isAgg0
 z0:=Tryz.sizeOf0
 v0:=Tryz.zeroValue0
 t2:=Tryz.underlying2
 a2:=Tryz.isAgg2
 z2:=Tryz.sizeOf2
 v2:=Tryz.zeroValue2
 t3:=Tryz.underlying3
 a3:=Tryz.isAgg3
 z3:=Tryz.sizeOf3
 v3:=Tryz.zeroValue3
 t4:=Tryz.underlying4
 a4:=Tryz.isAgg4
 z4:=Tryz.sizeOf4
 v4:=Tryz.zeroValue4
 t5:=Tryz.underlying5
 a5:=Tryz.isAgg5
 z5:=Tryz.sizeOf5
 v5:=Tryz.zeroValue5
 t9:=Tryz.underlying9
 a9:=Tryz.isAgg9
 z9:=Tryz.sizeOf9
 v9:=Tryz.zeroValue9
 t20:=Tryz.underlying20
 a20:=Tryz.isAgg20
 z20:=Tryz.sizeOf20
 v20:=Tryz.zeroValue20
 t37:=Tryz.underlying302
 a37:=Tryz.isAgg302
 z37:=Tryz.sizeOf302
 v37:=Tryz.zeroValue302
 t46:=Tryz.underlying253
 a46:=Tryz.isAgg253
 z46:=Tryz.sizeOf253
 v46:=Tryz.zeroValue253
 t51:=Tryz.underlying283
 a51:=Tryz.isAgg283
 z51:=Tryz.sizeOf283
 v51:=Tryz.zeroValue283
 t53:=Tryz.underlying285
 a53:=Tryz.isAgg285
 z53:=Tryz.sizeOf285
 v53:=Tryz.zeroValue285
 t171:=Tryz.underlying346
 a171:=Tryz.isAgg346
 z171:=Tryz.sizeOf346
 v171:=Tryz.zeroValue346
 t173:=Tryz.underlying348
 a173:=Tryz.isAgg348
 z173:=Tryz.sizeOf348
 v173:=Tryz.zeroValue348
 t212:=Tryz.underlying364
 a212:=Tryz.isAgg364
 z212:=Tryz.sizeOf364
 v212:=Tryz.zeroValue364
 t213:=Tryz.underlying365
 a213:=Tryz.isAgg365
 z213:=Tryz.sizeOf365
 t232:=Tryz.underlying392
 a232:=Tryz.isAgg392
 z232:=Tryz.sizeOf392
 v232:=Tryz.zeroValue392
 t233:=Tryz.underlying393
 a233:=Tryz.isAgg393
 z233:=Tryz.sizeOf393
 v233:=Tryz.zeroValue393
 g17:=by kernel_rfl
 g18:=by kernel_rfl
 g19:=by kernel_rfl
 i0:=by kernel_rfl
 i2:=by kernel_rfl
 i3:=by kernel_rfl
 i4:=by kernel_rfl
 i5:=by kernel_rfl
 i9:=by kernel_rfl
 i20:=by kernel_rfl
 i37:=by kernel_rfl
 i46:=by kernel_rfl
 i51:=by kernel_rfl
 i53:=by kernel_rfl
 i171:=by kernel_rfl
 i173:=by kernel_rfl
 i212:=by kernel_rfl
 i232:=by kernel_rfl
 i233:=by kernel_rfl
 m17:=by kernel_rfl
 m18:=by kernel_rfl
 m19:=by kernel_rfl }
end Go.Proofs
namespace Go.Proofs.YtnlingegeangmaaGreatDoor
open Go Go.Vx Go.RowKit Go.Shelf Go.Proofs
theorem text_of{P:Program}{T:Tab}{f:FuncId}{ds:List D}{l:List UInt8}(hcall:∀ args w,(callFunc f args).run P w = .ok (.enter f args) w)
    (h:∀ (V:Vw) (w:World) (args:Array Value),VOk V w->args.size=ds.length->(∀ (j:Nat) v d,args[j]? = some v->ds[j]? = some d->RI (szOf T) V v d)->Calls P f args w fun q w'=>
     q = .returned (.string ⟨l.toArray⟩)/\Below w.heap.size w w') :
    FSpec P T f ds fun d _=>d = .s l:=by
 refine⟨hcall,fun V w args hV hl hR=>(h V w args hV hl hR).mono ?_⟩
 rintro q w' ⟨rfl,hb⟩
 exact⟨V,[],[],_,_,rfl,rfl,.imm _ _ (.s l),hb,fun _ _ h=>h,hV.ext hb,fun _ _=>rfl,rfl,by simp,by simp,by simp⟩
theorem below_gr(w:World)(n:Nat)(os:Array Obj):Below w.heap.size w (Sort.grow (w.drewN n) os):=by
 have h:(w.drewN n).heap=w.heap:=rfl
 refine⟨rfl,rfl,rfl,?_,fun k hk=>?_⟩
 . show w.heap.size<=(w.heap++os).size
   simp
 . show (w.heap++os)[k]? = _
   rw[Array.getElem?_append_left hk]
theorem pow10_gt{w:World}(h:GT w):Lib.TabIs Tryz.prog w "internal/strconv.uint64pow10" .u64 Lib.pow10Tab:=by
 obtain⟨_,a,b,hw⟩:=h 2 _ rfl
 unfold Lib.TabIs World.var?
 rw[show Tryz.prog.globalNamed "internal/strconv.uint64pow10" = some 2 from by kernel_rfl]
 simp only[Option.bind_some,hw]
 rfl
theorem itoa_ok:ItoaOk:=by
 intro n h0 h1
 refine text_of Tryz.call150 fun V w args hV hl hR=>?_
 have hl1:args.size=1:=hl
 have h2:args[0]? = some args[0]:=Array.getElem?_eq_getElem (by omega)
 have h3:args=#[.int .i64 n]:=by
  have:=int_arg (hR 0 _ _ h2 rfl)
  rw[this] at h2
  apply Array.ext'
  apply List.ext_getElem?
  intro i
  match i with
  | 0=>simpa using h2
  | i+1=>simp;omega
 subst h3
 refine (Any.strconv_Itoa Tryz.vxItoa n h0 h1 w (pow10_gt hV.1.2)).mono ?_
 rintro e w' ⟨rfl,k,os,rfl⟩
 exact⟨rfl,below_gr w k os⟩
end Go.Proofs.YtnlingegeangmaaGreatDoor
namespace Go.Proofs.YtnlingegeangmaaGreatDoor
open Go Go.Vx
theorem word_ok:WordOk:=by
 intro l r S r2 hch hS
 obtain⟨hlay,hl12⟩:=chk_lay hch
 have hSl:(S.map SI.row).length=S.length:=by simp
 have hll:(l.map frow).length=l.length:=by simp
 have hrc:=check_at l r (by omega)
 have hw:=wid_le hlay
 have hrw:=width_at l r (by omega) hlay
 have hxs:=xrep_at (wid l) (by omega)
 have hxl:(xsT (wid l)).length=wid l:=by simp[xsT]
 rw[show chkO l=(0,(chkO l).2) from by rw[<- hch]] at hrc
 refine FSpec.of_ok tok Tryz.func174 rfl Tryz.call174 (by simp) ?_
 by_cases h12:12<S.length
 . (try (conv=>whnf));repeat' (first|refine Ok.seq ?_|((first|refine Ok.region tok ?_|refine Ok.cond ?_|refine Ok.ret ?_);conv=>whnf)|(refine bI ?_ ?_<;>intro<;>(conv=>whnf)<;>(try (exfalso;omega)))|fail)
   all_goals first
    | (exfalso;omega)
    | (refine Or.inl ?_;(conv=>whnf)
       exact⟨⟨_,by rw[wordI_long h12];rfl⟩,rfl⟩)
 (try (conv=>whnf));repeat' (first|refine Ok.seq ?_|((first|refine Ok.region tok ?_|refine Ok.cond ?_);conv=>whnf)|refine Ok.block ?_|(refine Ok.skip ?_;conv=>whnf)|(refine Or.inl ?_;(conv=>whnf);(repeat (refine aI ?_;conv=>whnf));refine⟨_,hrc,rfl,?_⟩;conv=>whnf)|(refine Or.inl ?_;(conv=>whnf);(repeat (refine aI ?_;conv=>whnf));refine⟨_,hrw,rfl,?_⟩;conv=>whnf)|(refine Or.inl ?_;(conv=>whnf);(repeat (refine aI ?_;conv=>whnf));refine⟨_,hxs,rfl,?_⟩;conv=>whnf)|(refine bI ?_ ?_<;>intro<;>(conv=>whnf)<;>(try (exfalso;omega)))|(refine aJ ?_;conv=>whnf)|fail)
 all_goals first
  | (exfalso;omega)
  | skip
 have hwI:=wordI_ok h12 hch
 rw[hxl]
 refine Ok.loopU [0,1,8,35,36] [37] 1 0 (fun (x:Nat × Str)=>[.i .i64 (x.1:Nat)]) (fun _ b=>b) (fun (x:Nat × Str) (_:Vx.Rows)=>[some (Nat.add 5 BIG,x.2.map bcell)]) (fun (x:Nat × Str)=>x.1<=S.length/\x.2.length=wid l/\wordI l S=(firstE (setE l) (S.take x.1) (S.drop x.1)).1) (fun (x:Nat × Str)=>S.length - x.1) ((0,xsT (wid l))) (⟨Nat.zero_le _,hxl,hwI⟩) ?_;(conv=>whnf);refine⟨by ((conv=>whnf);first|rfl|(simp[envCat, tkL0, SI.row, Node.row, Pfx.row, Link.row, srow, Line.row, Rule.row, Box.row, Slc.row, Config.row, frow, bcell];done)|(simp[envCat, tkL0, SI.row, Node.row, Pfx.row, Link.row, srow, Line.row, Rule.row, Box.row, Slc.row, Config.row, frow, bcell];rw[IntKind.wrap_i64];omega)),?_⟩
 rintro⟨i,w⟩ ⟨hi,hwl,hfe⟩
 dsimp only at hi hwl hfe ⊢
 have hwb:(w.map bcell).length=wid l:=by rw[lMp0,hwl]
 (conv=>whnf)
 by_cases hil:i<S.length
 . obtain⟨s,hs⟩:∃ s,S[i]? = some s:=⟨_,gEt0 hil⟩
   have hsI:S[((i:Nat):Int).toNat]? = some s:=hs
   have hsR:(S.map SI.row)[((i:Nat):Int).toNat]? = some s.row:=by rw[gMp0,hsI];rfl
   have htp:=find_at l r s.s (by omega)
   by_cases hu:findI s.s l 0<0
   . rw[firstE_bad hs (by rw[setE_unk hu];simp),setE_unk hu] at hfe
     (try (conv=>whnf));repeat' (first|refine Ok.seq ?_|((first|refine Ok.region tok ?_|refine Ok.cond ?_);conv=>whnf)|refine Ok.block ?_|((first|refine Ok.skip ?_|refine Ok.ret ?_|refine ix _ (by assumption) ?_);conv=>whnf)|(refine Or.inl ?_;(conv=>whnf);(repeat (refine aI ?_;conv=>whnf));refine⟨_,htp,rfl,?_⟩;conv=>whnf)|(refine bI ?_ ?_<;>intro<;>(conv=>whnf)<;>(try (exfalso;omega)))|fail)
     all_goals first
      | (exfalso;omega)
      | (refine Or.inl ?_;(conv=>whnf)
         exact⟨⟨_,by rw[hfe];rfl⟩,rfl⟩)
   obtain⟨k,hk⟩:∃ k:Nat,findI s.s l 0=k:=⟨(findI s.s l 0).toNat,by omega⟩
   have hkl:k<l.length:=by have:=(findI_ge s.s l 0).2.2;omega
   obtain⟨f,hf⟩:∃ f,l[k]? = some f:=⟨_,gEt0 hkl⟩
   have hfI:l[((k:Nat):Int).toNat]? = some f:=hf
   have hfR:(l.map frow)[((k:Nat):Int).toNat]? = some (frow f):=by rw[gMp0,hfI];rfl
   have hfb:=hlay f (mOf0 hf)
   rw[hk] at htp
   have hws:=widd_split hf
   have hmt:((S.map SI.row++r2).take i).drop 0=(S.take i).map SI.row:=by rw[List.drop_zero,List.take_append_of_le_length (by omega),List.map_take]
   have hml:((S.take i).map SI.row).length=i:=by simp;omega
   (try (conv=>whnf));repeat' (first|refine Ok.seq ?_|((first|refine Ok.region tok ?_|refine Ok.cond ?_);conv=>whnf)|refine Ok.block ?_|((first|refine Ok.skip ?_|refine ix _ (by assumption) ?_);conv=>whnf)|(refine Or.inl ?_;(conv=>whnf);(repeat (refine aI ?_;conv=>whnf));refine⟨_,htp,rfl,?_⟩;conv=>whnf)|(refine⟨_,_,rfl,rfl,?_⟩;conv=>whnf)|(refine bI ?_ ?_<;>intro<;>(conv=>whnf)<;>(try (exfalso;omega)))|(refine aJ ?_;conv=>whnf)|fail)
   have hnu:¬ findI s.s l 0<0:=hu
   have hml2:(((S.map SI.row++r2).take i).drop 0).length=i:=by rw[hmt,hml]
   refine Ok.loopU [0,1,8,10,11,35,36,37,50,51] [52] 1 1 (fun (j:Nat)=>[.i .i64 (j:Nat)]) (fun _ b=>b) (fun _ r=>r) (fun (j:Nat)=>j<=i/\∀ (m:Nat) q,m<j->S[m]? = some q->q.s ≠ s.s) (fun (j:Nat)=>i - j) (0) (⟨Nat.zero_le _,fun m q hm=>absurd hm (by omega)⟩) ?_;(conv=>whnf);refine⟨by ((conv=>whnf);first|rfl|(simp[envCat, tkL0, SI.row, Node.row, Pfx.row, Link.row, srow, Line.row, Rule.row, Box.row, Slc.row, Config.row, frow, bcell];done)|(simp[envCat, tkL0, SI.row, Node.row, Pfx.row, Link.row, srow, Line.row, Rule.row, Box.row, Slc.row, Config.row, frow, bcell];rw[IntKind.wrap_i64];omega)),?_⟩
   rintro j ⟨hj,hall⟩
   (conv=>whnf)
   by_cases hji:j<i
   . obtain⟨q,hq⟩:∃ q,S[j]? = some q:=⟨_,gEt0 (by omega)⟩
     have hqI:S[((j:Nat):Int).toNat]? = some q:=hq
     have hqR:(((S.map SI.row++r2).take i).drop 0)[((j:Nat):Int).toNat]? = some q.row:=by
      rw[hmt]
      show ((S.take i).map SI.row)[j]? = _
      rw[gMp0,List.getElem?_take_of_lt hji,hq]
      rfl
     have hqm:q ∈ S.take i:=mOf0 (i:=j) (by rw[List.getElem?_take_of_lt hji];exact hq)
     (try (conv=>whnf));repeat' (first|refine Ok.seq ?_|((first|refine Ok.region tok ?_|refine Ok.cond ?_);conv=>whnf)|refine Ok.block ?_|((first|refine Ok.skip ?_|refine Ok.ret ?_|refine nI ?_|refine⟨_,by assumption,?_⟩);conv=>whnf)|(refine bI ?_ ?_<;>intro<;>(conv=>whnf)<;>(try (exfalso;omega)))|(refine aJ ?_;conv=>whnf)|fail)
     . rename_i he
       rw[firstE_bad hs (by rw[setE_dup hnu ⟨q,hqm,he⟩];simp),setE_dup hnu ⟨q,hqm,he⟩] at hfe
       refine Or.inl ?_;(conv=>whnf)
       exact⟨⟨_,by rw[hfe];rfl⟩,rfl⟩
     . rename_i he
       refine⟨j+1,by omega,⟨by omega,fun m x hm hx=>?_⟩,?_⟩
       . by_cases hmj:m=j
         . subst hmj;rw[hq] at hx;cases hx;exact he
         . exact hall m x (by omega) hx
       . (conv=>whnf)
         rfl
   obtain rfl:j=i:=by omega
   have hno:¬ ∃ t ∈ S.take j,t.s=s.s:=by
    rintro⟨q,hq,h⟩
    obtain⟨m,hm⟩:=List.getElem?_of_mem hq
    have hmj:m<j:=by have:=(gSm0.1 hm).1;rw[List.length_take] at this;omega
    rw[List.getElem?_take_of_lt hmj] at hm
    exact hall m q hmj hm h
   have hfb2:((l[(findI s.s l 0).toNat]?).getD ⟨[],0⟩).bits=f.bits:=by rw[hk,hfI];rfl
   obtain⟨B,hB⟩:∃ B:Nat,f.bits=B:=⟨f.bits.toNat,by omega⟩
   have hBt:f.bits.toNat=B:=by omega
   have htop:=top_at B (by omega)
   rw[<- hB] at htop
   have htw:(0:Int)<tw B:=by have:=tw_pos B;omega
   have htw2:=tw62 (k:=B) (by omega)
   by_cases hv:s.n<0\/(tw B:Int) - 1<s.n
   . have hb:=setE_val hnu hno (by rw[hfb2,hBt];exact hv)
     rw[firstE_bad hs (by rw[hb];simp),hb] at hfe
     (try (conv=>whnf));repeat' (first|refine Ok.seq ?_|((first|refine Ok.region tok ?_|refine Ok.region_draw tok follows (by kernel_rfl) ?_|refine Ok.cond ?_|refine Ok.exit ?_|refine Ok.ret ?_|refine ix _ (by assumption) ?_|refine⟨_,by assumption,?_⟩);conv=>whnf)|(refine bI ?_ ?_<;>intro<;>(conv=>whnf)<;>(try (exfalso;omega)))|(refine aJ ?_;conv=>whnf)|fail)
     all_goals first
      | (exfalso;omega)
      | (refine Or.inl ?_;(conv=>whnf)
         exact⟨⟨_,by rw[hfe];rfl⟩,rfl⟩)
   have hok:=setE_ok hnu hno (by rw[hfb2,hBt];exact hv)
   rw[firstE_ok hs (by rw[hok])] at hfe
   obtain⟨v,hvn⟩:∃ v:Nat,s.n=v:=⟨s.n.toNat,by omega⟩
   have hdg:=binary_at v B B (by omega) (by omega) (by omega)
   have hbl:=binT_len v B B
   rw[<- hB,<- hvn] at hdg
   have hws':wid (l.take k)+B<=wid l:=by omega
   have hmk:((l.map frow++r).take k).drop 0=(l.take k).map frow:=by rw[List.drop_zero,List.take_append_of_le_length (by omega),List.map_take]
   have hwd:=width_at (l.take k) ((l.map frow++r).drop k) (by rw[List.length_take];omega) (fun x hx=>hlay x (List.mem_of_mem_take hx))
   rw[<- hmk] at hwd
   (try (conv=>whnf));repeat' (first|refine Ok.seq ?_|((first|refine Ok.region tok ?_|refine Ok.region_plan (id:=22) tok follows [(7,10,[]),(4,10,[]),(7,11,[10]),(4,11,[5]),(10,11,[])] [.q 0,.q 1,.q 2,.q 3,.q 6,.q 7,.q 8,.q 9,.l 4,.q 5,.l 10,.l 11] (by kernel_rfl) ?_|refine Ok.region_draw tok follows (by kernel_rfl) ?_|refine Ok.cond ?_|refine Ok.skip ?_|refine Ok.exit ?_|refine nI ?_|refine ix _ (by assumption) ?_|refine⟨_,by assumption,?_⟩);conv=>whnf)|(refine Or.inl ?_;(conv=>whnf);(repeat (refine aI ?_;conv=>whnf));refine⟨_,hdg,rfl,?_⟩;conv=>whnf)|(refine Or.inl ?_;(conv=>whnf);(repeat (refine aI ?_;conv=>whnf));refine⟨_,hwd,rfl,?_⟩;conv=>whnf)|(refine⟨_,_,rfl,rfl,?_⟩;conv=>whnf)|(refine bI ?_ ?_<;>intro<;>(conv=>whnf)<;>(try (exfalso;omega)))|((first|refine aJ ?_|refine⟨_,rfl,?_⟩);conv=>whnf)|fail)
   refine⟨(j+1,w.take (wid (l.take k))++binT v B B++w.drop (wid (l.take k)+(binT v B B).length)),by dsimp only;omega,⟨by dsimp only;omega,by simp;omega,hfe⟩,?_⟩
   dsimp only
   rw[List.map_append,List.map_append,List.map_take,List.map_drop]
   (conv=>whnf)
   rfl
 . obtain rfl:i=S.length:=by omega
   rw[firstE_nil (by simp)] at hfe
   (try (conv=>whnf));repeat' (first|(refine⟨w,by rw[tkL0 (by omega)],?_⟩;conv=>whnf)|refine Ok.seq ?_|((first|refine Ok.region tok ?_|refine Ok.cond ?_|refine Ok.exit ?_|refine Ok.ret ?_);conv=>whnf)|(refine bI ?_ ?_<;>intro<;>(conv=>whnf)<;>(try (exfalso;omega)))|(refine aJ ?_;conv=>whnf)|fail)
   all_goals first
    | (exfalso;omega)
    | (refine Or.inl ?_;(conv=>whnf)
       exact⟨⟨_,by rw[hfe];rfl⟩,rfl⟩)
end Go.Proofs.YtnlingegeangmaaGreatDoor
namespace Go.Proofs.YtnlingegeangmaaGreatDoor
open Go Go.Vx
theorem plcsN_eq:∀ (n:Nat) (bs:List BoxB),plcsN n bs=(prtsN n bs).map fun x=>(x.box,x.inn)
 | n,[]=>rfl
 | n,b :: bs=>by
  rw[plcsN_cons,prtsN,List.map_append,<- plcsN_eq (n+1) bs]
  simp[prtB,Function.comp_def]
theorem plcs_eq(bs:List BoxB):plcs bs=(prtsN 0 bs).map fun x=>(x.box,x.inn):=plcsN_eq 0 bs
def setD(fs:List Str)(l:List Prt)(x:Link):List Prt:=match l[(plc fs x.frm).toNat]? with
 | some p=>l.set (plc fs x.frm).toNat ⟨p.name,p.box,p.inn,plc fs x.dst⟩
 | none=>l
theorem setD_some{fs:List Str}{l:List Prt}{x:Link}{p:Prt}(h:l[(plc fs x.frm).toNat]? = some p):setD fs l x=l.set (plc fs x.frm).toNat ⟨p.name,p.box,p.inn,plc fs x.dst⟩:=by unfold setD;rw[h]
theorem setD_names(fs:List Str)(l:List Prt)(x:Link):(setD fs l x).map Prt.name=l.map Prt.name:=by
 unfold setD
 split
 . rename_i p hp
   apply List.ext_getElem?
   intro i
   by_cases hi:i=(plc fs x.frm).toNat
   . subst hi
     rw[gMp0,List.getElem?_set_self (gSm0.1 hp).1,gMp0,hp]
     rfl
   . rw[gMp0,List.getElem?_set_ne (Ne.symm hi),gMp0]
 . rfl
noncomputable def prtsW(c:ConfigB)(k:Nat):List Prt:=(c.links.take k).foldl (setD (fullsL c.boxes)) (prtsN 0 c.boxes)
theorem prtsW_succ{c:ConfigB}{k:Nat}{x:Link}(h:c.links[k]? = some x):prtsW c (k+1)=setD (fullsL c.boxes) (prtsW c k) x:=by
 unfold prtsW
 rw[List.take_add_one,h,List.foldl_append]
 rfl
theorem foldD_names(fs:List Str):∀ (l:List Link) (P:List Prt),(l.foldl (setD fs) P).map Prt.name=P.map Prt.name
 | [],_=>rfl
 | x :: l,P=>by rw[List.foldl_cons,foldD_names fs l,setD_names]
theorem prtsW_names(c:ConfigB)(k:Nat):(prtsW c k).map Prt.name=fullsL c.boxes:=by
 unfold prtsW
 rw[foldD_names,prtsN_names]
theorem prtsN_dst:∀ (n:Nat) (bs:List BoxB),∀ p ∈ prtsN n bs,p.dst=-1
 | _,[],p,h=>by cases h
 | n,b :: bs,p,h=>by
  rcases mAp0.1 h with h|h
  . rcases mAp0.1 h with h|h <;>
    . obtain⟨_,_,rfl⟩:=List.mem_map.1 h
      rfl
  . exact prtsN_dst _ bs p h
noncomputable def prtsF(c:ConfigB):List Prt:=prtsW c c.links.length
theorem prtsW_len(c:ConfigB)(k:Nat):(prtsW c k).length=(fullsL c.boxes).length:=by rw[<- prtsW_names c k,lMp0]
theorem link_known{c:ConfigB}(h:(linkO c).1=0){x:Link}(hx:x ∈ c.links):x.frm ∈ fullsL c.boxes/\x.dst ∈ fullsL c.boxes:=by
 obtain⟨k,hk⟩:=List.getElem?_of_mem hx
 have h1:=firstE_zero h k x hk
 refine⟨Classical.byContradiction fun hn=>?_,Classical.byContradiction fun hn=>?_⟩
 . have hI:x.frm ∉ fullIn c:=fun g=>hn (mem_fulls.2 (.inl g))
   have hU:x.frm ∉ fullOut c:=fun g=>hn (mem_fulls.2 (.inr g))
   have h2:sidesI [x.frm] (fullOut c) (fullIn c)=73:=by rw[sidesI_one,sideE_unk hU hI]
   rw[linkE_frm (by rw[h2];decide),h2] at h1
   cases h1
 . have hI:x.dst ∉ fullIn c:=fun g=>hn (mem_fulls.2 (.inl g))
   have hU:x.dst ∉ fullOut c:=fun g=>hn (mem_fulls.2 (.inr g))
   by_cases hf:sidesI [x.frm] (fullOut c) (fullIn c) ≠ 0
   . rw[linkE_frm hf] at h1
     exact hf h1
   . have h2:sidesI [x.dst] (fullIn c) (fullOut c)=73:=by rw[sidesI_one,sideE_unk hI hU]
     rw[linkE_to hf (by rw[h2];decide),h2] at h1
     cases h1
theorem setCells4{r:List D}{a b c d:D}(h:r.length=4):setCells r 0 [a,b,c,d]=[a,b,c,d]:=by
 unfold setCells
 rw[List.take_zero,List.drop_eq_nil_of_le (by simp[h])]
 rfl
def prt0:List D:=[.s [],.i .i64 0,.b False,.i .i64 0]
theorem mports_ok(c:Config)(hc:c.Ok)(ht:c.Tx)(h0:(checkO c.b).1=0) :
    FSpecH Tryz.prog T [] 84 [.agg c.row] (fun d rows M=>(d = .tup [.own 0 (prtsF c.b).length,.i .i64 0]/\rows=[some (147,(prtsF c.b).map Prt.row)])/\M=[]):=by
 have hck:=mcheck_at word_ok itoa_ok c hc ht
 rw[h0] at hck
 obtain⟨_,h1,h2,_,h4,_⟩:=check_parts h0
 have hpn:(fullsL c.b.boxes).length<=1000:=by rw[fullsL_len];have:=(count_ok h1).2.1;omega
 have hnum:=numbered_at c hc (tx_names ht) hpn
 have hpr:((plcs c.b.boxes).map plRow).length=(plcs c.b.boxes).length:=by simp
 have hll:(c.links.l.map Link.row).length=c.links.l.length:=by simp
 have hL:=hc.links
 have hpl:(plcs c.b.boxes).length=(fullsL c.b.boxes).length:=by rw[plcs_eq,lMp0,<- prtsN_names 0,lMp0]
 obtain⟨P,hP⟩:∃ P,P=prtsN 0 c.b.boxes:=⟨_,rfl⟩
 have hPn:P.map Prt.name=fullsL c.b.boxes:=by rw[hP,prtsN_names]
 have hPl:P.length=(fullsL c.b.boxes).length:=by rw[<- hPn,lMp0]
 have hPc:(plcs c.b.boxes)=P.map fun x=>(x.box,x.inn):=by rw[hP,plcs_eq]
 refine FSpecH.of_ok0 tok Tryz.func84 rfl Tryz.call84 (by simp) ?_
 (try (conv=>whnf));repeat' (first|(refine⟨_,_,_,_,_,_,_,mtSI,(by first|exact .head _|exact .tail _ (.head _)|exact .tail _ (.tail _ (.head _))|exact List.mem_append_left _ (by assumption)),fun _ _=>?_⟩;conv=>whnf)|(refine Or.inr (Or.inl ?_);(conv=>whnf);(repeat (refine aI ?_;conv=>whnf));refine⟨_,hnum , ?_⟩;rintro _ _ _ ⟨gn,lst,cn,rfl,rfl,rfl,hnm,hwf,hky⟩<;>(conv=>whnf))|refine OkM.seq ?_|((first|refine OkM.region tok ?_|refine OkM.cond ?_);conv=>whnf)|refine OkM.block ?_|(refine OkM.skip ?_;conv=>whnf)|(refine Or.inl ?_;(conv=>whnf);refine Or.inl ?_;(conv=>whnf);(repeat (refine aI ?_;conv=>whnf));refine⟨_,hck,rfl,?_⟩;conv=>whnf)|(refine⟨_,_,rfl,rfl,?_⟩;conv=>whnf)|(refine bI ?_ ?_<;>intro<;>(conv=>whnf)<;>(try (exfalso;omega)))|((first|refine aJ ?_|refine⟨_,rfl,?_⟩);conv=>whnf)|fail)
 rename_i gi hgi
 have hN:NumOk c.b lst:=⟨fulls_nodup h2,hnm,hky⟩
 have hat:∀ s,s ∈ fullsL c.b.boxes->∃ p,P[((lk lst s).getD 0).toNat]? = some p/\p.name=s/\lk lst s=some (plc (fullsL c.b.boxes) s)/\0<=(lk lst s).getD 0/\(lk lst s).getD 0<(P.length:Nat):=by
  intro s hs
  obtain⟨_,_,e1,_⟩:=hN.some hs
  obtain⟨g0,g1⟩:=plc_at hs
  have g2:=plc_lt (fullsL c.b.boxes) s
  rw[e1]
  simp only[Option.getD_some]
  have hk:(plc (fullsL c.b.boxes) s).toNat<P.length:=by omega
  refine⟨P[(plc (fullsL c.b.boxes) s).toNat],gEt0 hk,?_,trivial,g0,by omega⟩
  have h3:=congrArg (fun l=>l[(plc (fullsL c.b.boxes) s).toNat]?) hPn
  simp only[gMp0,gEt0 hk,g1,Option.map_some,Option.some.injEq] at h3
  exact h3
 have hplr:∀ (k:Nat) p,P[k]? = some p->((plcs c.b.boxes).map plRow)[k]? = some (plRow (p.box,p.inn)):=fun k p h=>by
  rw[hPc,List.map_map,gMp0,h]
  rfl
 refine OkM.loopU [1,6,7,8,30] [] 2 1 (fun (x:List (List D) × List Nat)=>[]) (fun (x:List (List D) × List Nat) (_:List (List D))=>[c.row]) (fun (x:List (List D) × List Nat) (_:Vx.Rows)=>[some (211,(plcs c.b.boxes).map plRow),some (147,x.1)]) (fun (x:List (List D) × List Nat)=>[(gi,itObj gn cn x.2),(gn,mObj D.s fI lst cn)]) (fun (x:List (List D) × List Nat)=>(x.1.length=P.length/\∀ r ∈ x.1,r.length=4)/\∀ e ∈ lst,e.2.2 ∈ x.2->x.1[e.2.1.toNat]? = (P[e.2.1.toNat]?).map Prt.row) (fun (x:List (List D) × List Nat)=>(lst.filter fun e=>decide (e.2.2 ∉ x.2)).length) ((List.replicate (plcs c.b.boxes).length prt0,[])) (⟨⟨(List.length_replicate ..).trans (hpl.trans hPl.symm),fun r hr=>by rw[(List.mem_replicate.1 hr).2];simp[prt0]⟩,fun e _ h=>by cases h⟩) (by first|exact .refl _|exact .cons _ (.refl _)|exact List.nil_sublist _) ?_;(conv=>whnf);refine⟨by ((conv=>whnf);first|rfl|(simp[envCat, tkL0, SI.row, Node.row, Pfx.row, Link.row, srow, Line.row, Rule.row, Box.row, Slc.row, Config.row, plRow, Prt.row];done)|(simp[envCat, tkL0, SI.row, Node.row, Pfx.row, Link.row, srow, Line.row, Rule.row, Box.row, Slc.row, Config.row, plRow, Prt.row];rw[IntKind.wrap_i64];omega)),?_⟩
 rintro⟨R,seen⟩ ⟨⟨hRl,hR4⟩,hRs⟩
 dsimp only at hRl hR4 hRs ⊢
 (conv=>whnf)
 refine OkM.seq ?_
 refine OkM.region tok ?_
 (conv=>whnf)
 refine⟨_,_,inferInstance,_,_,_,_,0,_,_,fun _=>rfl,fun _=>rfl,hwf,rfl,.tail _ (.head _),?_,?_⟩
 rotate_left
 . intro e he hns
   have hle:=lk_of hky he
   have heF:e.1 ∈ fullsL c.b.boxes:=(hN.some_iff e.1).1 (by rw[hle];rfl)
   obtain⟨p,hp,hpn2,h6,h7,h8⟩:=hat e.1 heF
   rw[hle] at hp h6 h7 h8
   simp only[Option.getD_some] at hp h7 h8
   have hpr2:=hplr _ p hp
   obtain⟨r0,hr0⟩:∃ r0,R[e.2.1.toNat]? = some r0:=⟨_,gEt0 (by omega)⟩
   have hr4:=hR4 r0 (mOf0 hr0)
   (conv=>whnf)
   (try (conv=>whnf));repeat' (first|(refine⟨_,_,inferInstance,_,_,_,_,0,_,_,e,fun _=>rfl,fun _=>rfl,hwf,rfl,.tail _ (.head _),he,?_⟩;conv=>whnf)|refine OkM.seq ?_|((first|refine OkM.region tok ?_|refine OkM.of_ok (Ok.region_plan (id:=9) tok follows [(7,15,[]),(12,15,[])] [.q 0,.q 1,.q 2,.q 3,.q 4,.q 5,.q 6,.q 7,.q 8,.q 9,.q 10,.q 11,.q 12,.q 13,.q 14,.l 15] (by kernel_rfl) ?_)|refine OkM.cond ?_);conv=>whnf)|refine OkM.block ?_|((first|refine OkM.skip ?_|refine⟨_,by assumption,?_⟩|refine aJ ?_|refine⟨_,rfl,?_⟩);conv=>whnf)|fail)
   have hsc:setCells r0 0 [D.s e.1,.i .i64 (p.box:Nat),.b p.inn,.i .i64 (-1)]=p.row:=by
    rw[setCells4 hr4,<- hpn2,<- prtsN_dst 0 c.b.boxes p (mOf0 (by rw[<- hP];exact hp))]
    rfl
   have hlt:e.2.1.toNat<R.length:=(gSm0.1 hr0).1
   refine⟨(R.set e.2.1.toNat (setCells r0 0 [D.s e.1,.i .i64 (p.box:Nat),.b p.inn,.i .i64 (-1)]),seen++[e.2.2]),seen_less he hns,⟨⟨by rw[List.length_set];exact hRl,fun r hr=>?_⟩,fun e2 he2 hs2=>?_⟩,List.Sublist.refl _,?_⟩
   . rw[hsc] at hr
     rcases List.mem_or_eq_of_mem_set hr with h|h
     . exact hR4 r h
     . rw[h];rfl
   . dsimp only at hs2 ⊢
     rw[hsc]
     by_cases hk:e2.2.1.toNat=e.2.1.toNat
     . rw[hk,List.getElem?_set_self hlt,hp]
       rfl
     . rw[List.getElem?_set_ne (Ne.symm hk)]
       rcases mAp0.1 hs2 with h|h
       . exact hRs e2 he2 h
       . exact absurd (by rw[born_inj hwf.1 he2 he (List.mem_singleton.1 h)]) hk
   . (conv=>whnf)
     rfl
 . intro hall
   have hRP:R=P.map Prt.row:=by
    apply List.ext_getElem?
    intro k
    by_cases hk:k<P.length
    . obtain⟨s,hs⟩:∃ s,(fullsL c.b.boxes)[k]? = some s:=⟨_,gEt0 (by omega)⟩
      obtain⟨p,hp,hpn2,h6,h7,h8⟩:=hat s (mOf0 hs)
      obtain⟨n,hm⟩:=lk_mem h6
      have h9:=hRs _ hm (hall _ hm)
      have h10:=nodup_idx hN.nd hs (plc_at (mOf0 hs)).2
      dsimp only at h9
      rw[<- h10] at h9
      rw[h9,gMp0]
    . rw[List.getElem?_eq_none (by omega),List.getElem?_eq_none (by simp;omega)]
   subst hRP
   (try (conv=>whnf));repeat' (first|refine OkM.seq ?_|((first|refine OkM.region tok ?_|refine OkM.cond ?_);conv=>whnf)|refine OkM.block ?_|(refine OkM.exit ?_;conv=>whnf)|fail)
   have hw0:P=prtsW c.b 0:=by rw[hP];rfl
   have hinv:∀ k,(prtsW c.b k).length=P.length:=fun k=>by rw[prtsW_len,hPl]
   rw[hw0] at hinv ⊢
   refine OkM.loopU [7,8,52,53] [54] 2 1 (fun (k:Nat)=>[.i .i64 (k:Nat)]) (fun (k:Nat) (_:List (List D))=>[c.row]) (fun (k:Nat) (_:Vx.Rows)=>[some (211,(plcs c.b.boxes).map plRow),some (147,(prtsW c.b k).map Prt.row)]) (fun (k:Nat)=>[(gn,mObj D.s fI lst cn)]) (fun (k:Nat)=>k<=c.links.l.length) (fun (k:Nat)=>c.links.l.length - k) (0) (Nat.zero_le _) (by first|exact .refl _|exact .cons _ (.refl _)|exact List.nil_sublist _) ?_;(conv=>whnf);refine⟨by ((conv=>whnf);first|rfl|(simp[envCat, tkL0, SI.row, Node.row, Pfx.row, Link.row, srow, Line.row, Rule.row, Box.row, Slc.row, Config.row, plRow, Prt.row];done)|(simp[envCat, tkL0, SI.row, Node.row, Pfx.row, Link.row, srow, Line.row, Rule.row, Box.row, Slc.row, Config.row, plRow, Prt.row];rw[IntKind.wrap_i64];omega)),?_⟩
   rintro k hk
   (conv=>whnf)
   by_cases hlt:k<c.links.l.length
   . obtain⟨x,hx⟩:∃ x,c.links.l[k]? = some x:=⟨_,gEt0 hlt⟩
     have hxI:c.links.l[((k:Nat):Int).toNat]? = some x:=hx
     have hxr:(c.links.l.map Link.row)[((k:Nat):Int).toNat]? = some x.row:=by rw[gMp0,hxI];rfl
     obtain⟨hxf,hxt⟩:=link_known h4 (mOf0 hx)
     obtain⟨_,_,_,f1,f2,f3⟩:=hat x.frm hxf
     obtain⟨_,_,_,t1,t2,t3⟩:=hat x.dst hxt
     have hkl:((lk lst x.frm).getD 0).toNat<(prtsW c.b k).length:=by rw[prtsW_len,<- hPl];omega
     obtain⟨p,hp⟩:∃ p,(prtsW c.b k)[((lk lst x.frm).getD 0).toNat]? = some p:=⟨_,gEt0 hkl⟩
     have hpr3:((prtsW c.b k).map Prt.row)[((lk lst x.frm).getD 0).toNat]? = some p.row:=by rw[gMp0,hp];rfl
     have hwl:((prtsW c.b k).map Prt.row).length=P.length:=by rw[lMp0,prtsW_len,hPl]
     have hs:=prtsW_succ (c:=c.b) (k:=k) (x:=x) hx
     rw[setD_some (p:=p) (by rw[f1] at hp;exact hp)] at hs
     have hsc:setCells p.row 3 [fI (lk lst x.dst)]=Prt.row ⟨p.name,p.box,p.inn,plc (fullsL c.b.boxes) x.dst⟩:=by
      rw[t1]
      rfl
     have hs2:prtsW c.b (k+1)=(prtsW c.b k).set ((lk lst x.frm).getD 0).toNat ⟨p.name,p.box,p.inn,plc (fullsL c.b.boxes) x.dst⟩:=by
      rw[hs,f1]
      rfl
     (try (conv=>whnf));repeat' (first|((first|refine st (⟨p.name,p.box,p.inn,plc (fullsL c.b.boxes) x.dst⟩:Prt) hp (by simp[Prt.row]) hsc ?_|refine⟨_,_,_,_,_,_,_,_,mtSI,(by first|exact .head _|exact .tail _ (.head _)|exact .tail _ (.tail _ (.head _))|exact .tail _ (.tail _ (.tail _ (.head _)))|exact List.mem_append_left _ (by assumption)),rfl,?_⟩);conv=>whnf)|refine OkM.seq ?_|((first|refine OkM.region tok ?_|refine OkM.cond ?_);conv=>whnf)|refine OkM.block ?_|((first|refine OkM.skip ?_|refine nI ?_|refine ix _ (by assumption) ?_);conv=>whnf)|(refine bI ?_ ?_<;>intro<;>(conv=>whnf)<;>(try (exfalso;omega)))|(refine aJ ?_;conv=>whnf)|fail)
     refine⟨k+1,by omega,by omega,List.Sublist.refl _,?_⟩
     rw[hs2]
     (conv=>whnf)
     rfl
   . obtain rfl:k=c.links.l.length:=by omega
     (try (conv=>whnf));repeat' (first|refine OkM.seq ?_|((first|refine OkM.region tok ?_|refine OkM.cond ?_|refine OkM.exit ?_|refine OkM.ret ?_);conv=>whnf)|(refine bI ?_ ?_<;>intro<;>(conv=>whnf)<;>(try (exfalso;omega)))|fail)
     refine Or.inr (Or.inl ?_);(conv=>whnf)
     exact⟨by rw[show (prtsF c.b).length=(plcs c.b.boxes).length from (prtsW_len _ _).trans hpl.symm];rfl,rfl⟩
end Go.Proofs.YtnlingegeangmaaGreatDoor
namespace Go.Proofs.YtnlingegeangmaaGreatDoor
open Go Go.Vx
structure Eg where
 frm:Int
 dst:Int
 cost:Int
 out:Int
def Eg.row(e:Eg):List D:=[.i .i64 e.frm,.i .i64 e.dst,.i .i64 e.cost,.i .i64 e.out]
def boxAt(c:ConfigB)(k:Int):Int:=(((prtsN 0 c.boxes)[k.toNat]?).map fun p=>(p.box:Int)).getD 0
def egOf(c:ConfigB)(x:Link):Eg:=⟨boxAt c (plc (fullsL c.boxes) x.frm),boxAt c (plc (fullsL c.boxes) x.dst),x.cost,plc (fullsL c.boxes) x.frm⟩
def lkAt(c:ConfigB)(l:List Link)(k:Int):List Link:=l.filter fun x=>decide (plc (fullsL c.boxes) x.frm=k)
def egAt(c:ConfigB)(l:List Link)(k:Int):List Eg:=(lkAt c l k).map (egOf c)
def egsL(c:ConfigB)(n:Nat):List Eg:=(List.range n).flatMap fun i:Nat=>egAt c c.links (i:Int)
def egsF(c:ConfigB):List Eg:=egsL c (fullsL c.boxes).length
def egLast(c:ConfigB)(l:List Link)(k:Int):Option Eg:=((lkAt c l k).getLast?).map (egOf c)
theorem egsL_succ(c:ConfigB)(n:Nat):egsL c (n+1)=egsL c n++egAt c c.links n:=by simp[egsL,List.range_succ]
theorem lkAt_succ{c:ConfigB}{l:List Link}{i:Nat}{x:Link}(h:l[i]? = some x)(k:Int):lkAt c (l.take (i+1)) k=lkAt c (l.take i) k++if plc (fullsL c.boxes) x.frm=k then [x] else []:=by
 unfold lkAt
 rw[List.take_add_one,h,List.filter_append]
 congr 1
 by_cases hk:plc (fullsL c.boxes) x.frm=k<;>simp[hk]
theorem egLast_succ{c:ConfigB}{l:List Link}{i:Nat}{x:Link}(h:l[i]? = some x)(k:Int):egLast c (l.take (i+1)) k=if k=plc (fullsL c.boxes) x.frm then some (egOf c x) else egLast c (l.take i) k:=by
 unfold egLast
 rw[lkAt_succ h]
 by_cases hk:plc (fullsL c.boxes) x.frm=k
 . rw[if_pos hk,if_pos hk.symm]
   simp
 . rw[if_neg hk,if_neg (fun e=>hk e.symm),List.append_nil]
theorem egAt_len(c:ConfigB)(l:List Link)(k:Int):(egAt c l k).length<=l.length:=by
 unfold egAt lkAt
 rw[lMp0]
 exact List.length_filter_le _ _
theorem egsL_len{c:ConfigB}(h:c.links.length<=48):∀ n:Nat,(egsL c n).length<=n*48
 | 0=>by simp[egsL]
 | n+1=>by
  rw[egsL_succ,List.length_append]
  have h1:=egAt_len c c.links n
  have h2:=egsL_len h n
  omega
theorem link_frm{c:ConfigB}(h:(linkO c).1=0){k:Nat}{x:Link}(hx:c.links[k]? = some x):¬ ∃ y ∈ c.links.take k,y.frm=x.frm:=by
 have h1:=firstE_zero h k x hx
 intro hy
 by_cases e1:sidesI [x.frm] (fullOut c) (fullIn c) ≠ 0
 . rw[linkE_frm e1] at h1;exact e1 h1
 by_cases e2:sidesI [x.dst] (fullIn c) (fullOut c) ≠ 0
 . rw[linkE_to e1 e2] at h1;exact e2 h1
 by_cases e3:x.cost<1\/9999<x.cost
 . rw[linkE_cost e1 e2 e3] at h1;cases h1
 . rw[linkE_dbl e1 e2 e3 hy] at h1;cases h1
theorem link_pair{c:ConfigB}(h:(linkO c).1=0):c.links.Pairwise fun x y=>plc (fullsL c.boxes) x.frm ≠ plc (fullsL c.boxes) y.frm:=by
 rw[List.pairwise_iff_getElem]
 intro i j hi hj hij he
 have hx:c.links[i]? = some c.links[i]:=gEt0 hi
 have hy:c.links[j]? = some c.links[j]:=gEt0 hj
 refine link_frm h hy ⟨c.links[i],?_,?_⟩
 . refine mOf0 (i:=i) ?_
   rw[List.getElem?_take_of_lt hij,hx]
 . obtain⟨_,h1⟩:=plc_at (link_known h (mOf0 hx)).1
   obtain⟨_,h2⟩:=plc_at (link_known h (mOf0 hy)).1
   rw[he,h2] at h1
   exact (Option.some.inj h1).symm
theorem egAt_last{c:ConfigB}(h:(linkO c).1=0)(k:Int):egAt c c.links k=(egLast c c.links k).toList:=by
 unfold egAt egLast
 have h1:(lkAt c c.links k).Pairwise fun x y=>plc (fullsL c.boxes) x.frm ≠ plc (fullsL c.boxes) y.frm:=(link_pair h).filter _
 have h2:∀ x ∈ lkAt c c.links k,plc (fullsL c.boxes) x.frm=k:=fun x hx=>by simpa using (List.mem_filter.1 hx).2
 generalize lkAt c c.links k=l at h1 h2
 match l with
 | []=>rfl
 | [x]=>rfl
 | x :: y :: l=>exact absurd ((h2 x (by simp)).trans (h2 y (by simp)).symm) ((List.pairwise_cons.1 h1).1 y (by simp))
end Go.Proofs.YtnlingegeangmaaGreatDoor
namespace Go.Proofs.YtnlingegeangmaaGreatDoor
open Go Go.Vx
structure Rch where
 node:Int
 far:Int
def Rch.row(r:Rch):List D:=[.i .i64 r.node,.i .i64 r.far]
def irow(x:Int):List D:=[.i .i64 x]
def nearP(a b:Rch):Prop:=a.far<b.far
theorem near_swo:Hp.Swo nearP:=⟨fun a=>by unfold nearP;omega,fun a b c h1 h2=>by unfold nearP at *;omega,fun a b h=>by unfold nearP at *;omega⟩
def okE(n:Int)(e:Eg):Prop:=0<=e.frm/\e.frm<n/\0<=e.dst/\e.dst<n/\1<=e.cost/\e.cost<=9999/\0<=e.out/\e.out<48
instance (n:Int) (e:Eg):Decidable (okE n e):=by unfold okE;infer_instance
def okD(n:Int)(d:Int):Prop:=0<=d/\d<n
instance (n:Int) (d:Int):Decidable (okD n d):=by unfold okD;infer_instance
def graphE(n:Int)(es:List Eg)(ds:List Int):Int:=
 if 48<es.length\/16<ds.length then 2 else if n<1\/16<n then 1 else if ∀ e ∈ es,okE n e then (if ∀ d ∈ ds,okD n d then 0 else 1) else 81
theorem graphE_ok{n:Int}{es:List Eg}{ds:List Int}(h:graphE n es ds=0):es.length<=48/\ds.length<=16/\1<=n/\n<=16/\(∀ e ∈ es,okE n e)/\∀ d ∈ ds,okD n d:=by
 unfold graphE at h
 split at h
 . omega
 split at h
 . omega
 split at h
 . split at h
   . rename_i h1 h2 h3 h4
     exact⟨by omega,by omega,by omega,by omega,h3,h4⟩
   . omega
 . omega
structure IsDist(n:Nat)(es:List Eg)(ds:List Int)(far:List Int):Prop where
 len:far.length=n
 low:∀ (v:Nat) x,far[v]? = some x->x=-1\/0<=x
 dest:∀ d ∈ ds,far[d.toNat]? = some 0
 edge:∀ e ∈ es,∀ y,far[e.dst.toNat]? = some y->0<=y->∃ x,far[e.frm.toNat]? = some x/\0<=x/\x<=y+e.cost
 tight:∀ (v:Nat) x,far[v]? = some x->0<=x->(x=0/\(v:Int) ∈ ds)\/∃ e ∈ es,e.frm=(v:Int)/\∃ y,far[e.dst.toNat]? = some y/\0<=y/\x=y+e.cost
theorem IsDist.le{n:Nat}{es:List Eg}{ds:List Int}{f g:List Int}(hc:∀ e ∈ es,1<=e.cost)(hf:IsDist n es ds f)(hg:IsDist n es ds g):∀ (k:Nat) (v:Nat) x,x.toNat<=k->f[v]? = some x->0<=x->∃ y,g[v]? = some y/\0<=y/\y<=x:=by
 intro k
 induction k with
 | zero=>
  intro v x hx hv h0
  rcases hf.tight v x hv h0 with⟨rfl,hd⟩|⟨e,he,hfr,y,hy,hy0,hxy⟩
  . exact⟨0,by have:=hg.dest _ hd;simpa using this,by omega,by omega⟩
  . have:=hc e he;omega
 | succ k ih=>
  intro v x hx hv h0
  rcases hf.tight v x hv h0 with⟨rfl,hd⟩|⟨e,he,hfr,y,hy,hy0,hxy⟩
  . exact⟨0,by have:=hg.dest _ hd;simpa using this,by omega,by omega⟩
  . have hce:=hc e he
    obtain⟨z,hz,hz0,hzy⟩:=ih e.dst.toNat y (by omega) hy hy0
    obtain⟨w,hw,hw0,hwz⟩:=hg.edge e he z hz hz0
    refine⟨w,?_,hw0,by omega⟩
    rw[hfr] at hw
    simpa using hw
theorem IsDist.uniq{n:Nat}{es:List Eg}{ds:List Int}{f g:List Int}(hc:∀ e ∈ es,1<=e.cost)(hf:IsDist n es ds f)(hg:IsDist n es ds g):f=g:=by
 apply List.ext_getElem?
 intro v
 by_cases hv:v<n
 . obtain⟨x,hx⟩:∃ x,f[v]? = some x:=⟨_,gEt0 (by rw[hf.len];exact hv)⟩
   obtain⟨y,hy⟩:∃ y,g[v]? = some y:=⟨_,gEt0 (by rw[hg.len];exact hv)⟩
   rw[hx,hy]
   congr 1
   rcases hf.low v x hx with h1|h1<;>rcases hg.low v y hy with h2|h2
   . omega
   . obtain⟨z,hz,hz0,_⟩:=hg.le hc hf _ v y (Nat.le_refl _) hy h2
     rw[hx] at hz;cases hz;omega
   . obtain⟨z,hz,hz0,_⟩:=hf.le hc hg _ v x (Nat.le_refl _) hx h1
     rw[hy] at hz;cases hz;omega
   . obtain⟨z,hz,hz0,hzz⟩:=hg.le hc hf _ v y (Nat.le_refl _) hy h2
     rw[hx] at hz;cases hz
     obtain⟨z,hz,hz0,hzz⟩:=hf.le hc hg _ v x (Nat.le_refl _) hx h1
     rw[hy] at hz;cases hz
     omega
 . rw[List.getElem?_eq_none (by rw[hf.len];omega),List.getElem?_eq_none (by rw[hg.len];omega)]
def Ti(es:List Eg)(far:List Int)(i v:Nat):Prop:=∃ e x y,es[i]? = some e/\e.frm.toNat=v/\far[e.dst.toNat]? = some y/\0<=y/\far[v]? = some x/\x=y+e.cost
def FirstOf(es:List Eg)(far:List Int)(lo hi:Nat)(v:Nat)(p:Int):Prop:=
 (p=-1/\∀ i,lo<=i->i<hi->¬ Ti es far i v)\/∃ i:Nat,p=(i:Int)/\lo<=i/\i<hi/\Ti es far i v/\∀ j,lo<=j->j<i->¬ Ti es far j v
theorem FirstOf.uniq{es:List Eg}{far:List Int}{lo hi v:Nat}{p p':Int}(h:FirstOf es far lo hi v p)(h':FirstOf es far lo hi v p'):p=p':=by
 rcases h with⟨rfl,h⟩|⟨i,rfl,h1,h2,h3,h4⟩<;>rcases h' with⟨rfl,h'⟩|⟨j,rfl,g1,g2,g3,g4⟩
 . rfl
 . exact absurd g3 (h j g1 g2)
 . exact absurd h3 (h' i h1 h2)
 . rcases Nat.lt_trichotomy i j with hh|hh|hh
   . exact absurd h3 (g4 i h1 hh)
   . rw[hh]
   . exact absurd g3 (h4 j g1 hh)
def IsFirst(n:Nat)(es:List Eg)(far fst:List Int)(lo hi:Nat):Prop:=fst.length=n/\∀ (v:Nat) p,fst[v]? = some p->FirstOf es far lo hi v p
theorem IsFirst.uniq{n:Nat}{es:List Eg}{far f g:List Int}{lo hi:Nat}(hf:IsFirst n es far f lo hi)(hg:IsFirst n es far g lo hi):f=g:=by
 apply List.ext_getElem?
 intro v
 by_cases hv:v<n
 . obtain⟨x,hx⟩:∃ x,f[v]? = some x:=⟨_,gEt0 (by rw[hf.1];exact hv)⟩
   obtain⟨y,hy⟩:∃ y,g[v]? = some y:=⟨_,gEt0 (by rw[hg.1];exact hv)⟩
   rw[hx,hy,(hf.2 v x hx).uniq (hg.2 v y hy)]
 . rw[List.getElem?_eq_none (by rw[hf.1];omega),List.getElem?_eq_none (by rw[hg.1];omega)]
theorem FirstOf.skipR{es:List Eg}{far:List Int}{lo hi v:Nat}{p:Int}(h:FirstOf es far lo hi v p)(hn:¬ Ti es far hi v\/0<=p):FirstOf es far lo (hi+1) v p:=by
 rcases h with⟨rfl,h⟩|⟨i,rfl,h1,h2,h3,h4⟩
 . refine .inl ⟨rfl,fun i h1 h2=>?_⟩
   by_cases hi':i=hi
   . subst hi';exact hn.resolve_right (by omega)
   . exact h i h1 (by omega)
 . exact .inr ⟨i,rfl,h1,by omega,h3,h4⟩
theorem FirstOf.takeR{es:List Eg}{far:List Int}{lo hi v:Nat}{p:Int}(h:FirstOf es far lo hi v p)(hp:p<0)(hl:lo<=hi)(ht:Ti es far hi v):FirstOf es far lo (hi+1) v (hi:Int):=by
 rcases h with⟨rfl,h⟩|⟨i,rfl,h1,h2,h3,h4⟩
 . exact .inr ⟨hi,rfl,hl,by omega,ht,fun j h1 h2=>h j h1 h2⟩
 . omega
structure Dij(n:Nat)(es:List Eg)(ds:List Int)(far:List Int)(hs:List Rch)(P:Nat->Eg->Prop):Prop where
 len:far.length=n
 low:∀ (v:Nat) x,far[v]? = some x->x=-1\/0<=x
 hin:∀ r ∈ hs,0<=r.node/\r.node<n/\0<=r.far
 src:∀ r ∈ hs,(r.far=0/\r.node ∈ ds)\/∃ e ∈ es,e.frm=r.node/\∃ y,far[e.dst.toNat]? = some y/\0<=y/\r.far=y+e.cost
 tight:∀ (v:Nat) x,far[v]? = some x->0<=x->(x=0/\(v:Int) ∈ ds)\/∃ e ∈ es,e.frm=(v:Int)/\∃ y,far[e.dst.toNat]? = some y/\0<=y/\x=y+e.cost
 mono:∀ (v:Nat) x,far[v]? = some x->0<=x->∀ r ∈ hs,x<=r.far
 dest:∀ d ∈ ds,far[d.toNat]? = some 0\/(far[d.toNat]? = some (-1)/\⟨d,0⟩ ∈ hs)
 edge:∀ (i:Nat) e,es[i]? = some e->P i e->∀ y,far[e.dst.toNat]? = some y->0<=y->(∃ x,far[e.frm.toNat]? = some x/\0<=x/\x<=y+e.cost)\/(far[e.frm.toNat]? = some (-1)/\⟨e.frm,y+e.cost⟩ ∈ hs)
theorem Dij.dist{n:Nat}{es:List Eg}{ds far:List Int}(h:Dij n es ds far [] (fun _ _=>True)):IsDist n es ds far:=
 ⟨h.len,h.low,fun d hd=>(h.dest d hd).resolve_right (by simp),fun e he y hy h0=>by
  obtain⟨i,hi⟩:=List.getElem?_of_mem he
  exact (h.edge i e hi trivial y hy h0).resolve_right (by simp),h.tight⟩
theorem Dij.skip{n:Nat}{es:List Eg}{ds far:List Int}{hs hs':List Rch}{r:Rch}{x:Int}(h:Dij n es ds far hs (fun _ _=>True))(hp:hs.Perm (r :: hs'))(hx:far[r.node.toNat]? = some x)(h0:0<=x):Dij n es ds far hs' (fun _ _=>True):=by
 have hsub:∀ s ∈ hs',s ∈ hs:=fun s hs=>hp.symm.subset (by simp[hs])
 have hne:∀ s ∈ hs,far[s.node.toNat]? = some (-1)->s ∈ hs':=fun s hs hn=>by
  rcases List.mem_cons.1 (hp.subset hs) with rfl|h
  . rw[hx] at hn;cases hn;omega
  . exact h
 refine⟨h.len,h.low,fun s hs=>h.hin s (hsub s hs),fun s hs=>h.src s (hsub s hs),h.tight,fun v x hv h0 s hs=>h.mono v x hv h0 s (hsub s hs),fun d hd=>?_,fun i e hi hP y hy hy0=>?_⟩
 . rcases h.dest d hd with h1|⟨h1,h2⟩
   . exact .inl h1
   . exact .inr ⟨h1,hne _ h2 h1⟩
 . rcases h.edge i e hi hP y hy hy0 with h1|⟨h1,h2⟩
   . exact .inl h1
   . exact .inr ⟨h1,hne _ h2 h1⟩
theorem Dij.take{n:Nat}{es:List Eg}{ds far:List Int}{hs hs':List Rch}{r:Rch}(hok:∀ e ∈ es,0<=e.frm/\0<=e.dst)(hokd:∀ d ∈ ds,0<=d)(h:Dij n es ds far hs (fun _ _=>True))(hp:hs.Perm (r :: hs'))(hmin:∀ s ∈ hs,r.far<=s.far)(hx:far[r.node.toNat]? = some (-1)) :
    Dij n es ds (far.set r.node.toNat r.far) hs' (fun _ e=>e.dst ≠ r.node)/\∀ (v:Nat) x,(far.set r.node.toNat r.far)[v]? = some x->0<=x->x<=r.far:=by
 have hsub:∀ s ∈ hs',s ∈ hs:=fun s hs=>hp.symm.subset (by simp[hs])
 have hr:r ∈ hs:=hp.symm.subset (by simp)
 obtain⟨hn0,hn1,hf0⟩:=h.hin r hr
 have hlt:r.node.toNat<far.length:=(gSm0.1 hx).1
 have hset:∀ v:Nat,(far.set r.node.toNat r.far)[v]? = if v=r.node.toNat then some r.far else far[v]?:=fun v=>by
  by_cases hv:v=r.node.toNat
  . rw[if_pos hv,hv,List.getElem?_set_self hlt]
  . rw[if_neg hv,List.getElem?_set_ne (Ne.symm hv)]
 have hother:∀ s ∈ hs,s.node ≠ r.node->s ∈ hs':=fun s hs hn=>by
  rcases List.mem_cons.1 (hp.subset hs) with rfl|h
  . exact absurd rfl hn
  . exact h
 have hkeep:∀ (v:Nat) y,far[v]? = some y->0<=y->(far.set r.node.toNat r.far)[v]? = some y:=fun v y hy h0=>by
  rw[hset,if_neg (fun e=>by subst e;rw[hx] at hy;cases hy;omega)];exact hy
 have hsrc:∀ s ∈ hs,(s.far=0/\s.node ∈ ds)\/∃ e ∈ es,e.frm=s.node/\∃ y,(far.set r.node.toNat r.far)[e.dst.toNat]? = some y/\0<=y/\s.far=y+e.cost:=fun s hs=>by
  rcases h.src s hs with h1|⟨e,he,h1,y,hy,hy0,h2⟩
  . exact .inl h1
  . exact .inr ⟨e,he,h1,y,hkeep _ _ hy hy0,hy0,h2⟩
 refine⟨⟨by simp[h.len],fun v x hv=>?_,fun s hs=>h.hin s (hsub s hs),fun s hs=>hsrc s (hsub s hs),fun v x hv h0=>?_,fun v x hv h0 s hs=>?_,fun d hd=>?_,fun i e hi hP y hy hy0=>?_⟩,fun v x hv h0=>?_⟩
 . rw[hset] at hv
   split at hv
   . cases hv;exact .inr hf0
   . exact h.low v x hv
 . rw[hset] at hv
   split at hv
   . rename_i hvr
     cases hv
     have hvn:(v:Int)=r.node:=by omega
     rcases hsrc r hr with⟨h1,h2⟩|⟨e,he,h1,h2⟩
     . exact .inl ⟨h1,by rw[hvn];exact h2⟩
     . exact .inr ⟨e,he,by rw[hvn];exact h1,h2⟩
   . rcases h.tight v x hv h0 with h1|⟨e,he,h1,y,hy,hy0,h2⟩
     . exact .inl h1
     . exact .inr ⟨e,he,h1,y,hkeep _ _ hy hy0,hy0,h2⟩
 . rw[hset] at hv
   split at hv
   . cases hv;exact hmin s (hsub s hs)
   . exact h.mono v x hv h0 s (hsub s hs)
 . rw[hset]
   split
   . rename_i hdr
     have hd0:=hokd d hd
     have hdn:d=r.node:=by omega
     rcases h.dest d hd with h1|⟨h1,h2⟩
     . rw[hdn,hx] at h1;cases h1
     . have:=hmin _ h2
       simp only at this
       left
       congr 1
       omega
   . rename_i hdr
     rcases h.dest d hd with h1|⟨h1,h2⟩
     . exact .inl h1
     . exact .inr ⟨h1,hother _ h2 (fun e=>hdr (by rw[<- e]))⟩
 . have hto:=(hok e (mOf0 hi)).2
   have hfr:=(hok e (mOf0 hi)).1
   rw[hset,if_neg (fun hh=>hP (by omega))] at hy
   rw[hset]
   rcases h.edge i e hi trivial y hy hy0 with⟨x,h1,h2,h3⟩|⟨h1,h2⟩
   . left
     rw[if_neg (fun hh=>by rw[hh,hx] at h1;cases h1;omega)]
     exact⟨x,h1,h2,h3⟩
   . by_cases hh:e.frm.toNat=r.node.toNat
     . left
       rw[if_pos hh]
       exact⟨_,rfl,hf0,hmin _ h2⟩
     . rw[if_neg hh]
       exact .inr ⟨h1,hother _ h2 (fun e'=>hh (by rw[<- e']))⟩
 . rw[hset] at hv
   split at hv
   . cases hv;omega
   . exact h.mono v x hv h0 r hr
theorem Dij.push{n:Nat}{es:List Eg}{ds far:List Int}{hs hs':List Rch}{r:Rch}{k:Nat}{e:Eg}(h:Dij n es ds far hs (fun i e=>e.dst=r.node->i<k))(htop:∀ (v:Nat) x,far[v]? = some x->0<=x->x<=r.far)(hr:far[r.node.toNat]? = some r.far)(hr0:0<=r.far)
    (hk:es[k]? = some e)(hc:1<=e.cost)(hf0:0<=e.frm)(hf1:e.frm<n)(hto:e.dst=r.node)(hneg:far[e.frm.toNat]? = some (-1))(hp:hs'.Perm (⟨e.frm,r.far+e.cost⟩ :: hs)):Dij n es ds far hs' (fun i e=>e.dst=r.node->i<k+1):=by
 have hsub:∀ s ∈ hs,s ∈ hs':=fun s hs=>hp.symm.subset (by simp[hs])
 have hall:∀ s ∈ hs',s=⟨e.frm,r.far+e.cost⟩\/s ∈ hs:=fun s hs=>List.mem_cons.1 (hp.subset hs)
 refine⟨h.len,h.low,fun s hs=>?_,fun s hs=>?_,h.tight,fun v x hv h0 s hs=>?_,fun d hd=>?_,fun i e' hi hP y hy hy0=>?_⟩
 . rcases hall s hs with rfl|hs
   . exact⟨hf0,hf1,by dsimp only;omega⟩
   . exact h.hin s hs
 . rcases hall s hs with rfl|hs
   . exact .inr ⟨e,mOf0 hk,rfl,r.far,by rw[hto];exact hr,hr0,rfl⟩
   . exact h.src s hs
 . rcases hall s hs with rfl|hs
   . have:=htop v x hv h0;dsimp only;omega
   . exact h.mono v x hv h0 s hs
 . rcases h.dest d hd with h1|⟨h1,h2⟩
   . exact .inl h1
   . exact .inr ⟨h1,hsub _ h2⟩
 . by_cases hik:i=k
   . subst hik
     rw[hk] at hi
     cases hi
     rw[hto,hr] at hy
     cases hy
     exact .inr ⟨hneg,hp.symm.subset (by simp)⟩
   . rcases h.edge i e' hi (fun ht=>by have:=hP ht;omega) y hy hy0 with h1|⟨h1,h2⟩
     . exact .inl h1
     . exact .inr ⟨h1,hsub _ h2⟩
theorem Dij.pass{n:Nat}{es:List Eg}{ds far:List Int}{hs:List Rch}{r:Rch}{k:Nat}{e:Eg}(h:Dij n es ds far hs (fun i e=>e.dst=r.node->i<k))(htop:∀ (v:Nat) x,far[v]? = some x->0<=x->x<=r.far)(hr:far[r.node.toNat]? = some r.far)
    (hk:es[k]? = some e)(hc:1<=e.cost)(hno:e.dst=r.node->∃ x,far[e.frm.toNat]? = some x/\0<=x):Dij n es ds far hs (fun i e=>e.dst=r.node->i<k+1):=by
 refine⟨h.len,h.low,h.hin,h.src,h.tight,h.mono,h.dest,fun i e' hi hP y hy hy0=>?_⟩
 by_cases hik:i=k
 . subst hik
   rw[hk] at hi
   cases hi
   by_cases hto:e.dst=r.node
   . obtain⟨x,hx,hx0⟩:=hno hto
     rw[hto,hr] at hy
     cases hy
     exact .inl ⟨x,hx,hx0,by have:=htop _ x hx hx0;omega⟩
   . exact h.edge i e hk (fun ht=>absurd ht hto) y hy hy0
 . exact h.edge i e' hi (fun ht=>by have:=hP ht;omega) y hy hy0
theorem Dij.weaken{n:Nat}{es:List Eg}{ds far:List Int}{hs:List Rch}{P P':Nat->Eg->Prop}(h:Dij n es ds far hs P)(hP:∀ i e,es[i]? = some e->P' i e->P i e):Dij n es ds far hs P':=
 ⟨h.len,h.low,h.hin,h.src,h.tight,h.mono,h.dest,fun i e hi hp=>h.edge i e hi (hP i e hi hp)⟩
theorem Dij.start{n:Nat}{es:List Eg}{ds:List Int}{hs:List Rch}(hok:∀ d ∈ ds,0<=d/\d<n)(hp:hs.Perm (ds.map fun d=>⟨d,0⟩)):Dij n es ds (List.replicate n (-1)) hs (fun _ _=>True):=by
 have hm:∀ (v:Nat) x,(List.replicate n (-1:Int))[v]? = some x->x=-1:=fun v x h=>by
  rw[List.getElem?_replicate] at h
  split at h
  . cases h;rfl
  . cases h
 have hs2:∀ s ∈ hs,s.far=0/\s.node ∈ ds:=fun s h=>by
  obtain⟨d,hd,rfl⟩:=List.mem_map.1 (hp.subset h)
  exact⟨rfl,hd⟩
 refine⟨by simp,fun v x h=>.inl (hm v x h),fun s h=>?_,fun s h=>.inl (hs2 s h),fun v x h h0=>?_,fun v x h h0=>?_,fun d hd=>.inr ⟨?_,hp.symm.subset (List.mem_map.2 ⟨d,hd,rfl⟩)⟩,fun i e hi _ y hy h0=>?_⟩
 . obtain⟨h1,h2⟩:=hs2 s h
   have:=hok _ h2
   exact⟨this.1,this.2,by omega⟩
 . have:=hm v x h;omega
 . have:=hm v x h;omega
 . rw[List.getElem?_replicate,if_pos (by have:=hok d hd;omega)]
 . have:=hm _ y hy;omega
theorem graphE_edge{n:Int}{es:List Eg}{ds:List Int}(h1:es.length<=48)(h2:ds.length<=16)(h3:1<=n)(h4:n<=16){e:Eg}(he:e ∈ es)(hn:¬ okE n e):graphE n es ds=81:=by
 unfold graphE
 rw[if_neg (by omega),if_neg (by omega),if_neg (fun h=>hn (h e he))]
theorem graphE_dest{n:Int}{es:List Eg}{ds:List Int}(h1:es.length<=48)(h2:ds.length<=16)(h3:1<=n)(h4:n<=16)(hE:∀ e ∈ es,okE n e){d:Int}(hd:d ∈ ds)(hn:¬ okD n d):graphE n es ds=1:=by
 unfold graphE
 rw[if_neg (by omega),if_neg (by omega),if_pos hE,if_neg (fun h=>hn (h d hd))]
theorem graphE_good{n:Int}{es:List Eg}{ds:List Int}(h1:es.length<=48)(h2:ds.length<=16)(h3:1<=n)(h4:n<=16)(hE:∀ e ∈ es,okE n e)(hD:∀ d ∈ ds,okD n d):graphE n es ds=0:=by
 unfold graphE
 rw[if_neg (by omega),if_neg (by omega),if_pos hE,if_pos hD]
theorem all_take{α:Type}{l:List α}{p:α->Prop}{k:Nat}{a:α}(h:∀ x ∈ l.take k,p x)(ha:l[k]? = some a)(hp:p a):∀ x ∈ l.take (k+1),p x:=by
 intro x hx
 rw[List.take_add_one,ha] at hx
 rcases mAp0.1 hx with hx|hx
 . exact h x hx
 . simp at hx;rw[hx];exact hp
theorem graph_at(n:Int)(es:List Eg)(ds:List Int){re se rd sd:List (List D)}(he:re=es.map Eg.row)(hd:rd=ds.map irow):FSpec Tryz.prog T 110 [.i .i64 n,.lst 122 re se,.lst 3 rd sd] (fun d _=>d = .i .i64 (graphE n es ds)):=by
 subst he hd
 have hel:(es.map Eg.row).length=es.length:=by simp
 have hdl:(ds.map irow).length=ds.length:=by simp
 refine FSpec.of_ok tok Tryz.func110 rfl Tryz.call110 (by simp) ?_
 by_cases h1:48<es.length\/16<ds.length
 . have hg:graphE n es ds=2:=by unfold graphE;rw[if_pos h1]
   (try (conv=>whnf));repeat' (first|refine Ok.seq ?_|((first|refine Ok.region tok ?_|refine Ok.cond ?_|refine Ok.ret ?_);conv=>whnf)|(refine bI ?_ ?_<;>intro<;>(conv=>whnf)<;>(try (exfalso;omega)))|fail)
   all_goals try (refine Or.inl ?_;(conv=>whnf);rw[hg];rfl)
 have h1a:es.length<=48:=by omega
 have h1b:ds.length<=16:=by omega
 by_cases h2:n<1\/16<n
 . have hg:graphE n es ds=1:=by unfold graphE;rw[if_neg h1,if_pos h2]
   (try (conv=>whnf));repeat' (first|refine Ok.seq ?_|((first|refine Ok.region tok ?_|refine Ok.cond ?_|refine Ok.skip ?_|refine Ok.ret ?_);conv=>whnf)|(refine bI ?_ ?_<;>intro<;>(conv=>whnf)<;>(try (exfalso;omega)))|fail)
   all_goals try (refine Or.inl ?_;(conv=>whnf);rw[hg];rfl)
 (try (conv=>whnf));repeat' (first|refine Ok.seq ?_|((first|refine Ok.region tok ?_|refine Ok.cond ?_);conv=>whnf)|refine Ok.block ?_|(refine Ok.skip ?_;conv=>whnf)|(refine bI ?_ ?_<;>intro<;>(conv=>whnf)<;>(try (exfalso;omega)))|fail)
 refine Ok.loopU [0,2,25,26] [27] 0 0 (fun (k:Nat)=>[.i .i64 (k:Nat)]) (fun _ b=>b) (fun _ r=>r) (fun (k:Nat)=>k<=es.length/\∀ e ∈ es.take k,okE n e) (fun (k:Nat)=>es.length - k) (0) (⟨Nat.zero_le _,by simp⟩) ?_;(conv=>whnf);refine⟨by ((conv=>whnf);first|rfl|(simp[envCat,tkL0,Eg.row,irow];done)|(simp[envCat,tkL0,Eg.row,irow];rw[IntKind.wrap_i64];omega)),?_⟩
 rintro k ⟨hk,ha⟩
 by_cases hkl:k<es.length
 . obtain⟨e,hke⟩:∃ e,es[k]? = some e:=⟨_,gEt0 hkl⟩
   have hbad:¬ okE n e->graphE n es ds=81:=graphE_edge h1a h1b (by omega) (by omega) (mOf0 hke)
   (try (conv=>whnf));repeat' (first|refine Ok.seq ?_|((first|refine Ok.region tok ?_|refine Ok.cond ?_);conv=>whnf)|refine Ok.block ?_|((first|refine Ok.skip ?_|refine Ok.ret ?_|refine nI ?_|refine ix _ (by assumption) ?_);conv=>whnf)|(refine bI ?_ ?_<;>intro<;>(conv=>whnf)<;>(try (exfalso;omega)))|fail)
   all_goals first
    | (refine⟨k+1,by omega,⟨by omega,all_take ha hke (by unfold okE;omega)⟩,?_⟩;(conv=>whnf);(first|rfl|simp[envCat,tkL0,Eg.row,irow]))
    | (refine Or.inl ?_;(conv=>whnf);rw[hbad (by unfold okE;omega)];rfl)
 . have hkk:k=es.length:=by omega
   subst hkk
   rw[List.take_length] at ha
   (try (conv=>whnf));repeat' (first|refine Ok.seq ?_|((first|refine Ok.region tok ?_|refine Ok.cond ?_);conv=>whnf)|refine Ok.block ?_|(refine Ok.exit ?_;conv=>whnf)|(refine bI ?_ ?_<;>intro<;>(conv=>whnf)<;>(try (exfalso;omega)))|fail)
   refine Ok.loopU [0,72,73] [74] 0 0 (fun (k:Nat)=>[.i .i64 (k:Nat)]) (fun _ b=>b) (fun _ r=>r) (fun (k:Nat)=>k<=ds.length/\∀ e ∈ ds.take k,okD n e) (fun (k:Nat)=>ds.length - k) (0) (⟨Nat.zero_le _,by simp⟩) ?_;(conv=>whnf);refine⟨by ((conv=>whnf);first|rfl|(simp[envCat,tkL0,Eg.row,irow];done)|(simp[envCat,tkL0,Eg.row,irow];rw[IntKind.wrap_i64];omega)),?_⟩
   rintro k ⟨hk,hb⟩
   by_cases hkl:k<ds.length
   . obtain⟨d,hkd⟩:∃ e,ds[k]? = some e:=⟨_,gEt0 hkl⟩
     have hbad:¬ okD n d->graphE n es ds=1:=graphE_dest h1a h1b (by omega) (by omega) ha (mOf0 hkd)
     (try (conv=>whnf));repeat' (first|refine Ok.seq ?_|((first|refine Ok.region tok ?_|refine Ok.cond ?_);conv=>whnf)|refine Ok.block ?_|((first|refine Ok.skip ?_|refine Ok.ret ?_|refine nI ?_|refine ix _ (by assumption) ?_);conv=>whnf)|(refine bI ?_ ?_<;>intro<;>(conv=>whnf)<;>(try (exfalso;omega)))|fail)
     all_goals first
      | (refine⟨k+1,by omega,⟨by omega,all_take hb hkd (by unfold okD;omega)⟩,?_⟩;(conv=>whnf);(first|rfl|simp[envCat,tkL0,Eg.row,irow]))
      | (refine Or.inl ?_;(conv=>whnf);rw[hbad (by unfold okD;omega)];rfl)
   . have hkk:k=ds.length:=by omega
     subst hkk
     rw[List.take_length] at hb
     (try (conv=>whnf));repeat' (first|refine Ok.seq ?_|((first|refine Ok.region tok ?_|refine Ok.cond ?_|refine Ok.exit ?_|refine Ok.ret ?_);conv=>whnf)|(refine bI ?_ ?_<;>intro<;>(conv=>whnf)<;>(try (exfalso;omega)))|fail)
     refine Or.inl ?_;(conv=>whnf)
     rw[graphE_good h1a h1b (by omega) (by omega) ha hb]
     rfl
theorem nearer_spec(rows room:List (List D))(a b:Rch):FSpec Tryz.prog T 111 [.lst 3 rows room,.agg a.row,.agg b.row] (fun d _=>d = .b (nearP a b)):=by
 refine FSpec.of_ok tok Tryz.func111 rfl Tryz.call111 (by simp) ?_
 (try (conv=>whnf));repeat' (first|refine Ok.seq ?_|((first|refine Ok.region tok ?_|refine Ok.ret ?_);conv=>whnf)|fail)
 refine Or.inl ?_;(conv=>whnf)
 exact b_eq Iff.rfl
end Go.Proofs.YtnlingegeangmaaGreatDoor
namespace Go.Vx
open Go.RowKit Go.Proofs Go.Sort
structure SortG(P:Program)(f ty:Nat)(k g:Nat){κ:Type}(kv:List Value->κ->Prop):Prop where
 call:∀ args w,(callFunc f args).run P w = .ok (.enter f args) w
 conc:P.concrete ty=true
 big:∀ (α:Type) [Inhabited α] (enc:α->List Value) (key:α->κ),(∀ x,(enc x).length=k)->(∀ x,∀ v ∈ enc x,v.oneCell'=true)->(∀ x,kv (enc x) (key x)) ->
  ∀ (blk c Bs:Nat) (d:Array α),2<=d.size->d.size<4611686018427387904->∀ w,HoldsK enc k w blk 0 d->blk<w.heap.size->w.cell? ⟨Bs,0,none⟩=some (.slice (some ⟨blk,0,none⟩) d.size c)->Bs<w.heap.size->Bs ≠ blk ->
  Calls P f #[.iface ty (.slice (some ⟨blk,0,none⟩) d.size c),.func (.func g) #[] #[.pointer (some ⟨Bs,0,none⟩)]] w fun e w'=>
   e = .returned (.tuple #[])/\∃ d' n os,PermIn 0 d.size d d'/\w'=grow (putRowK enc k (Sort.ahead w n) blk 0 d') os
 tiny:∀ p n c lb w,n<=1->Calls P f #[.iface ty (.slice p n c),.func (.func g) #[] lb] w fun e w'=>e = .returned (.tuple #[])/\∃ os,w'=grow w os
def GRow(sz:TypeId->Nat)(V:Vw)(k:Nat){κ:Type}(rd:List D->κ->Prop):Type:=
 { p:List Value × List D // p.1.length=k/\p.2.length=k/\(∀ v ∈ p.1,v.oneCell'=true)/\(∀ (j:Nat) v d,p.1[j]? = some v->p.2[j]? = some d->RI sz V v d)/\∃ l,rd p.2 l }
noncomputable def GRow.key{sz:TypeId->Nat}{V:Vw}{k:Nat}{κ:Type}{rd:List D->κ->Prop}(x:GRow sz V k rd):κ:=Classical.choose x.2.2.2.2.2
section
variable {P : Program} {T : Tab} {Q : Exit → St → Prop}
end
end Go.Vx
