/- The walks and the plain laws that a law of spaces needs, part 7 of 7. -/
import Derived.Test.YtaiondckookpiaaGreatDoorQEF
set_option linter.unusedVariables false
set_option linter.unusedSimpArgs false
namespace Go.Proofs.YtaiondckookpiaaGreatDoor
open Go Go.Vx Go.RowKit
set_option maxRecDepth 100000 in
set_option maxHeartbeats 16000000 in
theorem plays_at(script:List Stp)(rm:List (List D))(hok:∀ x ∈ script,x.Ok) :
    FSpec Tryz.prog T 15 [.lst 100 (script.map strow) rm] (fun r _=>r = .b True):=by
 have hsl:(script.map strow).length=script.length:=by simp
 refine FSpec.of_ok tok Tryz.func15 rfl Tryz.call15 (by simp) ?_
 (try (conv=>whnf));repeat' (first|refine Ok.seq ?_|(refine Ok.region tok ?_;conv=>whnf)|refine Ok.block ?_|fail)
 refine Ok.ghostB 0 0 24 rfl rfl ?_
 (conv=>whnf)
 refine Ok.ghostB 0 1 27 rfl rfl ?_
 (conv=>whnf)
 refine Ok.nilC 0 2 9 rfl rfl ?_
 (conv=>whnf)
 refine Ok.loopU [0,3] [4] 2 1 (fun (x:List Pl)=>[.i .i64 (x.length:Nat)]) (fun (x:List Pl) (_:List (List D))=>[[.own 0 (x.map prow).length,.own 1 (x.map qrow).length,.lst 9 [] []]]) (fun (x:List Pl) (_:Vx.Rows)=>[some (24,x.map prow),some (27,x.map qrow)]) (fun (x:List Pl)=>x.length<=8/\∀ p ∈ x,p.Ok) (fun (x:List Pl)=>8 - x.length) ([]) (⟨by simp,by simp⟩) ?_;(conv=>whnf);refine⟨by ((conv=>whnf);first|rfl|(simp[envCat,List.take_of_length_le,crow,srow,trow,drow,prow,qrow,strow];done)|(simp[envCat,List.take_of_length_le,crow,srow,trow,drow,prow,qrow,strow];rw[IntKind.wrap_i64];omega)),?_⟩
 rintro x ⟨hx8,hxo⟩
 have hl1:(x.map prow).length=x.length:=by simp
 have hl2:(x.map qrow).length=x.length:=by simp
 (conv=>whnf)
 by_cases hil:x.length<8
 . (try (conv=>whnf));repeat' (first|refine Ok.seq ?_|((first|refine Ok.region tok ?_|refine Ok.region_plan (id:=5) tok follows [(7,8,[]),(4,9,[]),(7,9,[]),(8,9,[]),(4,12,[]),(7,12,[]),(8,12,[]),(9,12,[])] [.q 0,.q 1,.q 2,.q 3,.q 4,.q 5,.q 6,.l 7,.l 8,.l 9,.q 10,.q 11,.l 12] (by kernel_rfl) ?_|refine Ok.region_plan (id:=6) tok follows [(7,8,[]),(4,9,[]),(7,9,[]),(8,9,[]),(4,12,[]),(7,12,[]),(8,12,[]),(9,12,[])] [.q 0,.q 1,.q 2,.q 3,.q 4,.q 5,.q 6,.l 7,.l 8,.l 9,.q 10,.q 11,.l 12] (by kernel_rfl) ?_|refine Ok.cond ?_);conv=>whnf)|refine Ok.block ?_|((first|refine Ok.skip ?_|refine nI ?_);conv=>whnf)|(refine Or.inr (Or.inl ?_);(conv=>whnf);(repeat (refine aI ?_;conv=>whnf));refine⟨_,none_at (1+(x.length:Int)) , ?_⟩;rintro _ _ ⟨rfl,rfl⟩<;>(conv=>whnf))|(refine Or.inr (Or.inl ?_);(conv=>whnf);(repeat (refine aI ?_;conv=>whnf));refine⟨_,rnone_at (1+(x.length:Int)) , ?_⟩;rintro _ _ ⟨rfl,rfl⟩<;>(conv=>whnf))|((first|refine Alt2.l (aI ?_)|refine⟨_,.inl ⟨rfl,rfl⟩,?_⟩|refine⟨_,_,rfl,rfl,?_⟩);conv=>whnf)|(refine bI ?_ ?_<;>intro<;>(conv=>whnf)<;>(try (exfalso;omega)))|(refine aJ ?_;conv=>whnf)|fail)
   all_goals first
    | (exfalso;omega)
    | (refine⟨x++[⟨noneB (1+(x.length:Int)),[],[],[],[],[]⟩],by simp;omega,⟨by simp;omega,fun p hp=>?_⟩,?_⟩
       . rcases List.mem_append.1 hp with hp|hp
         . exact hxo p hp
         . simp at hp
           subst hp
           exact⟨.nil (noneB_in _).1 (noneB_in _).2,rfl,rfl⟩
       . (conv=>whnf)
         simp[envCat])
 have h8:x.length=8:=by omega
 have h8m:(x.map prow).length=8:=by omega
 have h8n:(x.map qrow).length=8:=by omega
 rw[h8m,h8n,h8]
 obtain⟨p2,hp2⟩:∃ p2,x[2]? = some p2:=⟨_,List.getElem?_eq_getElem (by omega)⟩
 have hp2I:x[Int.toNat 2]? = some p2:=hp2
 have hpo:=hxo p2 (List.mem_of_getElem? hp2)
 (try (conv=>whnf));repeat' (first|refine Ok.seq ?_|((first|refine Ok.region tok ?_|refine Ok.region_draw tok follows (by kernel_rfl) ?_|refine Ok.cond ?_);conv=>whnf)|refine Ok.block ?_|((first|refine Ok.skip ?_|refine Ok.exit ?_|refine Ok.ret ?_|refine⟨_,like_at hpo.f p2.ks p2.kd p2.km p2.kdm hpo.a hpo.b,rfl,?_⟩|refine rd rfl (by assumption) ?_);conv=>whnf)|(refine bI ?_ ?_<;>intro<;>(conv=>whnf)<;>(try (exfalso;omega)))|(refine aJ ?_;conv=>whnf)|fail)
 all_goals first
  | (exfalso;omega)
  | (exact absurd trivial (by assumption))
  | skip
 refine Ok.loopU [0,3] [5] 2 1 (fun (x:Nat × List Pl × List Str × List (List D))=>[.i .i64 (x.1:Nat)]) (fun (x:Nat × List Pl × List Str × List (List D)) (_:List (List D))=>[[.own 0 8,.own 1 8,.lst 9 (x.2.2.1.map srow) x.2.2.2]]) (fun (x:Nat × List Pl × List Str × List (List D)) (_:Vx.Rows)=>[some (24,x.2.1.map prow),some (27,x.2.1.map qrow)]) (fun (x:Nat × List Pl × List Str × List (List D))=>x.1<=script.length/\x.2.1.length=8/\(∀ p ∈ x.2.1,p.Ok)/\x.2.2.1.length<=2048/\(∀ c ∈ x.2.2.1,CN c)) (fun (x:Nat × List Pl × List Str × List (List D))=>script.length - x.1) ((0,x,[],[])) (⟨Nat.zero_le _,h8,hxo,by simp,by simp⟩) ?_;(conv=>whnf);refine⟨by ((conv=>whnf);first|rfl|(simp[envCat,List.take_of_length_le,crow,srow,trow,drow,prow,qrow,strow];done)|(simp[envCat,List.take_of_length_le,crow,srow,trow,drow,prow,qrow,strow];rw[IntKind.wrap_i64];omega)),?_⟩
 rintro⟨i,bs,ls,lrm⟩ ⟨hi,hb8,hbo,hls,hlc⟩
 dsimp only at hi hb8 hbo hls hlc ⊢
 have hbl1:(bs.map prow).length=8:=by simp[hb8]
 have hbl2:(bs.map qrow).length=8:=by simp[hb8]
 have hll:(ls.map srow).length=ls.length:=by simp
 (conv=>whnf)
 by_cases hil:i<script.length/\i<48
 . obtain⟨st,hst⟩:∃ st,script[i]? = some st:=⟨_,List.getElem?_eq_getElem hil.1⟩
   have hstI:script[((i:Nat):Int).toNat]? = some st:=hst
   have hso:=hok st (List.mem_of_getElem? hst)
   obtain⟨ki,hki,hpi⟩:=place_at st.i hso.i
   obtain⟨kj,hkj,hpj⟩:=place_at st.j hso.j
   obtain⟨kt,hkt,hpt⟩:=place_at st.to hso.to
   obtain⟨a,ha⟩:∃ a,bs[ki]? = some a:=⟨_,List.getElem?_eq_getElem (by omega)⟩
   obtain⟨b,hb⟩:∃ b,bs[kj]? = some b:=⟨_,List.getElem?_eq_getElem (by omega)⟩
   have haI:bs[((ki:Nat):Int).toNat]? = some a:=ha
   have hbI:bs[((kj:Nat):Int).toNat]? = some b:=hb
   have hao:=hbo a (List.mem_of_getElem? ha)
   have hbo2:=hbo b (List.mem_of_getElem? hb)
   (try (conv=>whnf));repeat' (first|refine Ok.seq ?_|((first|refine Ok.region tok ?_|refine Ok.cond ?_);conv=>whnf)|refine Ok.block ?_|((first|refine Ok.skip ?_|refine ix _ (by assumption) ?_);conv=>whnf)|(refine bI ?_ ?_<;>intro<;>(conv=>whnf)<;>(try (exfalso;omega)))|fail)
   all_goals first
    | (exfalso;omega)
    | skip
   refine Or.inr (Or.inr (Or.inl ?_));(conv=>whnf);refine⟨_,_,Tryz.func57,rfl,Tryz.call57,?_⟩;(conv=>whnf)
   refine Ok.joinV [107,110,112] [4] 2 1 2 1 (fun (x:D × List Pl × List Str × List (List D))=>[x.1]) (fun (x:D × List Pl × List Str × List (List D))=>[[.own 0 8,.own 1 8,.lst 9 (x.2.2.1.map srow) x.2.2.2]]) (fun (x:D × List Pl × List Str × List (List D))=>[some (24,x.2.1.map prow),some (27,x.2.1.map qrow)]) (fun e (x:D × List Pl × List Str × List (List D))=>e = .ret/\Tru x.1/\x.2.1.length=8/\(∀ p ∈ x.2.1,p.Ok)/\x.2.2.1.length<=2048/\(∀ c ∈ x.2.2.1,CN c)) ?_;(conv=>whnf);refine And.intro ?_ ?_
   . skip
     by_cases h17:1<=st.kind/\st.kind<=7
     . (try (conv=>whnf));repeat' (first|refine Ok.seq ?_|((first|refine Ok.region tok ?_|refine Ok.cond ?_);conv=>whnf)|refine Ok.block ?_|(refine Or.inr (Or.inl ?_);(conv=>whnf);(repeat (refine aI ?_;conv=>whnf));refine⟨_,hpi , ?_⟩;rintro _ _ ⟨rfl,rfl⟩<;>(conv=>whnf))|(refine bI ?_ ?_<;>intro<;>(conv=>whnf)<;>(try (exfalso;omega)))|fail)
       all_goals first
        | (exfalso;omega)
        | skip
       refine Or.inr (Or.inr (Or.inl ?_));(conv=>whnf);refine⟨_,_,Tryz.func107,rfl,Tryz.call107,?_⟩;(conv=>whnf)
       refine Ok.joinV [229,232,336,339,341] [4,5,6,7] 2 2 2 5 (fun (x:Int × Pl)=>[.bp 3 0,.i .i64 x.1,.bp 4 0,.i .i64 x.1]) (fun (x:Int × Pl)=>[[.own 0 8,.own 1 8,.lst 9 (ls.map srow) lrm],strow st,strow st,prow x.2,qrow x.2]) (fun (x:Int × Pl)=>[some (24,bs.map prow),some (27,bs.map qrow)]) (fun e (x:Int × Pl)=>e = .ret/\x.2.Ok) ?_;(conv=>whnf);refine And.intro ?_ ?_
       . have hk:st.kind=1\/st.kind=2\/st.kind=3\/st.kind=4\/st.kind=5\/st.kind=6\/st.kind=7:=by omega
         rcases hk with hk|hk|hk|hk|hk|hk|hk
         . (try (conv=>whnf));repeat' (first|refine Ok.seq ?_|((first|refine Ok.region tok ?_|refine Ok.region_plan (id:=27) tok follows [(0,4,[]),(0,6,[]),(2,6,[]),(4,6,[])] [.q 0,.q 1,.q 2,.q 3,.l 4,.q 5,.l 6,.q 7] (by kernel_rfl) ?_|refine Ok.cond ?_);conv=>whnf)|refine Ok.block ?_|(refine Ok.ret ?_;conv=>whnf)|(refine Or.inr (Or.inl ?_);(conv=>whnf);(repeat (refine aI ?_;conv=>whnf));refine⟨_,hpi , ?_⟩;rintro _ _ ⟨rfl,rfl⟩<;>(conv=>whnf))|(refine Or.inr (Or.inl ?_);(conv=>whnf);(repeat (refine aI ?_;conv=>whnf));refine⟨_,hpj , ?_⟩;rintro _ _ ⟨rfl,rfl⟩<;>(conv=>whnf))|(refine Or.inr (Or.inl ?_);(conv=>whnf);(repeat (refine aI ?_;conv=>whnf));refine⟨_,parse2_at st.bits st.text , ?_⟩;rintro _ _ ⟨rfl,_,rfl,ks3,km3,rfl,h3⟩<;>(conv=>whnf))|(refine Or.inr (Or.inl ?_);(conv=>whnf);(repeat (refine aI ?_;conv=>whnf));refine⟨_,rparse_at st.bits st.text , ?_⟩;rintro _ _ ⟨rfl,_,rfl,kd3,rd3,rfl,h3d⟩<;>(conv=>whnf))|(refine bI ?_ ?_<;>intro<;>(conv=>whnf)<;>(try (exfalso;omega)))|fail)
           refine⟨((parO st.bits st.text).1,⟨(parO st.bits st.text).2.1,(parO st.bits st.text).2.2,ks3,kd3,km3,rd3⟩),⟨rfl,⟨parO_fine st.bits st.text,h3,h3d⟩⟩,?_⟩
           (conv=>whnf)
           rfl
         . (try (conv=>whnf));repeat' (first|refine Ok.seq ?_|((first|refine Ok.region tok ?_|refine Ok.region_plan (id:=11) tok follows [(3,14,[6,5]),(6,14,[]),(10,14,[13,12]),(13,14,[]),(3,18,[]),(6,18,[]),(10,18,[]),(13,18,[]),(14,18,[])] [.q 0,.q 1,.q 2,.q 3,.q 4,.q 5,.q 6,.q 7,.q 8,.q 9,.q 10,.q 11,.q 12,.q 13,.l 14,.q 15,.q 16,.q 17,.l 18,.q 19] (by kernel_rfl) ?_|refine Ok.region_plan (id:=12) tok follows [(3,14,[6,5]),(6,14,[]),(10,14,[13,12]),(13,14,[]),(3,18,[]),(6,18,[]),(10,18,[]),(13,18,[]),(14,18,[])] [.q 0,.q 1,.q 2,.q 3,.q 4,.q 5,.q 6,.q 7,.q 8,.q 9,.q 10,.q 11,.q 12,.q 13,.l 14,.q 15,.q 16,.q 17,.l 18,.q 19] (by kernel_rfl) ?_|refine Ok.region_plan (id:=27) tok follows [(0,4,[]),(0,6,[]),(2,6,[]),(4,6,[])] [.q 0,.q 1,.q 2,.q 3,.l 4,.q 5,.l 6,.q 7] (by kernel_rfl) ?_|refine Ok.cond ?_);conv=>whnf)|refine Ok.block ?_|(refine Ok.ret ?_;conv=>whnf)|(refine Or.inr (Or.inl ?_);(conv=>whnf);(repeat (refine aI ?_;conv=>whnf));refine⟨_,hpi , ?_⟩;rintro _ _ ⟨rfl,rfl⟩<;>(conv=>whnf))|(refine Or.inr (Or.inl ?_);(conv=>whnf);(repeat (refine aI ?_;conv=>whnf));refine⟨_,hpj , ?_⟩;rintro _ _ ⟨rfl,rfl⟩<;>(conv=>whnf))|(refine Or.inr (Or.inl ?_);(conv=>whnf);(repeat (refine aI ?_;conv=>whnf));refine⟨_,join_at hao.f hbo2.f a.ks b.ks a.km b.km hao.a hbo2.a , ?_⟩;rintro _ _ ⟨rfl,_,rfl,ks3,km3,rfl,h3⟩<;>(conv=>whnf))|(refine Or.inr (Or.inl ?_);(conv=>whnf);(repeat (refine aI ?_;conv=>whnf));refine⟨_,rjoin_at hao.f hbo2.f a.kd b.kd a.kdm b.kdm hao.b hbo2.b , ?_⟩;rintro _ _ ⟨rfl,_,rfl,kd3,rd3,rfl,h3d⟩<;>(conv=>whnf))|(refine rd rfl (by assumption) ?_;conv=>whnf)|(refine bI ?_ ?_<;>intro<;>(conv=>whnf)<;>(try (exfalso;omega)))|(refine aJ ?_;conv=>whnf)|fail)
           refine⟨((joinO a.n b.n a.ts b.ts).1,⟨(joinO a.n b.n a.ts b.ts).2.1,(joinO a.n b.n a.ts b.ts).2.2,ks3,kd3,km3,rd3⟩),⟨rfl,⟨joinO_fine hao.f hbo2.f,h3,h3d⟩⟩,?_⟩
           (conv=>whnf)
           rfl
         . (try (conv=>whnf));repeat' (first|refine Ok.seq ?_|((first|refine Ok.region tok ?_|refine Ok.region_plan (id:=14) tok follows [(3,14,[6,5]),(6,14,[]),(10,14,[13,12]),(13,14,[]),(3,18,[]),(6,18,[]),(10,18,[]),(13,18,[]),(14,18,[])] [.q 0,.q 1,.q 2,.q 3,.q 4,.q 5,.q 6,.q 7,.q 8,.q 9,.q 10,.q 11,.q 12,.q 13,.l 14,.q 15,.q 16,.q 17,.l 18,.q 19] (by kernel_rfl) ?_|refine Ok.region_plan (id:=15) tok follows [(3,14,[6,5]),(6,14,[]),(10,14,[13,12]),(13,14,[]),(3,18,[]),(6,18,[]),(10,18,[]),(13,18,[]),(14,18,[])] [.q 0,.q 1,.q 2,.q 3,.q 4,.q 5,.q 6,.q 7,.q 8,.q 9,.q 10,.q 11,.q 12,.q 13,.l 14,.q 15,.q 16,.q 17,.l 18,.q 19] (by kernel_rfl) ?_|refine Ok.region_plan (id:=27) tok follows [(0,4,[]),(0,6,[]),(2,6,[]),(4,6,[])] [.q 0,.q 1,.q 2,.q 3,.l 4,.q 5,.l 6,.q 7] (by kernel_rfl) ?_|refine Ok.cond ?_);conv=>whnf)|refine Ok.block ?_|(refine Ok.ret ?_;conv=>whnf)|(refine Or.inr (Or.inl ?_);(conv=>whnf);(repeat (refine aI ?_;conv=>whnf));refine⟨_,hpi , ?_⟩;rintro _ _ ⟨rfl,rfl⟩<;>(conv=>whnf))|(refine Or.inr (Or.inl ?_);(conv=>whnf);(repeat (refine aI ?_;conv=>whnf));refine⟨_,hpj , ?_⟩;rintro _ _ ⟨rfl,rfl⟩<;>(conv=>whnf))|(refine Or.inr (Or.inl ?_);(conv=>whnf);(repeat (refine aI ?_;conv=>whnf));refine⟨_,meet2_at hao.f hbo2.f a.ks b.ks a.km b.km hao.a hbo2.a , ?_⟩;rintro _ _ ⟨rfl,_,rfl,ks3,km3,rfl,h3⟩<;>(conv=>whnf))|(refine Or.inr (Or.inl ?_);(conv=>whnf);(repeat (refine aI ?_;conv=>whnf));refine⟨_,rmeet2_at hao.f hbo2.f a.kd b.kd a.kdm b.kdm hao.b hbo2.b , ?_⟩;rintro _ _ ⟨rfl,_,rfl,kd3,rd3,rfl,h3d⟩<;>(conv=>whnf))|(refine rd rfl (by assumption) ?_;conv=>whnf)|(refine bI ?_ ?_<;>intro<;>(conv=>whnf)<;>(try (exfalso;omega)))|(refine aJ ?_;conv=>whnf)|fail)
           refine⟨((meetO a.n b.n a.ts b.ts).1,⟨(meetO a.n b.n a.ts b.ts).2.1,(meetO a.n b.n a.ts b.ts).2.2,ks3,kd3,km3,rd3⟩),⟨rfl,⟨meetO_fine hao.f hbo2.f,h3,h3d⟩⟩,?_⟩
           (conv=>whnf)
           rfl
         . (try (conv=>whnf));repeat' (first|refine Ok.seq ?_|((first|refine Ok.region tok ?_|refine Ok.region_plan (id:=17) tok follows [(3,14,[6,5]),(6,14,[]),(10,14,[13,12]),(13,14,[]),(3,18,[]),(6,18,[]),(10,18,[]),(13,18,[]),(14,18,[])] [.q 0,.q 1,.q 2,.q 3,.q 4,.q 5,.q 6,.q 7,.q 8,.q 9,.q 10,.q 11,.q 12,.q 13,.l 14,.q 15,.q 16,.q 17,.l 18,.q 19] (by kernel_rfl) ?_|refine Ok.region_plan (id:=18) tok follows [(3,14,[6,5]),(6,14,[]),(10,14,[13,12]),(13,14,[]),(3,18,[]),(6,18,[]),(10,18,[]),(13,18,[]),(14,18,[])] [.q 0,.q 1,.q 2,.q 3,.q 4,.q 5,.q 6,.q 7,.q 8,.q 9,.q 10,.q 11,.q 12,.q 13,.l 14,.q 15,.q 16,.q 17,.l 18,.q 19] (by kernel_rfl) ?_|refine Ok.region_plan (id:=27) tok follows [(0,4,[]),(0,6,[]),(2,6,[]),(4,6,[])] [.q 0,.q 1,.q 2,.q 3,.l 4,.q 5,.l 6,.q 7] (by kernel_rfl) ?_|refine Ok.cond ?_);conv=>whnf)|refine Ok.block ?_|(refine Ok.ret ?_;conv=>whnf)|(refine Or.inr (Or.inl ?_);(conv=>whnf);(repeat (refine aI ?_;conv=>whnf));refine⟨_,hpi , ?_⟩;rintro _ _ ⟨rfl,rfl⟩<;>(conv=>whnf))|(refine Or.inr (Or.inl ?_);(conv=>whnf);(repeat (refine aI ?_;conv=>whnf));refine⟨_,hpj , ?_⟩;rintro _ _ ⟨rfl,rfl⟩<;>(conv=>whnf))|(refine Or.inr (Or.inl ?_);(conv=>whnf);(repeat (refine aI ?_;conv=>whnf));refine⟨_,minus_at hao.f hbo2.f a.ks b.ks a.km b.km hao.a hbo2.a , ?_⟩;rintro _ _ ⟨rfl,_,rfl,ks3,km3,rfl,h3⟩<;>(conv=>whnf))|(refine Or.inr (Or.inl ?_);(conv=>whnf);(repeat (refine aI ?_;conv=>whnf));refine⟨_,rminus_at hao.f hbo2.f a.kd b.kd a.kdm b.kdm hao.b hbo2.b , ?_⟩;rintro _ _ ⟨rfl,_,rfl,kd3,rd3,rfl,h3d⟩<;>(conv=>whnf))|(refine rd rfl (by assumption) ?_;conv=>whnf)|(refine bI ?_ ?_<;>intro<;>(conv=>whnf)<;>(try (exfalso;omega)))|(refine aJ ?_;conv=>whnf)|fail)
           refine⟨((minusO a.n b.n a.ts b.ts).1,⟨(minusO a.n b.n a.ts b.ts).2.1,(minusO a.n b.n a.ts b.ts).2.2,ks3,kd3,km3,rd3⟩),⟨rfl,⟨minusO_fine hao.f hbo2.f,h3,h3d⟩⟩,?_⟩
           (conv=>whnf)
           rfl
         . (try (conv=>whnf));repeat' (first|refine Ok.seq ?_|((first|refine Ok.region tok ?_|refine Ok.region_plan (id:=20) tok follows [(8,9,[]),(3,10,[6,5]),(6,10,[]),(8,10,[9]),(9,10,[]),(3,14,[]),(6,14,[]),(8,14,[]),(9,14,[]),(10,14,[])] [.q 0,.q 1,.q 2,.q 3,.q 4,.q 5,.q 6,.q 7,.q 8,.l 9,.l 10,.q 11,.q 12,.q 13,.l 14,.q 15] (by kernel_rfl) ?_|refine Ok.region_plan (id:=21) tok follows [(8,9,[]),(3,10,[6,5]),(6,10,[]),(8,10,[9]),(9,10,[]),(3,14,[]),(6,14,[]),(8,14,[]),(9,14,[]),(10,14,[])] [.q 0,.q 1,.q 2,.q 3,.q 4,.q 5,.q 6,.q 7,.q 8,.l 9,.l 10,.q 11,.q 12,.q 13,.l 14,.q 15] (by kernel_rfl) ?_|refine Ok.region_plan (id:=27) tok follows [(0,4,[]),(0,6,[]),(2,6,[]),(4,6,[])] [.q 0,.q 1,.q 2,.q 3,.l 4,.q 5,.l 6,.q 7] (by kernel_rfl) ?_|refine Ok.cond ?_);conv=>whnf)|refine Ok.block ?_|(refine Ok.ret ?_;conv=>whnf)|(refine Or.inl ?_;(conv=>whnf);(repeat (refine aI ?_;conv=>whnf));refine⟨_,zeroed_at st.text,rfl,?_⟩;conv=>whnf)|(refine Or.inr (Or.inl ?_);(conv=>whnf);(repeat (refine aI ?_;conv=>whnf));refine⟨_,hpi , ?_⟩;rintro _ _ ⟨rfl,rfl⟩<;>(conv=>whnf))|(refine Or.inr (Or.inl ?_);(conv=>whnf);(repeat (refine aI ?_;conv=>whnf));refine⟨_,hpj , ?_⟩;rintro _ _ ⟨rfl,rfl⟩<;>(conv=>whnf))|(refine Or.inr (Or.inl ?_);(conv=>whnf);(repeat (refine aI ?_;conv=>whnf));refine⟨_,cube_at st.text , ?_⟩;rintro _ _ ⟨rfl,rfl⟩<;>(conv=>whnf))|(refine Or.inr (Or.inl ?_);(conv=>whnf);(repeat (refine aI ?_;conv=>whnf));refine⟨_,before2_at hao.f a.ks a.km hao.a (zer st.text) (zer_ct st.text) , ?_⟩;rintro _ _ ⟨rfl,_,rfl,ks3,km3,rfl,h3⟩<;>(conv=>whnf))|(refine Or.inr (Or.inl ?_);(conv=>whnf);(repeat (refine aI ?_;conv=>whnf));refine⟨_,rbefore2_at hao.f a.kd a.kdm hao.b (zer st.text) (zer_ct st.text) , ?_⟩;rintro _ _ ⟨rfl,_,rfl,kd3,rd3,rfl,h3d⟩<;>(conv=>whnf))|(refine rd rfl (by assumption) ?_;conv=>whnf)|(refine bI ?_ ?_<;>intro<;>(conv=>whnf)<;>(try (exfalso;omega)))|(refine aJ ?_;conv=>whnf)|fail)
           refine⟨((befO a.n a.ts (zer st.text)).1,⟨(befO a.n a.ts (zer st.text)).2.1,(befO a.n a.ts (zer st.text)).2.2,ks3,kd3,km3,rd3⟩),⟨rfl,⟨befO_fine hao.f,h3,h3d⟩⟩,?_⟩
           (conv=>whnf)
           rfl
         . (try (conv=>whnf));repeat' (first|refine Ok.seq ?_|((first|refine Ok.region tok ?_|refine Ok.region_plan (id:=23) tok follows [(8,9,[]),(3,12,[6,5]),(6,12,[]),(8,12,[9]),(11,12,[]),(9,12,[]),(3,16,[]),(6,16,[]),(8,16,[]),(11,16,[]),(9,16,[]),(12,16,[])] [.q 0,.q 1,.q 2,.q 3,.q 4,.q 5,.q 6,.q 7,.q 8,.q 10,.q 11,.l 9,.l 12,.q 13,.q 14,.q 15,.l 16,.q 17] (by kernel_rfl) ?_|refine Ok.region_plan (id:=24) tok follows [(8,9,[]),(3,12,[6,5]),(6,12,[]),(8,12,[9]),(11,12,[]),(9,12,[]),(3,16,[]),(6,16,[]),(8,16,[]),(11,16,[]),(9,16,[]),(12,16,[])] [.q 0,.q 1,.q 2,.q 3,.q 4,.q 5,.q 6,.q 7,.q 8,.q 10,.q 11,.l 9,.l 12,.q 13,.q 14,.q 15,.l 16,.q 17] (by kernel_rfl) ?_|refine Ok.region_plan (id:=27) tok follows [(0,4,[]),(0,6,[]),(2,6,[]),(4,6,[])] [.q 0,.q 1,.q 2,.q 3,.l 4,.q 5,.l 6,.q 7] (by kernel_rfl) ?_|refine Ok.cond ?_);conv=>whnf)|refine Ok.block ?_|(refine Ok.ret ?_;conv=>whnf)|(refine Or.inl ?_;(conv=>whnf);(repeat (refine aI ?_;conv=>whnf));refine⟨_,zeroed_at st.text,rfl,?_⟩;conv=>whnf)|(refine Or.inr (Or.inl ?_);(conv=>whnf);(repeat (refine aI ?_;conv=>whnf));refine⟨_,hpi , ?_⟩;rintro _ _ ⟨rfl,rfl⟩<;>(conv=>whnf))|(refine Or.inr (Or.inl ?_);(conv=>whnf);(repeat (refine aI ?_;conv=>whnf));refine⟨_,hpj , ?_⟩;rintro _ _ ⟨rfl,rfl⟩<;>(conv=>whnf))|(refine Or.inr (Or.inl ?_);(conv=>whnf);(repeat (refine aI ?_;conv=>whnf));refine⟨_,cube_at st.text , ?_⟩;rintro _ _ ⟨rfl,rfl⟩<;>(conv=>whnf))|(refine Or.inr (Or.inl ?_);(conv=>whnf);(repeat (refine aI ?_;conv=>whnf));refine⟨_,after_at hao.f a.ks a.km hao.a (zer st.text) (zer_ct st.text) st.n , ?_⟩;rintro _ _ ⟨rfl,_,rfl,ks3,km3,rfl,h3⟩<;>(conv=>whnf))|(refine Or.inr (Or.inl ?_);(conv=>whnf);(repeat (refine aI ?_;conv=>whnf));refine⟨_,rafter_at hao.f a.kd a.kdm hao.b (zer st.text) (zer_ct st.text) st.n , ?_⟩;rintro _ _ ⟨rfl,_,rfl,kd3,rd3,rfl,h3d⟩<;>(conv=>whnf))|(refine rd rfl (by assumption) ?_;conv=>whnf)|(refine bI ?_ ?_<;>intro<;>(conv=>whnf)<;>(try (exfalso;omega)))|(refine aJ ?_;conv=>whnf)|fail)
           refine⟨((aftO a.n a.ts (zer st.text) st.n).1,⟨(aftO a.n a.ts (zer st.text) st.n).2.1,(aftO a.n a.ts (zer st.text) st.n).2.2,ks3,kd3,km3,rd3⟩),⟨rfl,⟨aftO_fine hao.f (zer_ct st.text),h3,h3d⟩⟩,?_⟩
           (conv=>whnf)
           rfl
         . (try (conv=>whnf));repeat' (first|refine Ok.seq ?_|((first|refine Ok.region tok ?_|refine Ok.cond ?_);conv=>whnf)|refine Ok.block ?_|(refine Or.inr (Or.inl ?_);(conv=>whnf);(repeat (refine aI ?_;conv=>whnf));refine⟨_,hpi , ?_⟩;rintro _ _ ⟨rfl,rfl⟩<;>(conv=>whnf))|(refine Or.inr (Or.inl ?_);(conv=>whnf);(repeat (refine aI ?_;conv=>whnf));refine⟨_,hpj , ?_⟩;rintro _ _ ⟨rfl,rfl⟩<;>(conv=>whnf))|(refine bI ?_ ?_<;>intro<;>(conv=>whnf)<;>(try (exfalso;omega)))|fail)
           refine Or.inr (Or.inr (Or.inl ?_));(conv=>whnf);refine⟨_,_,Tryz.func131,rfl,Tryz.call131,?_⟩;(conv=>whnf)
           refine Ok.joinV [101,103,107,108,326,329,433,436,438] [2,3,4,5] 2 7 2 9 (fun (x:Int × Pl)=>[.bp 7 0,.i .i64 x.1,.bp 8 0,.i .i64 x.1]) (fun (x:Int × Pl)=>[[.own 0 8,.own 1 8,.lst 9 (ls.map srow) lrm],strow st,strow st,[.i .i64 0,.nilS],[.i .i64 0,.nilS],[.i .i64 0,.nilS],[.i .i64 0,.nilS],prow x.2,qrow x.2]) (fun (x:Int × Pl)=>[some (24,bs.map prow),some (27,bs.map qrow)]) (fun e (x:Int × Pl)=>e = .ret/\x.2.Ok) ?_;(conv=>whnf);refine And.intro ?_ ?_
           . by_cases hl0:ls=[]
             . subst hl0
               have hz:crow []=[.i .i64 0,.i .u64 0,.i .u64 0,.i .u64 0,.i .u64 0,.i .u64 0,.i .u64 0,.i .u64 0,.i .u64 0]:=by simp[crow]
               have of0:=of_at [] [] [] CT.nil (by simp)
               have rof0:=rofl_at [] [] (rl:=[]) (rm:=[]) CT.nil (by simp) (by simp) rfl
               have hf0:=ofO_fine (c:=[]) (less:=[]) CT.nil (by simp)
               rw[hz] at of0
               (try (conv=>whnf));repeat' (first|refine Ok.seq ?_|((first|refine Ok.region tok ?_|refine Ok.region_plan (id:=4) tok follows [(0,4,[]),(0,6,[]),(2,6,[]),(4,6,[])] [.q 0,.q 1,.q 2,.q 3,.l 4,.q 5,.l 6,.q 7] (by kernel_rfl) ?_|refine Ok.cond ?_);conv=>whnf)|refine Ok.block ?_|((first|refine Ok.skip ?_|refine Ok.ret ?_);conv=>whnf)|(refine Or.inr (Or.inl ?_);(conv=>whnf);(repeat (refine aI ?_;conv=>whnf));refine⟨_,of0 , ?_⟩;rintro _ _ ⟨rfl,_,rfl,ks3,km3,rfl,h3⟩<;>(conv=>whnf))|(refine Or.inr (Or.inl ?_);(conv=>whnf);(repeat (refine aI ?_;conv=>whnf));refine⟨_,rof0 , ?_⟩;rintro _ _ ⟨rfl,_,rfl,kd3,rd3,rfl,h3d⟩<;>(conv=>whnf))|(refine bI ?_ ?_<;>intro<;>(conv=>whnf)<;>(try (exfalso;omega)))|fail)
               . refine⟨((ofO [] []).1,⟨(ofO [] []).2.1,(ofO [] []).2.2,ks3,kd3,km3,rd3⟩),⟨rfl,⟨hf0,h3,h3d⟩⟩,?_⟩
                 (conv=>whnf)
                 rfl
               . rename_i h
                 exact absurd rfl h
             have hpos:0<ls.length:=List.length_pos_iff.2 hl0
             obtain⟨c0,hc0⟩:∃ c0,ls[0]? = some c0:=⟨_,List.getElem?_eq_getElem hpos⟩
             have hc0I:ls[Int.toNat 0]? = some c0:=hc0
             have hc0n:=hlc c0 (List.mem_of_getElem? hc0)
             have hcube:∀ w,CN w->FSpec Tryz.prog T 28 [.s w] (fun d rows=>d = .agg (crow w)/\rows=[]):=fun w hw=>by
              have:=cube_at w
              rwa [zer_of hw] at this
             obtain⟨tl,htl⟩:∃ tl,tl=ls.tail:=⟨_,rfl⟩
             have htll:tl.length+1=ls.length:=by rw[htl,List.length_tail];omega
             have htlg:∀ q:Nat,tl[q]? = ls[q+1]?:=fun q=>by rw[htl,List.getElem?_tail]
             have htlc:∀ c ∈ tl,CN c:=fun c hc=>hlc c (List.mem_of_mem_tail (htl ▸ hc))
             have hdr:List.drop 1 (List.take (ls.map srow).length (ls.map srow++lrm))=tl.map srow:=by rw[List.take_left,<- List.map_drop,htl,List.drop_one]
             (try (conv=>whnf));repeat' (first|refine Ok.seq ?_|((first|refine Ok.region tok ?_|refine Ok.cond ?_);conv=>whnf)|refine Ok.block ?_|(refine Ok.skip ?_;conv=>whnf)|(refine bI ?_ ?_<;>intro<;>(conv=>whnf)<;>(try (exfalso;omega)))|fail)
             all_goals first
              | (exfalso;omega)
              | skip
             refine Ok.ghost 10 46 rfl ?_
             (conv=>whnf)
             refine Ok.loopU [0,2,4,101,103,107,108,326,329,433,436,438] [10,11] 3 9 (fun (q:Nat)=>[.own 2 ((tl.take q).map crow).length,.i .i64 ((q:Nat)+1)]) (fun _ b=>b) (fun (q:Nat) (_:Vx.Rows)=>[some (24,bs.map prow),some (27,bs.map qrow),some (46,(tl.take q).map crow)]) (fun (q:Nat)=>q<=tl.length) (fun (q:Nat)=>tl.length - q) (0) (Nat.zero_le _) ?_;(conv=>whnf);refine⟨by ((conv=>whnf);first|rfl|(simp[envCat,List.take_of_length_le,crow,srow,trow,drow,prow,qrow,strow];done)|(simp[envCat,List.take_of_length_le,crow,srow,trow,drow,prow,qrow,strow];rw[IntKind.wrap_i64];omega)),?_⟩
             intro q hq
             have hql:((tl.take q).map crow).length=q:=by simp;omega
             (conv=>whnf)
             by_cases hqm:q<tl.length
             . obtain⟨w,hw⟩:∃ w,tl[q]? = some w:=⟨_,List.getElem?_eq_getElem hqm⟩
               have hwI:ls[(((q:Nat):Int)+1).toNat]? = some w:=(htlg q).symm.trans hw
               have hcw:=hcube w (htlc w (List.mem_of_getElem? hw))
               (try (conv=>whnf));repeat' (first|refine Ok.seq ?_|((first|refine Ok.region tok ?_|refine Ok.cond ?_);conv=>whnf)|refine Ok.block ?_|((first|refine Ok.skip ?_|refine nI ?_|refine ix _ (by assumption) ?_);conv=>whnf)|(refine Or.inr (Or.inl ?_);(conv=>whnf);(repeat (refine aI ?_;conv=>whnf));refine⟨_,hcw , ?_⟩;rintro _ _ ⟨rfl,rfl⟩<;>(conv=>whnf))|((first|refine Alt2.l (aI ?_)|refine⟨_,.inl ⟨rfl,rfl⟩,?_⟩|refine⟨_,_,rfl,rfl,?_⟩);conv=>whnf)|(refine bI ?_ ?_<;>intro<;>(conv=>whnf)<;>(try (exfalso;omega)))|(refine aJ ?_;conv=>whnf)|fail)
               all_goals first
                | (exfalso;omega)
                | skip
               refine⟨q+1,by omega,by omega,?_⟩
               rw[take_snoc hw,List.map_append]
               (conv=>whnf)
               rfl
             have hqe:q=tl.length:=by omega
             subst hqe
             rw[List.take_length] at *
             have hcc:=hcube c0 hc0n
             have hlt:(tl.map crow).length=tl.length:=by simp
             have hN:∀ xs ys,xs=tl.map crow->FSpecN Tryz.prog T 52 [.agg (crow c0),.lst 46 xs ys] (POut (ofO c0 tl)):=fun xs ys h=>h ▸ ofN_at c0 tl ys hc0n.1 fun m hm=>(htlc m hm).1
             have hR:∀ rl rm,rl=tl.map srow->FSpec Tryz.prog T 143 [.s c0,.lst 9 rl rm] (DOut (ofO c0 tl)):=fun rl rm h=>rofl_at c0 tl hc0n.1 (fun m hm=>(htlc m hm).1) (by omega) h
             have hof:=ofO_fine hc0n.1 fun m hm=>(htlc m hm).1
             have htk:=take_all2 hlt
             (try (conv=>whnf));repeat' (first|(refine Or.inr (Or.inr (Or.inr (Or.inr ?_)));(conv=>whnf);refine effW.of (effK.new (ts:=[46,58]) (by (conv=>whnf);exact⟨Nat.le_refl _,rfl⟩) (hN _ _ List.take_length) ?_);rintro _ _ ⟨rfl,_,rfl,ks3,km3,rfl,h3⟩;refine⟨rfl,fun V v ω h=>RS.tupI (by intro d hd;simp at hd;rcases hd with rfl|rfl<;>rfl) h,?_⟩;(conv=>whnf))|refine Ok.seq ?_|((first|refine Ok.region tok ?_|refine Ok.cond ?_);conv=>whnf)|refine Ok.block ?_|((first|refine Ok.exit ?_|refine ix _ (by assumption) ?_);conv=>whnf)|(refine Or.inr (Or.inl ?_);(conv=>whnf);(repeat (refine aI ?_;conv=>whnf));refine⟨_,hcc , ?_⟩;rintro _ _ ⟨rfl,rfl⟩<;>(conv=>whnf))|(refine bI ?_ ?_<;>intro<;>(conv=>whnf)<;>(try (exfalso;omega)))|fail)
             all_goals first
              | (exfalso;omega)
              | skip
             refine Ok.loopU [0,2,4,10,12,13,101,103,107,108,326,329,433,436,438] [14] 3 10 (fun (x:Nat × List Str)=>[.i .i64 (x.1:Nat)]) (fun _ b=>b) (fun (x:Nat × List Str) (_:Vx.Rows)=>[some (24,bs.map prow),some (27,bs.map qrow),some (46,x.2.map crow)]) (fun (x:Nat × List Str)=>x.1<=tl.length/\x.2.length=tl.length) (fun (x:Nat × List Str)=>tl.length - x.1) ((0,tl)) (⟨Nat.zero_le _,rfl⟩) ?_;(conv=>whnf);refine⟨by ((conv=>whnf);first|rfl|(simp[envCat,List.take_of_length_le,crow,srow,trow,drow,prow,qrow,strow];done)|(simp[envCat,List.take_of_length_le,crow,srow,trow,drow,prow,qrow,strow];rw[IntKind.wrap_i64];omega)),?_⟩
             rintro⟨q,l⟩ ⟨hq,hl⟩
             dsimp only at hq hl ⊢
             have hlm:(l.map crow).length=tl.length:=by simp[hl]
             (conv=>whnf)
             by_cases hqm:q<tl.length
             . obtain⟨y,hy⟩:∃ y,l[q]? = some y:=⟨_,List.getElem?_eq_getElem (by omega)⟩
               have hyI:l[((q:Nat):Int).toNat]? = some y:=hy
               (try (conv=>whnf));repeat' (first|refine Ok.seq ?_|((first|refine Ok.region tok ?_|refine Ok.cond ?_);conv=>whnf)|refine Ok.block ?_|(refine Ok.skip ?_;conv=>whnf)|(refine Or.inr (Or.inl ?_);(conv=>whnf);(repeat (refine aI ?_;conv=>whnf));refine⟨_,all_at 3 , ?_⟩;rintro _ _ ⟨rfl,rfl⟩<;>(conv=>whnf))|(refine bI ?_ ?_<;>intro<;>(conv=>whnf)<;>(try (exfalso;omega)))|(refine aJ ?_;conv=>whnf)|fail)
               all_goals first
                | (exfalso;omega)
                | skip
               refine Go.Vx.st (allC 3) hyI (by simp) (by simp[setCells]) ?_
               (try (conv=>whnf));repeat' (first|((first|refine Ok.region tok ?_|refine nI ?_);conv=>whnf)|fail)
               refine⟨(q+1,l.set q (allC 3)),by dsimp only;omega,⟨by dsimp only;omega,by simp[hl]⟩,?_⟩
               (conv=>whnf)
               rfl
             have hqe2:q=tl.length:=by omega
             subst hqe2
             (try (conv=>whnf));repeat' (first|refine Ok.seq ?_|((first|refine Ok.region tok ?_|refine Ok.region_tree (id:=15) tok follows [(3,11,[5,4]),(5,11,[]),(9,11,[10]),(3,16,[]),(5,16,[]),(9,16,[]),(11,16,[]),(15,16,[])] (.q 0 (.q 1 (.q 2 (.q 3 (.q 4 (.q 5 (.q 6 (.q 7 (.q 8 (.q 9 (.q 10 (.alt 11 (.q 12 (.q 13 (.q 14 (.l 15 (.l 16 (.q 17 .nil)))))) (.alt 15 (.l 11 (.q 12 (.q 13 (.q 14 (.l 16 (.q 17 .nil)))))) .nil))))))))))))) (by kernel_rfl) ?_|refine Ok.region_plan (id:=16) tok follows [(0,4,[]),(0,6,[]),(2,6,[]),(4,6,[])] [.q 0,.q 1,.q 2,.q 3,.l 4,.q 5,.l 6,.q 7] (by kernel_rfl) ?_|refine Ok.cond ?_|refine Ok.exit ?_|refine Ok.ret ?_|refine ix _ (by assumption) ?_);conv=>whnf)|(refine Or.inr (Or.inl ?_);(conv=>whnf);(repeat (refine aI ?_;conv=>whnf));refine⟨_,hR _ _ hdr , ?_⟩;rintro _ _ ⟨rfl,_,rfl,kd3,rd3,rfl,h3d⟩<;>(conv=>whnf))|(refine⟨_,_,rfl,rfl,?_⟩;conv=>whnf)|(refine bI ?_ ?_<;>intro<;>(conv=>whnf)<;>(try (exfalso;omega)))|(refine aJ ?_;conv=>whnf)|(exact True.intro)|(refine And.intro ?_ ?_<;>(conv=>whnf))|fail)
             all_goals first
              | (exfalso;omega)
              | (refine⟨((ofO c0 tl).1,⟨(ofO c0 tl).2.1,(ofO c0 tl).2.2,ks3,kd3,km3,rd3⟩),⟨rfl,⟨hof,h3,h3d⟩⟩,?_⟩
                 (conv=>whnf)
                 rfl)
           . rintro e ⟨er,c⟩ ⟨rfl,hco⟩
             dsimp only at hco ⊢
             (conv=>whnf)
             (try (conv=>whnf));repeat' (first|refine Ok.seq ?_|((first|refine Ok.region_plan (id:=27) tok follows [(0,4,[]),(0,6,[]),(2,6,[]),(4,6,[])] [.q 0,.q 1,.q 2,.q 3,.l 4,.q 5,.l 6,.q 7] (by kernel_rfl) ?_|refine Ok.ret ?_);conv=>whnf)|fail)
             refine⟨(er,c),⟨rfl,hco⟩,?_⟩
             (conv=>whnf)
             rfl
       . rintro e ⟨er,c⟩ ⟨rfl,hco⟩
         dsimp only at hco ⊢
         (conv=>whnf)
         (try (conv=>whnf));repeat' (first|refine Ok.seq ?_|((first|refine Ok.region tok ?_|refine Ok.region_plan (id:=8) tok follows [(3,7,[]),(5,7,[])] [.q 0,.q 1,.q 2,.q 3,.q 4,.q 5,.q 6,.l 7] (by kernel_rfl) ?_|refine Ok.cond ?_|refine Ok.skip ?_|refine Ok.ret ?_);conv=>whnf)|(refine Or.inl ?_;(conv=>whnf);(repeat (refine aI ?_;conv=>whnf));refine⟨_,same_at hco.f c.ks c.kd c.km c.kdm hco.a hco.b,rfl,?_⟩;conv=>whnf)|(refine Or.inr (Or.inl ?_);(conv=>whnf);(repeat (refine aI ?_;conv=>whnf));refine⟨_,hpt , ?_⟩;rintro _ _ ⟨rfl,rfl⟩<;>(conv=>whnf))|(refine bI ?_ ?_<;>intro<;>(conv=>whnf)<;>(try (exfalso;omega)))|(refine aJ ?_;conv=>whnf)|fail)
         . exact absurd trivial (by assumption)
         . obtain⟨t0,ht0⟩:∃ t0,bs[kt]? = some t0:=⟨_,List.getElem?_eq_getElem (by omega)⟩
           have ht0I:bs[((kt:Nat):Int).toNat]? = some t0:=ht0
           refine Go.Vx.st c ht0I (by simp) (by simp[setCells]) ?_
           (try (conv=>whnf));repeat' (first|((first|refine Ok.region_plan (id:=9) tok follows [(3,7,[]),(5,7,[])] [.q 0,.q 1,.q 2,.q 3,.q 4,.q 5,.q 6,.l 7] (by kernel_rfl) ?_|refine aJ ?_);conv=>whnf)|fail)
           refine Go.Vx.st c ht0I (by simp) (by simp[setCells]) ?_
           (try (conv=>whnf));repeat' (first|refine Ok.seq ?_|((first|refine Ok.region tok ?_|refine Ok.ret ?_);conv=>whnf)|fail)
           refine⟨(.tt,bs.set kt c,ls,lrm),⟨rfl,.inl rfl,by simp[hb8],fun p hp=>(List.mem_or_eq_of_mem_set hp).elim (hbo p) fun e=>e ▸ hco,hls,hlc⟩,?_⟩
           (conv=>whnf)
           rfl
         . refine⟨(.tt,bs,ls,lrm),⟨rfl,.inl rfl,hb8,hbo,hls,hlc⟩,?_⟩
           (conv=>whnf)
           rfl
     . by_cases hk8:st.kind=8
       . (try (conv=>whnf));repeat' (first|refine Ok.seq ?_|((first|refine Ok.region tok ?_|refine Ok.cond ?_);conv=>whnf)|refine Ok.block ?_|(refine Or.inr (Or.inl ?_);(conv=>whnf);(repeat (refine aI ?_;conv=>whnf));refine⟨_,hpi , ?_⟩;rintro _ _ ⟨rfl,rfl⟩<;>(conv=>whnf))|(refine bI ?_ ?_<;>intro<;>(conv=>whnf)<;>(try (exfalso;omega)))|fail)
         all_goals first
          | (exfalso;omega)
          | skip
         refine Or.inr (Or.inr (Or.inl ?_));(conv=>whnf);refine⟨_,_,Tryz.func108,rfl,Tryz.call108,?_⟩;(conv=>whnf)
         refine Ok.joinV [188,191,193] [4] 2 2 2 2 (fun (x:D × List Str × List (List D))=>[x.1]) (fun (x:D × List Str × List (List D))=>[[.own 0 8,.own 1 8,.lst 9 (x.2.1.map srow) x.2.2],strow st]) (fun (x:D × List Str × List (List D))=>[some (24,bs.map prow),some (27,bs.map qrow)]) (fun e (x:D × List Str × List (List D))=>e = .ret/\Tru x.1/\x.2.1.length<=2048/\(∀ c ∈ x.2.1,CN c)) ?_;(conv=>whnf);refine And.intro ?_ ?_
         . have hea:=expO_all (limit:=st.n) hao.f
           have hx1:=expandO_at hao.f a.ks a.km hao.a st.n
           have hx2:=rexpand_at hao.f a.kd a.kdm hao.b st.n
           generalize expO a.n a.ts st.n=O at *
           obtain⟨er,m⟩:=O
           replace hx1:FSpec Tryz.prog T 34 [.agg [.i .i64 a.n,.lst 112 (a.ks.map trow) a.km],.i .i64 st.n] (fun d rows=>d = .tup [.own 0 m.length,.i .i64 er]/\rows=[some (46,m.map crow)]):=hx1
           replace hx2:FSpec Tryz.prog T 32 [.agg [.i .i64 a.n,.lst 120 (a.kd.map drow) a.kdm],.i .i64 st.n] (fun d rows=>rows=[]/\∃ rm,d = .tup [.lst 9 (m.map srow) rm,.i .i64 er]):=hx2
           dsimp only at hea
           obtain⟨hea,hel⟩:=hea
           have hml:(m.map crow).length=m.length:=by simp
           have hml2:(m.map srow).length=m.length:=by simp
           have hls2:=fun rl rm1 rm2 (h:rl=m.map crow)=>show FSpec Tryz.prog T 36 [.lst 46 rl rm1,.lst 9 (m.map srow) rm2] (fun d rows=>d = .b True/\rows=[]) from h ▸ listed2_at m (rm1:=rm1) (rm2:=rm2) (fun c hc=>(hea c hc).1.1) (by omega)
           have htk:=take_all2 hml
           (try (conv=>whnf));repeat' (first|(refine Or.inr (Or.inr (Or.inr (Or.inr ?_)));(conv=>whnf);refine effW.of (effK.deep (ts:=[58,37]) (by (conv=>whnf);exact⟨Nat.le_of_eq hml.symm,rfl⟩) (hls2 _ _ _ htk) ?_);rintro _ _ ⟨rfl,rfl⟩;refine⟨rfl,fun _ _ _ _ h=>RS.bT h,?_⟩;(conv=>whnf))|refine Ok.seq ?_|((first|refine Ok.region tok ?_|refine Ok.region_plan (id:=2) tok follows [(3,9,[6,5]),(6,9,[]),(8,9,[])] [.q 0,.q 1,.q 2,.q 3,.q 4,.q 5,.q 6,.q 7,.q 8,.l 9,.q 10,.q 11,.q 12,.q 13,.q 14] (by kernel_rfl) ?_|refine Ok.region_plan (id:=3) tok follows [(3,9,[6,5]),(6,9,[]),(8,9,[])] [.q 0,.q 1,.q 2,.q 3,.q 4,.q 5,.q 6,.q 7,.q 8,.l 9,.q 10,.q 11,.q 12,.q 13,.q 14] (by kernel_rfl) ?_|refine Ok.cond ?_);conv=>whnf)|refine Ok.block ?_|((first|refine Ok.skip ?_|refine Ok.ret ?_);conv=>whnf)|(refine Or.inl ?_;(conv=>whnf);(repeat (refine aI ?_;conv=>whnf));refine⟨_,num_at er,rfl,?_⟩;conv=>whnf)|(refine Or.inr (Or.inl ?_);(conv=>whnf);(repeat (refine aI ?_;conv=>whnf));refine⟨_,hpi , ?_⟩;rintro _ _ ⟨rfl,rfl⟩<;>(conv=>whnf))|(refine Or.inr (Or.inl ?_);(conv=>whnf);(repeat (refine aI ?_;conv=>whnf));refine⟨_,hx2 , ?_⟩;rintro _ _ ⟨rfl,rm3,rfl⟩<;>(conv=>whnf))|(refine Or.inr (Or.inr (Or.inl ?_));(conv=>whnf);(repeat (refine aI ?_;conv=>whnf));refine⟨_,hx1 , ?_⟩;rintro _ _ ⟨rfl,rfl⟩<;>(refine And.intro (by simp[gRowsP,grounds,D.ground,crow,srow,trow,drow,prow,qrow,strow]) ?_;conv=>whnf))|(refine rd rfl (by assumption) ?_;conv=>whnf)|(refine bI ?_ ?_<;>intro<;>(conv=>whnf)<;>(try (exfalso;omega)))|(refine aJ ?_;conv=>whnf)|fail)
           . exact absurd trivial (by assumption)
           refine Ok.loopU [6,8,188,191,193] [10] 3 3 (fun (x:Nat × List Str)=>[.i .i64 (x.1:Nat)]) (fun _ b=>b) (fun (x:Nat × List Str) (_:Vx.Rows)=>[some (24,bs.map prow),some (27,bs.map qrow),some (46,x.2.map crow)]) (fun (x:Nat × List Str)=>x.1<=m.length/\x.2.length=m.length) (fun (x:Nat × List Str)=>m.length - x.1) ((0,m)) (⟨Nat.zero_le _,rfl⟩) ?_;(conv=>whnf);refine⟨by ((conv=>whnf);first|rfl|(simp[envCat,List.take_of_length_le,crow,srow,trow,drow,prow,qrow,strow];done)|(simp[envCat,List.take_of_length_le,crow,srow,trow,drow,prow,qrow,strow];rw[IntKind.wrap_i64];omega)),?_⟩
           rintro⟨q,l⟩ ⟨hq,hl⟩
           dsimp only at hq hl ⊢
           have hlm:(l.map crow).length=m.length:=by simp[hl]
           (conv=>whnf)
           by_cases hqm:q<m.length
           . obtain⟨y,hy⟩:∃ y,l[q]? = some y:=⟨_,List.getElem?_eq_getElem (by omega)⟩
             have hyI:l[((q:Nat):Int).toNat]? = some y:=hy
             have t1:0<=((q:Nat):Int).tmod 9:=Int.tmod_nonneg _ (by omega)
             have t2:((q:Nat):Int).tmod 9<9:=Int.tmod_lt_of_pos _ (by omega)
             (try (conv=>whnf));repeat' (first|refine Ok.seq ?_|((first|refine Ok.region tok ?_|refine Ok.cond ?_);conv=>whnf)|refine Ok.block ?_|((first|refine Ok.skip ?_|refine nI ?_);conv=>whnf)|(refine Or.inr (Or.inl ?_);(conv=>whnf);(repeat (refine aI ?_;conv=>whnf));refine⟨_,all_at (1+((q:Nat):Int).tmod 9) , ?_⟩;rintro _ _ ⟨rfl,rfl⟩<;>(conv=>whnf))|(refine bI ?_ ?_<;>intro<;>(conv=>whnf)<;>(try (exfalso;omega)))|((first|refine aJ ?_|refine num_any ?_);conv=>whnf)|fail)
             all_goals first
              | (exfalso;omega)
              | skip
             refine Go.Vx.st (allC (1+((q:Nat):Int).tmod 9)) hyI (by simp) (by simp[setCells]) ?_
             (try (conv=>whnf));repeat' (first|((first|refine Ok.region tok ?_|refine nI ?_);conv=>whnf)|fail)
             refine⟨(q+1,l.set q (allC (1+((q:Nat):Int).tmod 9))),by dsimp only;omega,⟨by dsimp only;omega,by simp[hl]⟩,?_⟩
             (conv=>whnf)
             rfl
           . have hqe:q=m.length:=by omega
             subst hqe
             (try (conv=>whnf));repeat' (first|refine Ok.seq ?_|((first|refine Ok.region tok ?_|refine Ok.cond ?_|refine Ok.exit ?_|refine Ok.ret ?_|refine nI ?_);conv=>whnf)|(refine Or.inr (Or.inl ?_);(conv=>whnf);(repeat (refine aI ?_;conv=>whnf));refine⟨_,all_at 10 , ?_⟩;rintro _ _ ⟨rfl,rfl⟩<;>(conv=>whnf))|(refine Or.inr (Or.inl ?_);(conv=>whnf);(repeat (refine aI ?_;conv=>whnf));refine⟨_,all_at 11 , ?_⟩;rintro _ _ ⟨rfl,rfl⟩<;>(conv=>whnf))|((first|refine Alt2.l (aI ?_)|refine⟨_,.inl ⟨rfl,rfl⟩,?_⟩|refine⟨_,_,rfl,rfl,?_⟩);conv=>whnf)|(refine bI ?_ ?_<;>intro<;>(conv=>whnf)<;>(try (exfalso;omega)))|(refine aJ ?_;conv=>whnf)|fail)
             all_goals first
              | (exfalso;omega)
              | skip
             have hfin:(((l.map crow++[crow (allC 10)]++[crow (allC 11)]).length:Nat):Int)=(((m.map srow).length:Nat):Int)+2:=by
              simp only[List.length_append,List.length_map,List.length_cons,List.length_nil,hl]
              omega
             refine⟨(.b ((((l.map crow++[crow (allC 10)]++[crow (allC 11)]).length:Nat):Int)=(((m.map srow).length:Nat):Int)+2),m,rm3),⟨rfl,.inr ⟨_,hfin,rfl⟩,hel,fun c hc=>(hea c hc).1⟩,?_⟩
             (conv=>whnf)
             rfl
         . rintro e ⟨d,ls2,lrm2⟩ ⟨rfl,htru,hls2,hlc2⟩
           dsimp only at htru hls2 hlc2 ⊢
           rcases htru with rfl|⟨p,hp,rfl⟩
           . (conv=>whnf)
             (try (conv=>whnf));repeat' (first|(refine Ok.ret ?_;conv=>whnf)|fail)
             refine⟨(.tt,bs,ls2,lrm2),⟨rfl,.inl rfl,hb8,hbo,hls2,hlc2⟩,?_⟩
             (conv=>whnf)
             rfl
           . (conv=>whnf)
             (try (conv=>whnf));repeat' (first|(refine Ok.ret ?_;conv=>whnf)|fail)
             refine⟨(.b p,bs,ls2,lrm2),⟨rfl,.inr ⟨p,hp,rfl⟩,hb8,hbo,hls2,hlc2⟩,?_⟩
             (conv=>whnf)
             rfl
       (try (conv=>whnf));repeat' (first|refine Ok.seq ?_|((first|refine Ok.region tok ?_|refine Ok.region_draw tok follows (by kernel_rfl) ?_|refine Ok.cond ?_);conv=>whnf)|refine Ok.block ?_|((first|refine Ok.skip ?_|refine Ok.ret ?_|refine⟨_,like_at hao.f a.ks a.kd a.km a.kdm hao.a hao.b,rfl,?_⟩|refine⟨_,hasS_at hao.f a.ks a.km hao.a st.text,rfl,?_⟩|refine⟨_,rhas_at hao.f a.kd a.kdm hao.b st.text,rfl,?_⟩);conv=>whnf)|(refine Or.inr (Or.inl ?_);(conv=>whnf);(repeat (refine aI ?_;conv=>whnf));refine⟨_,hpi , ?_⟩;rintro _ _ ⟨rfl,rfl⟩<;>(conv=>whnf))|(refine rd rfl (by assumption) ?_;conv=>whnf)|(refine bI ?_ ?_<;>intro<;>(conv=>whnf)<;>(try (exfalso;omega)))|(refine aJ ?_;conv=>whnf)|fail)
       all_goals first
        | (exfalso;omega)
        | (refine⟨(.tt,bs,ls,lrm),⟨rfl,.inl rfl,hb8,hbo,hls,hlc⟩,?_⟩
           (conv=>whnf)
           rfl)
        | (refine⟨(.b _,bs,ls,lrm),⟨rfl,.inr ⟨_,trivial,rfl⟩,hb8,hbo,hls,hlc⟩,?_⟩
           (conv=>whnf)
           rfl)
        | (refine⟨(.b (hasS a.ts st.text ↔ hasS a.ts st.text),bs,ls,lrm),⟨rfl,.inr ⟨_,Iff.rfl,rfl⟩,hb8,hbo,hls,hlc⟩,?_⟩
           (conv=>whnf)
           rfl)
   . rintro e ⟨d,bs2,ls2,lrm2⟩ ⟨rfl,htru,hb82,hbo3,hls2,hlc2⟩
     dsimp only at htru hb82 hbo3 hls2 hlc2 ⊢
     rcases htru with rfl|⟨p,hp,rfl⟩
     . (conv=>whnf)
       (try (conv=>whnf));repeat' (first|refine Ok.seq ?_|((first|refine Ok.region tok ?_|refine Ok.cond ?_|refine Ok.skip ?_|refine nI ?_);conv=>whnf)|fail)
       all_goals first
        | (exfalso;omega)
        | (refine⟨(i+1,bs2,ls2,lrm2),by dsimp only;omega,⟨by dsimp only;omega,hb82,hbo3,hls2,hlc2⟩,?_⟩
           (conv=>whnf)
           rfl)
     . (conv=>whnf)
       (try (conv=>whnf));repeat' (first|refine Ok.seq ?_|((first|refine Ok.region tok ?_|refine Ok.cond ?_|refine Ok.skip ?_|refine Ok.ret ?_|refine nI ?_);conv=>whnf)|(refine bI ?_ ?_<;>intro<;>(conv=>whnf)<;>(try (exfalso;omega)))|fail)
       all_goals first
        | (exfalso;omega)
        | (exfalso;exact absurd hp (by assumption))
        | (refine⟨(i+1,bs2,ls2,lrm2),by dsimp only;omega,⟨by dsimp only;omega,hb82,hbo3,hls2,hlc2⟩,?_⟩
           (conv=>whnf)
           rfl)
 (try (conv=>whnf));repeat' (first|refine Ok.seq ?_|((first|refine Ok.region tok ?_|refine Ok.cond ?_);conv=>whnf)|refine Ok.block ?_|(refine Ok.exit ?_;conv=>whnf)|(refine bI ?_ ?_<;>intro<;>(conv=>whnf)<;>(try (exfalso;omega)))|fail)
 all_goals first
  | (exfalso;omega)
  | skip
 all_goals
  refine Ok.loopU [3] [7] 2 1 (fun (j:Nat)=>[.i .i64 (j:Nat)]) (fun _ b=>b) (fun _ r=>r) (fun (j:Nat)=>j<=8) (fun (j:Nat)=>8 - j) (0) (Nat.zero_le _) ?_;(conv=>whnf);refine⟨by ((conv=>whnf);first|rfl|(simp[envCat,List.take_of_length_le,crow,srow,trow,drow,prow,qrow,strow];done)|(simp[envCat,List.take_of_length_le,crow,srow,trow,drow,prow,qrow,strow];rw[IntKind.wrap_i64];omega)),?_⟩
  intro j hj
  (conv=>whnf)
  by_cases hjl:j<8
  . obtain⟨p,hp⟩:∃ p,bs[j]? = some p:=⟨_,List.getElem?_eq_getElem (by omega)⟩
    have hpI:bs[((j:Nat):Int).toNat]? = some p:=hp
    have hpo:=hbo p (List.mem_of_getElem? hp)
    (try (conv=>whnf));repeat' (first|refine Ok.seq ?_|((first|refine Ok.region tok ?_|refine Ok.region_draw tok follows (by kernel_rfl) ?_|refine Ok.cond ?_);conv=>whnf)|refine Ok.block ?_|((first|refine Ok.skip ?_|refine Ok.ret ?_|refine nI ?_|refine⟨_,like_at hpo.f p.ks p.kd p.km p.kdm hpo.a hpo.b,rfl,?_⟩|refine rd rfl (by assumption) ?_);conv=>whnf)|(refine bI ?_ ?_<;>intro<;>(conv=>whnf)<;>(try (exfalso;omega)))|(refine aJ ?_;conv=>whnf)|fail)
    all_goals first
     | (exfalso;omega)
     | (exact absurd trivial (by assumption))
     | (refine⟨j+1,by omega,by omega,?_⟩
        (conv=>whnf)
        rfl)
  . (try (conv=>whnf));repeat' (first|refine Ok.seq ?_|((first|refine Ok.region tok ?_|refine Ok.cond ?_|refine Ok.exit ?_|refine Ok.ret ?_);conv=>whnf)|(refine bI ?_ ?_<;>intro<;>(conv=>whnf)<;>(try (exfalso;omega)))|fail)
    all_goals first
     | (exfalso;omega)
     | (refine Or.inl ?_;(conv=>whnf)
        rfl)
end Go.Proofs.YtaiondckookpiaaGreatDoor
namespace Go.Proofs.YtaiondckookpiaaGreatDoor
open Go Go.Vx
theorem i64_of{n:Int}(h:(Lit.int .i64 n).wf=true):I64 n:=by
 simp only[Lit.wf,Bool.and_eq_true,decide_eq_true_eq] at h
 exact⟨h.1,h.2⟩
theorem stp_of{B:Nat}(r:List D)(h:TySs B [.int .i64,.int .i64,.int .i64,.int .i64,.int .i64,.str,.int .i64] r):∃ x:Stp,r=strow x/\x.Ok:=by
 obtain⟨_,_,rfl,h1,h⟩:=ss_cons h
 obtain⟨_,_,rfl,h2,h⟩:=ss_cons h
 obtain⟨_,_,rfl,h3,h⟩:=ss_cons h
 obtain⟨_,_,rfl,h4,h⟩:=ss_cons h
 obtain⟨_,_,rfl,h5,h⟩:=ss_cons h
 obtain⟨_,_,rfl,h6,h⟩:=ss_cons h
 obtain⟨_,_,rfl,h7,h⟩:=ss_cons h
 obtain rfl:=ss_nil h
 obtain⟨a,rfl,_⟩:=int_of h1
 obtain⟨b,rfl,w2⟩:=int_of h2
 obtain⟨c,rfl,w3⟩:=int_of h3
 obtain⟨d,rfl,w4⟩:=int_of h4
 obtain⟨e,rfl,_⟩:=int_of h5
 obtain⟨t,rfl,_⟩:=str_of h6
 obtain⟨n,rfl,_⟩:=int_of h7
 exact⟨⟨a,b,c,d,e,t,n⟩,rfl,⟨i64_of w2,i64_of w3,i64_of w4⟩⟩
theorem spacePlays_ats:∃ ls,shapes T 9 [89]=some ls/\∀ xs,TyAs T maxLen [89] ls xs->FSpec Tryz.prog T 15 xs (fun d _=>d = .b True):=by
 refine⟨_,rfl,fun xs h=>?_⟩
 obtain⟨_,_,rfl,h0,h⟩:=as_cons h
 obtain rfl:=as_nil h
 obtain⟨l,rm,rfl,_,hl,_⟩:=lst_of (leaf h0 rfl) stp_of
 exact plays_at l _ hl
end Go.Proofs.YtaiondckookpiaaGreatDoor
