/- The walks and the plain laws that a law of networks needs, part 6 of 6. -/
import Derived.Test.YtcglkonooeddfaaGreatDoorQGE
import Derived.Test.YtcglkonooeddfaaGreatDoorRows
import Derived.ProofKit
import Derived.OpenShut
import Derived.LaidMore
import Derived.Lay
import Derived.Lib.LaidTab
set_option linter.unusedVariables false
set_option linter.unusedSimpArgs false
namespace Go.Proofs.YtcglkonooeddfaaGreatDoor
open Go Go.Vx
set_option maxRecDepth 100000 in
set_option maxHeartbeats 16000000 in
theorem way5b{c:Config}(h:Mar c){i:Nat}{y:Box}(hy:c.boxes.l[i]? = some y){da:Int}(hda:-9223372036854775808<=da/\da<=9223372036854775807)(hi:marIx da c.boxes.l.length=i)(ho:y.rules.l ≠ []) :
    Ok Tryz.prog T (sndN 2 marC) marQ ⟨[(1,.i .i64 5),(2,.i .i64 da),(3,.bp 0 0)],[c.row],[],Tryz.f12.ntmps⟩:=by
 have hil:=(List.getElem?_eq_some_iff.1 hy).1
 have hyb:c.b.boxes[i]? = some y.b:=by show (c.boxes.l.map Box.b)[i]? = _;rw[List.getElem?_map,hy];rfl
 have hyo:=boxC_ok (h.ok.box y (List.mem_of_getElem? hy))
 have hyx:=boxC_tx (h.tx.boxes y (List.mem_of_getElem? hy))
 have hyr:(c.boxes.l.map fun x=>(boxC x).row)[i]? = some (rawB y (.lst 9 (y.outs.l.map srow) []) (.lst 112 (y.guards.l.map fun g=>(lineC g).row) []) (.lst 115 (y.rules.l.map fun r=>(ruleC r).row) [])):=by
  rw[List.getElem?_map,hy]
  simp[boxC,Box.row,rawB,Function.comp_def]
 have hbl:(c.boxes.l.map fun x=>(boxC x).row).length=c.boxes.l.length:=by simp
 have hll:(c.links.l.map Link.row).length=c.links.l.length:=by simp
 have hfl:(c.fields.l.map SI.row).length=c.fields.l.length:=by simp
 have hL:=h.ok.links
 have hp0:y.rules.l.length ≠ 0:=fun q=>ho (List.eq_nil_of_length_eq_zero q)
 have e3:(boxC y).row=rawB y (.lst 9 (y.outs.l.map srow) []) (.lst 112 (y.guards.l.map fun g=>(lineC g).row) []) (.lst 115 (y.rules.l.map fun r=>(ruleC r).row) []):=by simp[boxC,Box.row,rawB,Function.comp_def]
 refine mar_copyR c h.ok hy (fun d t hr=>?_)
 have q0:=hr
 rcases hr with hr|⟨g,cp,hr⟩
 . exact absurd (List.map_eq_nil_iff.1 hr) ho
 . unfold marC marQ
   (try (conv=>whnf));repeat' (first|refine Ok.seq ?_|(refine Ok.region tok ?_;conv=>whnf)|fail)
   refine Or.inr (Or.inr (Or.inl ?_));(conv=>whnf);refine⟨_,_,Tryz.func43,rfl,Tryz.call43,?_⟩;(conv=>whnf)
   refine Ok.keep [0,1,2,213,217,712] 8 5 ?_
   (conv=>whnf)
   refine mar_preR c h.ok (by omega) hda hi q0 ?_
   unfold marF
   have hyd:((c.boxes.l.map fun x=>(boxC x).row).set i (rawB y (.lst 9 (y.outs.l.map srow) []) (.lst 112 (y.guards.l.map fun g=>(lineC g).row) []) (.rsl g y.rules.l.length cp)))[i]? = some (rawB y (.lst 9 (y.outs.l.map srow) []) (.lst 112 (y.guards.l.map fun g=>(lineC g).row) []) (.rsl g y.rules.l.length cp)):=List.getElem?_set_self (by omega)
   have hy2:∀ d',(((c.boxes.l.map fun x=>(boxC x).row).set i (rawB y (.lst 9 (y.outs.l.map srow) []) (.lst 112 (y.guards.l.map fun g=>(lineC g).row) []) (.rsl g y.rules.l.length cp))).set i (setCells (rawB y (.lst 9 (y.outs.l.map srow) []) (.lst 112 (y.guards.l.map fun g=>(lineC g).row) []) (.rsl g y.rules.l.length cp)) (0+4) [d']))[i]? = some (setCells (rawB y (.lst 9 (y.outs.l.map srow) []) (.lst 112 (y.guards.l.map fun g=>(lineC g).row) []) (.rsl g y.rules.l.length cp)) (0+4) [d']):=fun _=>List.getElem?_set_self (by simp;omega)
   (try (conv=>whnf));repeat' (first|(refine Ok.pubL (c:=sndN 4 (Tryz.f12.body.getD .ret)) 502 7 1 i 4 q0 rfl rfl rfl (by decide) (List.getElem?_set_self (by simp;omega)) rfl ?_;(conv=>whnf);refine Ok.pub 0 ?_;(conv=>whnf);refine Ok.pub 1 ?_;(conv=>whnf);refine Ok.pub 2 ?_;(conv=>whnf);refine Ok.pub 3 ?_;(conv=>whnf);refine Ok.keep [3,7,8,9] 0 5 ?_;(conv=>whnf);(try rw[List.set_set]);(try rw[List.set_set]);exact tailD h (boxC y) hyo hyx e3 0 [] (fun q=>absurd rfl q))|refine Ok.seq ?_|((first|refine Ok.region tok ?_|refine Ok.cond ?_);conv=>whnf)|refine Ok.block ?_|((first|refine Ok.ret ?_|refine⟨_,by assumption,?_⟩);conv=>whnf)|(refine bI ?_ ?_<;>intro<;>(conv=>whnf)<;>(try (exfalso;omega)))|(refine aJ ?_;conv=>whnf)|fail)
   all_goals first
    | (exfalso;omega)
set_option maxRecDepth 100000 in
set_option maxHeartbeats 16000000 in
theorem way5c{c:Config}(h:Mar c){i:Nat}{y:Box}(hy:c.boxes.l[i]? = some y){da:Int}(hda:-9223372036854775808<=da/\da<=9223372036854775807)(hi:marIx da c.boxes.l.length=i){o:Str}(ho:y.outs.l[0]? = some o)(hr0:y.rules.l=[]) :
    Ok Tryz.prog T (sndN 2 marC) marQ ⟨[(1,.i .i64 5),(2,.i .i64 da),(3,.bp 0 0)],[c.row],[],Tryz.f12.ntmps⟩:=by
 have hil:=(List.getElem?_eq_some_iff.1 hy).1
 have hyb:c.b.boxes[i]? = some y.b:=by show (c.boxes.l.map Box.b)[i]? = _;rw[List.getElem?_map,hy];rfl
 have hyo:=boxC_ok (h.ok.box y (List.mem_of_getElem? hy))
 have hyx:=boxC_tx (h.tx.boxes y (List.mem_of_getElem? hy))
 have hyr:(c.boxes.l.map fun x=>(boxC x).row)[i]? = some (rawB y (.lst 9 (y.outs.l.map srow) []) (.lst 112 (y.guards.l.map fun g=>(lineC g).row) []) (.lst 115 (y.rules.l.map fun r=>(ruleC r).row) [])):=by
  rw[List.getElem?_map,hy]
  simp[boxC,Box.row,rawB,Function.comp_def]
 have hbl:(c.boxes.l.map fun x=>(boxC x).row).length=c.boxes.l.length:=by simp
 have hll:(c.links.l.map Link.row).length=c.links.l.length:=by simp
 have hfl:(c.fields.l.map SI.row).length=c.fields.l.length:=by simp
 have hL:=h.ok.links
 have hol:0<y.outs.l.length:=(List.getElem?_eq_some_iff.1 ho).1
 have hom:(y.outs.l.map srow).length=y.outs.l.length:=by simp
 have hrl:y.rules.l.length=0:=by rw[hr0];rfl
 have hor:(y.outs.l.map srow)[0]? = some [.s o]:=by rw[List.getElem?_map,ho];rfl
 have hox:=hyx.outs o (List.mem_of_getElem? ho)
 have hnm:y.name.length<=1048576:=hyx.name
 have hrn:=(lens_few h hyb).1
 have e1:({ boxC y with rules:=⟨y.rules.l.map ruleC++[(⟨7,⟨[o],[]⟩,⟨[n1],[]⟩,⟨[],[]⟩,⟨[],[]⟩⟩:Rule)],[]⟩ }:Box).Ok:=⟨hyo.ins,hyo.outs,hyo.guards,by simp;omega,hyo.owns,hyo.routes,hyo.line,fun x hx=>by rcases List.mem_append.1 hx with hx|hx;exact hyo.rule x hx;simp at hx;subst hx;exact⟨by simp,by simp,by simp,by simp⟩⟩
 have e2:({ boxC y with rules:=⟨y.rules.l.map ruleC++[(⟨7,⟨[o],[]⟩,⟨[n1],[]⟩,⟨[],[]⟩,⟨[],[]⟩⟩:Rule)],[]⟩ }:Box).Tx:=⟨hyx.name,hyx.ins,hyx.outs,hyx.guards,fun x hx=>by rcases List.mem_append.1 hx with hx|hx;exact hyx.rules x hx;simp at hx;subst hx;exact⟨by show IOk 7;unfold IOk;omega,fun p hp=>by simp at hp;subst hp;exact hox,fun n hn=>by simp at hn;subst hn;exact n1_tx,by simp,by simp⟩,hyx.owns,hyx.routes⟩
 have e3:({ boxC y with rules:=⟨y.rules.l.map ruleC++[(⟨7,⟨[o],[]⟩,⟨[n1],[]⟩,⟨[],[]⟩,⟨[],[]⟩⟩:Rule)],[]⟩ }:Box).row=rawB y (.lst 9 (y.outs.l.map srow) []) (.lst 112 (y.guards.l.map fun g=>(lineC g).row) []) (.lst 115 ((y.rules.l++[(⟨7,⟨[o],[]⟩,⟨[n1],[]⟩,⟨[],[]⟩,⟨[],[]⟩⟩:Rule)]).map fun r=>(ruleC r).row) []):=by simp[boxC,Box.row,rawB,ruleC,Rule.row,Function.comp_def]
 have e4:(74:Int) ≠ 0->Few c.b->checkO (putB c.b i ({ boxC y with rules:=⟨y.rules.l.map ruleC++[(⟨7,⟨[o],[]⟩,⟨[n1],[]⟩,⟨[],[]⟩,⟨[],[]⟩⟩:Rule)],[]⟩ }:Box).b)=(74,y.name++[32,114,117,108,101,32,55]):=fun _ f=>by rw[bC_rules];exact (by have q:=mar5 (m:=[n1]) h.z hyb ho (show y.rules.l.map Rule.b=[] by rw[hr0];rfl) f.2.2.1;rw[itoa_7,List.append_assoc] at q;exact q)
 refine mar_copyR c h.ok hy (fun d t hr=>?_)
 have q0:=hr
 rcases hr with hr|⟨g,cp,hr⟩
 . unfold marC marQ
   (try (conv=>whnf));repeat' (first|refine Ok.seq ?_|(refine Ok.region tok ?_;conv=>whnf)|fail)
   refine Or.inr (Or.inr (Or.inl ?_));(conv=>whnf);refine⟨_,_,Tryz.func43,rfl,Tryz.call43,?_⟩;(conv=>whnf)
   refine Ok.keep [0,1,2,213,217,712] 8 5 ?_
   (conv=>whnf)
   refine mar_preR c h.ok (by omega) hda hi q0 ?_
   unfold marF
   have hn0:y.rules.l=[]:=List.map_eq_nil_iff.1 hr
   have hyd:((c.boxes.l.map fun x=>(boxC x).row).set i (rawB y (.lst 9 (y.outs.l.map srow) []) (.lst 112 (y.guards.l.map fun g=>(lineC g).row) []) .rnl))[i]? = some (rawB y (.lst 9 (y.outs.l.map srow) []) (.lst 112 (y.guards.l.map fun g=>(lineC g).row) []) .rnl):=List.getElem?_set_self (by omega)
   have hy2:∀ d',(((c.boxes.l.map fun x=>(boxC x).row).set i (rawB y (.lst 9 (y.outs.l.map srow) []) (.lst 112 (y.guards.l.map fun g=>(lineC g).row) []) .rnl)).set i (setCells (rawB y (.lst 9 (y.outs.l.map srow) []) (.lst 112 (y.guards.l.map fun g=>(lineC g).row) []) .rnl) (0+4) [d']))[i]? = some (setCells (rawB y (.lst 9 (y.outs.l.map srow) []) (.lst 112 (y.guards.l.map fun g=>(lineC g).row) []) .rnl) (0+4) [d']):=fun _=>List.getElem?_set_self (by simp;omega)
   (try (conv=>whnf));repeat' (first|(refine⟨712,?_⟩;(conv=>whnf);refine⟨by simp,_,.inl ⟨rfl,rfl⟩,?_⟩;(conv=>whnf);refine⟨by simp,by simp,(y.rules.l++[(⟨7,⟨[o],[]⟩,⟨[n1],[]⟩,⟨[],[]⟩,⟨[],[]⟩⟩:Rule)]).map (fun r=>(ruleC r).row),y.rules.l.length+1,(by rw[hn0];rfl),by simp,fun g' c' hc'=>?_⟩;(conv=>whnf))|(refine⟨_,hy2 _,?_⟩;conv=>whnf)|(refine Ok.pubL (c:=sndN 4 (Tryz.f12.body.getD .ret)) 502 _ 1 i 4 (.raw _ _ (by simp)) rfl rfl rfl (by decide) (List.getElem?_set_self (by simp;omega)) rfl ?_;(conv=>whnf);refine Ok.pub 0 ?_;(conv=>whnf);refine Ok.pub 1 ?_;(conv=>whnf);refine Ok.pub 2 ?_;(conv=>whnf);refine Ok.pub 3 ?_;(conv=>whnf);refine Ok.keep [3,7,8,9] 0 5 ?_;(conv=>whnf);(try rw[List.set_set]);(try rw[List.set_set]);exact tailD h _ e1 e2 e3 74 (y.name++[32,114,117,108,101,32,55]) e4)|refine Ok.seq ?_|((first|refine Ok.region tok ?_|refine Ok.region_tree (id:=32) tok follows [(8,11,[10,9]),(10,11,[]),(8,14,[13,11,10,9]),(10,14,[13,11]),(11,14,[13]),(12,14,[13]),(1,15,[4,3,2]),(2,15,[4,3]),(3,15,[4]),(4,15,[]),(5,15,[14,13,11,10,9,8,7,6]),(6,15,[14,13,11,10,9,8,7]),(7,15,[14,13,11,10,9,8]),(8,15,[14,13,11,10,9]),(9,15,[14,13,11,10]),(10,15,[14,13,11]),(11,15,[14,13]),(12,15,[]),(13,15,[14]),(14,15,[]),(4,18,[]),(8,18,[]),(10,18,[]),(11,18,[]),(12,18,[]),(14,18,[]),(15,18,[])] (.q 1 (.q 2 (.q 3 (.q 4 (.q 5 (.q 6 (.q 7 (.q 8 (.q 9 (.q 10 (.alt 0 (.alt 11 (.l 12 (.q 13 (.l 14 (.l 15 (.q 16 (.q 17 (.l 18 .nil))))))) (.alt 12 (.l 11 (.q 13 (.l 14 (.l 15 (.q 16 (.q 17 (.l 18 .nil))))))) .nil)) (.alt 11 (.alt 0 (.l 12 (.q 13 (.l 14 (.l 15 (.q 16 (.q 17 (.l 18 .nil))))))) (.alt 12 (.q 13 (.alt 0 (.l 14 (.l 15 (.q 16 (.q 17 (.l 18 .nil))))) (.alt 14 (.alt 0 (.l 15 (.q 16 (.q 17 (.l 18 .nil)))) (.alt 15 (.q 0 (.q 16 (.q 17 (.l 18 .nil)))) .nil)) .nil))) .nil)) (.alt 12 (.alt 0 (.l 11 (.q 13 (.l 14 (.l 15 (.q 16 (.q 17 (.l 18 .nil))))))) (.alt 11 (.q 13 (.alt 0 (.l 14 (.l 15 (.q 16 (.q 17 (.l 18 .nil))))) (.alt 14 (.alt 0 (.l 15 (.q 16 (.q 17 (.l 18 .nil)))) (.alt 15 (.q 0 (.q 16 (.q 17 (.l 18 .nil)))) .nil)) .nil))) .nil)) .nil))))))))))))) (by kernel_rfl) ?_|refine Ok.region_draw tok follows (by kernel_rfl) ?_|refine Ok.cond ?_);conv=>whnf)|refine Ok.block ?_|((first|refine Ok.skip ?_|refine Ok.ret ?_|refine ix _ (by assumption) ?_|refine⟨_,by assumption,?_⟩);conv=>whnf)|(refine Or.inr (Or.inl ?_);(conv=>whnf);(repeat (refine aI ?_;conv=>whnf));refine⟨_,any1_at , ?_⟩;rintro _ _ ⟨rfl,rfl⟩<;>(conv=>whnf))|(refine bI ?_ ?_<;>intro<;>(conv=>whnf)<;>(try (exfalso;omega)))|((first|refine aJ ?_|refine⟨_,rfl,?_⟩);conv=>whnf)|(exact True.intro)|(refine And.intro ?_ ?_<;>(conv=>whnf))|fail)
   all_goals first
    | (exfalso;omega)
 . unfold marC marQ
   (try (conv=>whnf));repeat' (first|refine Ok.seq ?_|(refine Ok.region tok ?_;conv=>whnf)|fail)
   refine Or.inr (Or.inr (Or.inl ?_));(conv=>whnf);refine⟨_,_,Tryz.func43,rfl,Tryz.call43,?_⟩;(conv=>whnf)
   refine Ok.keep [0,1,2,213,217,712] 8 5 ?_
   (conv=>whnf)
   refine mar_preR c h.ok (by omega) hda hi q0 ?_
   unfold marF
   have hyd:((c.boxes.l.map fun x=>(boxC x).row).set i (rawB y (.lst 9 (y.outs.l.map srow) []) (.lst 112 (y.guards.l.map fun g=>(lineC g).row) []) (.rsl g y.rules.l.length cp)))[i]? = some (rawB y (.lst 9 (y.outs.l.map srow) []) (.lst 112 (y.guards.l.map fun g=>(lineC g).row) []) (.rsl g y.rules.l.length cp)):=List.getElem?_set_self (by omega)
   have hy2:∀ d',(((c.boxes.l.map fun x=>(boxC x).row).set i (rawB y (.lst 9 (y.outs.l.map srow) []) (.lst 112 (y.guards.l.map fun g=>(lineC g).row) []) (.rsl g y.rules.l.length cp))).set i (setCells (rawB y (.lst 9 (y.outs.l.map srow) []) (.lst 112 (y.guards.l.map fun g=>(lineC g).row) []) (.rsl g y.rules.l.length cp)) (0+4) [d']))[i]? = some (setCells (rawB y (.lst 9 (y.outs.l.map srow) []) (.lst 112 (y.guards.l.map fun g=>(lineC g).row) []) (.rsl g y.rules.l.length cp)) (0+4) [d']):=fun _=>List.getElem?_set_self (by simp;omega)
   (try (conv=>whnf));repeat' (first|((first|refine⟨712,712,7,rfl,?_⟩|refine⟨(y.rules.l++[(⟨7,⟨[o],[]⟩,⟨[n1],[]⟩,⟨[],[]⟩,⟨[],[]⟩⟩:Rule)]).map (fun r=>(ruleC r).row),y.rules.l.length+1,by simp[ruleC,Rule.row,nobody],by simp,?_⟩);conv=>whnf)|(refine⟨fun _=>?_,fun _=>⟨7,by (conv=>whnf);exact True.intro,fun g' c' hc'=>?_⟩⟩<;>(conv=>whnf))|(refine⟨_,hy2 _,?_⟩;conv=>whnf)|(refine Ok.pubL (c:=sndN 4 (Tryz.f12.body.getD .ret)) 502 _ 1 i 4 (.raw _ _ (by simp)) rfl rfl rfl (by decide) (List.getElem?_set_self (by simp;omega)) rfl ?_;(conv=>whnf);refine Ok.pub 0 ?_;(conv=>whnf);refine Ok.pub 1 ?_;(conv=>whnf);refine Ok.pub 2 ?_;(conv=>whnf);refine Ok.pub 3 ?_;(conv=>whnf);refine Ok.keep [3,7,8,9] 0 5 ?_;(conv=>whnf);(try rw[List.set_set]);(try rw[List.set_set]);exact tailD h _ e1 e2 e3 74 (y.name++[32,114,117,108,101,32,55]) e4)|refine Ok.seq ?_|((first|refine Ok.region tok ?_|refine Ok.region_tree (id:=32) tok follows [(8,11,[10,9]),(10,11,[]),(8,14,[13,11,10,9]),(10,14,[13,11]),(11,14,[13]),(12,14,[13]),(1,15,[4,3,2]),(2,15,[4,3]),(3,15,[4]),(4,15,[]),(5,15,[14,13,11,10,9,8,7,6]),(6,15,[14,13,11,10,9,8,7]),(7,15,[14,13,11,10,9,8]),(8,15,[14,13,11,10,9]),(9,15,[14,13,11,10]),(10,15,[14,13,11]),(11,15,[14,13]),(12,15,[]),(13,15,[14]),(14,15,[]),(4,18,[]),(8,18,[]),(10,18,[]),(11,18,[]),(12,18,[]),(14,18,[]),(15,18,[])] (.q 1 (.q 2 (.q 3 (.q 4 (.q 5 (.q 6 (.q 7 (.q 8 (.q 9 (.q 10 (.alt 0 (.alt 11 (.l 12 (.q 13 (.l 14 (.l 15 (.q 16 (.q 17 (.l 18 .nil))))))) (.alt 12 (.l 11 (.q 13 (.l 14 (.l 15 (.q 16 (.q 17 (.l 18 .nil))))))) .nil)) (.alt 11 (.alt 0 (.l 12 (.q 13 (.l 14 (.l 15 (.q 16 (.q 17 (.l 18 .nil))))))) (.alt 12 (.q 13 (.alt 0 (.l 14 (.l 15 (.q 16 (.q 17 (.l 18 .nil))))) (.alt 14 (.alt 0 (.l 15 (.q 16 (.q 17 (.l 18 .nil)))) (.alt 15 (.q 0 (.q 16 (.q 17 (.l 18 .nil)))) .nil)) .nil))) .nil)) (.alt 12 (.alt 0 (.l 11 (.q 13 (.l 14 (.l 15 (.q 16 (.q 17 (.l 18 .nil))))))) (.alt 11 (.q 13 (.alt 0 (.l 14 (.l 15 (.q 16 (.q 17 (.l 18 .nil))))) (.alt 14 (.alt 0 (.l 15 (.q 16 (.q 17 (.l 18 .nil)))) (.alt 15 (.q 0 (.q 16 (.q 17 (.l 18 .nil)))) .nil)) .nil))) .nil)) .nil))))))))))))) (by kernel_rfl) ?_|refine Ok.region_draw tok follows (by kernel_rfl) ?_|refine Ok.cond ?_);conv=>whnf)|refine Ok.block ?_|((first|refine Ok.skip ?_|refine Ok.ret ?_|refine ix _ (by assumption) ?_|refine⟨_,by assumption,?_⟩);conv=>whnf)|(refine Or.inr (Or.inl ?_);(conv=>whnf);(repeat (refine aI ?_;conv=>whnf));refine⟨_,any1_at , ?_⟩;rintro _ _ ⟨rfl,rfl⟩<;>(conv=>whnf))|(refine⟨_,.inl ⟨rfl,rfl⟩,?_⟩;conv=>whnf)|(refine bI ?_ ?_<;>intro<;>(conv=>whnf)<;>(try (exfalso;omega)))|((first|refine aJ ?_|refine⟨_,rfl,?_⟩);conv=>whnf)|(exact True.intro)|(refine And.intro ?_ ?_<;>(conv=>whnf))|fail)
   all_goals first
    | (exfalso;omega)
end Go.Proofs.YtcglkonooeddfaaGreatDoor
namespace Go.Proofs.YtcglkonooeddfaaGreatDoor
open Go Go.Vx
set_option maxRecDepth 100000 in
set_option maxHeartbeats 16000000 in
theorem way6{c:Config}(h:Mar c){i:Nat}{y:Box}(hy:c.boxes.l[i]? = some y){da:Int}(hda:-9223372036854775808<=da/\da<=9223372036854775807)(hi:marIx da c.boxes.l.length=i) :
    Ok Tryz.prog T (sndN 2 marC) marQ ⟨[(1,.i .i64 6),(2,.i .i64 da),(3,.bp 0 0)],[c.row],[],Tryz.f12.ntmps⟩:=by
 have hil:=(List.getElem?_eq_some_iff.1 hy).1
 have hyb:c.b.boxes[i]? = some y.b:=by show (c.boxes.l.map Box.b)[i]? = _;rw[List.getElem?_map,hy];rfl
 have hyo:=boxC_ok (h.ok.box y (List.mem_of_getElem? hy))
 have hyx:=boxC_tx (h.tx.boxes y (List.mem_of_getElem? hy))
 have hyr:(c.boxes.l.map fun x=>(boxC x).row)[i]? = some (rawB y (.lst 9 (y.outs.l.map srow) []) (.lst 112 (y.guards.l.map fun g=>(lineC g).row) []) (.lst 115 (y.rules.l.map fun r=>(ruleC r).row) [])):=by
  rw[List.getElem?_map,hy]
  simp[boxC,Box.row,rawB,Function.comp_def]
 have hbl:(c.boxes.l.map fun x=>(boxC x).row).length=c.boxes.l.length:=by simp
 have hll:(c.links.l.map Link.row).length=c.links.l.length:=by simp
 have hfl:(c.fields.l.map SI.row).length=c.fields.l.length:=by simp
 have hL:=h.ok.links
 have hnm:y.name.length<=1048576:=hyx.name
 have hrn:=(lens_few h hyb).2
 have e1:({ boxC y with guards:=⟨y.guards.l.map lineC++[(⟨[97,46,98],False,⟨[],[]⟩⟩:Line)],[]⟩ }:Box).Ok:=⟨hyo.ins,hyo.outs,by simp;omega,hyo.rules,hyo.owns,hyo.routes,fun x hx=>by rcases List.mem_append.1 hx with hx|hx;exact hyo.line x hx;simp at hx;subst hx;exact⟨by simp⟩,hyo.rule⟩
 have e2:({ boxC y with guards:=⟨y.guards.l.map lineC++[(⟨[97,46,98],False,⟨[],[]⟩⟩:Line)],[]⟩ }:Box).Tx:=⟨hyx.name,hyx.ins,hyx.outs,fun x hx=>by rcases List.mem_append.1 hx with hx|hx;exact hyx.guards x hx;simp at hx;subst hx;exact⟨sok_S (by simp),by simp⟩,hyx.rules,hyx.owns,hyx.routes⟩
 have e3:({ boxC y with guards:=⟨y.guards.l.map lineC++[(⟨[97,46,98],False,⟨[],[]⟩⟩:Line)],[]⟩ }:Box).row=rawB y (.lst 9 (y.outs.l.map srow) []) (.lst 112 ((y.guards.l++[(⟨[97,46,98],False,⟨[],[]⟩⟩:Line)]).map fun g=>(lineC g).row) []) (.lst 115 (y.rules.l.map fun r=>(ruleC r).row) []):=by simp[boxC,Box.row,rawB,lineC,Line.row,Function.comp_def]
 have e4:(73:Int) ≠ 0->Few c.b->checkO (putB c.b i ({ boxC y with guards:=⟨y.guards.l.map lineC++[(⟨[97,46,98],False,⟨[],[]⟩⟩:Line)],[]⟩ }:Box).b)=(73,y.name++[32,103,117,97,114,100,32,97,46,98]):=fun _ f=>by rw[bC_guards];have q:=mar6 (p:=[97,46,98]) (q:=False) (m:=[]) h.z hyb (nodot_port h hyb (by simp)) f.2.1;rw[List.append_assoc] at q;exact q
 refine mar_copyG c h.ok hy (fun d t hr=>?_)
 have q0:=hr
 rcases hr with hr|⟨g,cp,hr⟩
 . unfold marC marQ
   (try (conv=>whnf));repeat' (first|refine Ok.seq ?_|(refine Ok.region tok ?_;conv=>whnf)|fail)
   refine Or.inr (Or.inr (Or.inl ?_));(conv=>whnf);refine⟨_,_,Tryz.func43,rfl,Tryz.call43,?_⟩;(conv=>whnf)
   refine Ok.keep [0,1,2,213,217,711] 7 5 ?_
   (conv=>whnf)
   refine mar_preG c h.ok (by omega) hda hi q0 ?_
   unfold marF
   have hn0:y.guards.l=[]:=List.map_eq_nil_iff.1 hr
   have hyd:((c.boxes.l.map fun x=>(boxC x).row).set i (rawB y (.lst 9 (y.outs.l.map srow) []) .rnl (.lst 115 (y.rules.l.map fun r=>(ruleC r).row) [])))[i]? = some (rawB y (.lst 9 (y.outs.l.map srow) []) .rnl (.lst 115 (y.rules.l.map fun r=>(ruleC r).row) [])):=List.getElem?_set_self (by omega)
   have hy2:∀ d',(((c.boxes.l.map fun x=>(boxC x).row).set i (rawB y (.lst 9 (y.outs.l.map srow) []) .rnl (.lst 115 (y.rules.l.map fun r=>(ruleC r).row) []))).set i (setCells (rawB y (.lst 9 (y.outs.l.map srow) []) .rnl (.lst 115 (y.rules.l.map fun r=>(ruleC r).row) [])) (0+3) [d']))[i]? = some (setCells (rawB y (.lst 9 (y.outs.l.map srow) []) .rnl (.lst 115 (y.rules.l.map fun r=>(ruleC r).row) [])) (0+3) [d']):=fun _=>List.getElem?_set_self (by simp;omega)
   (try (conv=>whnf));repeat' (first|(refine⟨711,?_⟩;(conv=>whnf);refine⟨by simp,_,.inl ⟨rfl,rfl⟩,?_⟩;(conv=>whnf);refine⟨by simp,by simp,(y.guards.l++[(⟨[97,46,98],False,⟨[],[]⟩⟩:Line)]).map (fun g=>(lineC g).row),y.guards.l.length+1,(by rw[hn0];rfl),by simp,fun g' c' hc'=>?_⟩;(conv=>whnf))|(refine⟨_,hy2 _,?_⟩;conv=>whnf)|(refine Ok.pubL (c:=sndN 4 (Tryz.f12.body.getD .ret)) 501 _ 1 i 3 (.raw _ _ (by simp)) rfl rfl rfl (by decide) (List.getElem?_set_self (by simp;omega)) rfl ?_;(conv=>whnf);refine Ok.pub 0 ?_;(conv=>whnf);refine Ok.pub 1 ?_;(conv=>whnf);refine Ok.pub 2 ?_;(conv=>whnf);refine Ok.pub 3 ?_;(conv=>whnf);refine Ok.keep [3,7,8,9] 0 5 ?_;(conv=>whnf);(try rw[List.set_set]);(try rw[List.set_set]);exact tailD h _ e1 e2 e3 73 (y.name++[32,103,117,97,114,100,32,97,46,98]) e4)|refine Ok.seq ?_|((first|refine Ok.region tok ?_|refine Ok.region_draw tok follows (by kernel_rfl) ?_|refine Ok.cond ?_);conv=>whnf)|refine Ok.block ?_|((first|refine Ok.ret ?_|refine⟨_,by assumption,?_⟩);conv=>whnf)|(refine bI ?_ ?_<;>intro<;>(conv=>whnf)<;>(try (exfalso;omega)))|((first|refine aJ ?_|refine⟨_,rfl,?_⟩);conv=>whnf)|fail)
   all_goals first
    | (exfalso;omega)
 . unfold marC marQ
   (try (conv=>whnf));repeat' (first|refine Ok.seq ?_|(refine Ok.region tok ?_;conv=>whnf)|fail)
   refine Or.inr (Or.inr (Or.inl ?_));(conv=>whnf);refine⟨_,_,Tryz.func43,rfl,Tryz.call43,?_⟩;(conv=>whnf)
   refine Ok.keep [0,1,2,213,217,711] 7 5 ?_
   (conv=>whnf)
   refine mar_preG c h.ok (by omega) hda hi q0 ?_
   unfold marF
   have hyd:((c.boxes.l.map fun x=>(boxC x).row).set i (rawB y (.lst 9 (y.outs.l.map srow) []) (.rsl g y.guards.l.length cp) (.lst 115 (y.rules.l.map fun r=>(ruleC r).row) [])))[i]? = some (rawB y (.lst 9 (y.outs.l.map srow) []) (.rsl g y.guards.l.length cp) (.lst 115 (y.rules.l.map fun r=>(ruleC r).row) [])):=List.getElem?_set_self (by omega)
   have hy2:∀ d',(((c.boxes.l.map fun x=>(boxC x).row).set i (rawB y (.lst 9 (y.outs.l.map srow) []) (.rsl g y.guards.l.length cp) (.lst 115 (y.rules.l.map fun r=>(ruleC r).row) []))).set i (setCells (rawB y (.lst 9 (y.outs.l.map srow) []) (.rsl g y.guards.l.length cp) (.lst 115 (y.rules.l.map fun r=>(ruleC r).row) [])) (0+3) [d']))[i]? = some (setCells (rawB y (.lst 9 (y.outs.l.map srow) []) (.rsl g y.guards.l.length cp) (.lst 115 (y.rules.l.map fun r=>(ruleC r).row) [])) (0+3) [d']):=fun _=>List.getElem?_set_self (by simp;omega)
   (try (conv=>whnf));repeat' (first|((first|refine⟨711,711,6,rfl,?_⟩|refine⟨(y.guards.l++[(⟨[97,46,98],False,⟨[],[]⟩⟩:Line)]).map (fun g=>(lineC g).row),y.guards.l.length+1,by simp[lineC,Line.row],by simp,?_⟩);conv=>whnf)|(refine⟨fun _=>?_,fun _=>⟨6,by (conv=>whnf);exact True.intro,fun g' c' hc'=>?_⟩⟩<;>(conv=>whnf))|(refine⟨_,hy2 _,?_⟩;conv=>whnf)|(refine Ok.pubL (c:=sndN 4 (Tryz.f12.body.getD .ret)) 501 _ 1 i 3 (.raw _ _ (by simp)) rfl rfl rfl (by decide) (List.getElem?_set_self (by simp;omega)) rfl ?_;(conv=>whnf);refine Ok.pub 0 ?_;(conv=>whnf);refine Ok.pub 1 ?_;(conv=>whnf);refine Ok.pub 2 ?_;(conv=>whnf);refine Ok.pub 3 ?_;(conv=>whnf);refine Ok.keep [3,7,8,9] 0 5 ?_;(conv=>whnf);(try rw[List.set_set]);(try rw[List.set_set]);exact tailD h _ e1 e2 e3 73 (y.name++[32,103,117,97,114,100,32,97,46,98]) e4)|refine Ok.seq ?_|((first|refine Ok.region tok ?_|refine Ok.region_draw tok follows (by kernel_rfl) ?_|refine Ok.cond ?_);conv=>whnf)|refine Ok.block ?_|((first|refine Ok.ret ?_|refine⟨_,by assumption,?_⟩|refine⟨_,.inl ⟨rfl,rfl⟩,?_⟩);conv=>whnf)|(refine bI ?_ ?_<;>intro<;>(conv=>whnf)<;>(try (exfalso;omega)))|((first|refine aJ ?_|refine⟨_,rfl,?_⟩);conv=>whnf)|fail)
   all_goals first
    | (exfalso;omega)
end Go.Proofs.YtcglkonooeddfaaGreatDoor
namespace Go.Proofs.YtcglkonooeddfaaGreatDoor
open Go Go.Vx
def TabR:Tab:=fun t=>match Nat.beq t 85 with|true=>(T 85).map fun x=>{ x with kind:=.other }|false=>T t
theorem tR_at:∃ a b e z,T 85=some ⟨a,b,.slice e,z⟩:=⟨_,_,_,_,rfl⟩
theorem tokR:TOk Tryz.prog TabR:=by
 intro t ti h
 unfold TabR at h
 split at h
 . rename_i hb
   have:=beq_nat_true hb
   subst this
   obtain⟨a,b,e,z,hx⟩:=tR_at
   rw[hx] at h
   cases h
   have g:=tok _ _ hx
   exact⟨g.info,trivial,g.agg,g.small⟩
 . exact tok t ti h
theorem szTabR:szOf TabR=szOf T:=by
 funext e
 unfold szOf TabR
 by_cases hb:Nat.beq e 85=true
 . have:=beq_nat_true hb
   subst this
   obtain⟨a,b,e,z,hx⟩:=tR_at
   rw[hb,hx]
   rfl
 . rw[Bool.eq_false_iff.2 hb]
def clX(x:Box):Box:={ boxC x with owns:=⟨[],[]⟩,routes:=⟨[],[]⟩ }
@[reducible] def nilc(y:Box)(d:D):List D:=[.s y.name,.lst 9 (y.ins.l.map srow) [],.lst 9 (y.outs.l.map srow) [],.lst 112 (y.guards.l.map fun g=>(lineC g).row) [],.lst 115 (y.rules.l.map fun r=>(ruleC r).row) [],.lst 246 [] [],d]
@[reducible] def brow(x:Box):List D:=[.s x.name,.lst 9 (x.ins.l.map srow) [],.lst 9 (x.outs.l.map srow) [],.lst 112 (x.guards.l.map fun g=>(lineC g).row) [],.lst 115 (x.rules.l.map fun r=>(ruleC r).row) [],.lst 246 (x.owns.l.map Pfx.row) [],.lst 246 (x.routes.l.map Pfx.row) []]
theorem brow_eq(x:Box):(boxC x).row=brow x:=by simp[boxC,Box.row,brow,Function.comp_def]
theorem clX_row(x:Box):(clX x).row=nilc x (.lst 246 [] []):=by simp[clX,boxC,Box.row,nilc,Function.comp_def]
def rowsK(c:Config)(i:Nat)(y:Box)(k:Nat):List (List D):=
 let l:=(c.boxes.l.take k).map (fun x=>nilc x (.lst 246 [] []))++(c.boxes.l.drop k).map fun x=>(boxC x).row
 if i<k then l.set i (nilc y .nilS) else l
theorem rowsK_zero(c:Config)(i:Nat)(y:Box):rowsK c i y 0=c.boxes.l.map fun x=>(boxC x).row:=by
 unfold rowsK
 rw[if_neg (by omega)]
 rfl
theorem rowsK_len(c:Config)(i:Nat)(y:Box){k:Nat}(hk:k<=c.boxes.l.length):(rowsK c i y k).length=c.boxes.l.length:=by
 unfold rowsK
 dsimp only
 split<;>simp<;>omega
theorem rowsK_at(c:Config)(i:Nat)(y:Box){k:Nat}{x:Box}(hx:c.boxes.l[k]? = some x):(rowsK c i y k)[k]? = some (brow x):=by
 have hk:=(List.getElem?_eq_some_iff.1 hx).1
 have e:((c.boxes.l.take k).map (fun x=>nilc x (.lst 246 [] []))++(c.boxes.l.drop k).map fun x=>(boxC x).row)[k]? = some (brow x):=by
  rw[List.getElem?_append_right (by simp;omega),List.getElem?_map,List.getElem?_drop]
  simp only[List.length_map,List.length_take]
  rw[show k+(k - min k c.boxes.l.length)=k by omega,hx]
  exact congrArg some (brow_eq x)
 unfold rowsK
 dsimp only
 split
 . rw[List.getElem?_set_ne (by omega)]
   exact e
 . exact e
theorem rowsK_step(c:Config)(i:Nat)(y:Box){k:Nat}{x:Box}(hx:c.boxes.l[k]? = some x):(rowsK c i y k).set k (if i=k then nilc y .nilS else nilc x (.lst 246 [] []))=rowsK c i y (k+1):=by
 have hk:=(List.getElem?_eq_some_iff.1 hx).1
 have e:∀ z,((c.boxes.l.take k).map (fun x=>nilc x (.lst 246 [] []))++(c.boxes.l.drop k).map fun x=>(boxC x).row).set k z=(c.boxes.l.take k).map (fun x=>nilc x (.lst 246 [] []))++z :: (c.boxes.l.drop (k+1)).map fun x=>(boxC x).row:=fun z=>by
  rw[fdrop_at hx,List.map_cons,List.set_append_right _ _ (by simp;omega)]
  simp only[List.length_map,List.length_take]
  rw[show k - min k c.boxes.l.length=0 by omega]
  rfl
 have e2:(c.boxes.l.take (k+1)).map (fun x=>nilc x (.lst 246 [] []))++(c.boxes.l.drop (k+1)).map (fun x=>(boxC x).row)=(c.boxes.l.take k).map (fun x=>nilc x (.lst 246 [] []))++nilc x (.lst 246 [] []) :: (c.boxes.l.drop (k+1)).map fun x=>(boxC x).row:=by
  rw[List.take_add_one,hx]
  simp
 unfold rowsK
 dsimp only
 rcases Nat.lt_trichotomy i k with h|h|h
 . rw[if_pos h,if_neg (by omega),if_pos (by omega),List.set_comm _ _ (by omega),e,e2]
 . subst h
   rw[if_neg (by omega),if_pos rfl,if_pos (by omega),e2,<- e (nilc x (.lst 246 [] [])),List.set_set]
 . rw[if_neg (by omega),if_neg (by omega),if_neg (by omega),e,e2]
theorem rowsK_end(c:Config){i:Nat}(y:Box)(hi:i<c.boxes.l.length):rowsK c i y c.boxes.l.length=(c.boxes.l.map fun x=>nilc x (.lst 246 [] [])).set i (nilc y .nilS):=by
 unfold rowsK
 dsimp only
 rw[if_pos hi,List.take_length,List.drop_length]
 simp
set_option maxRecDepth 100000 in
set_option maxHeartbeats 16000000 in
theorem way10a{c:Config}(h:Mar c){i:Nat}{y:Box}(hy:c.boxes.l[i]? = some y){da:Int}(hda:-9223372036854775808<=da/\da<=9223372036854775807)(hi:marIx da c.boxes.l.length=i)(ho:y.outs.l=[]) :
    Ok Tryz.prog T (sndN 2 marC) marQ ⟨[(1,.i .i64 10),(2,.i .i64 da),(3,.bp 0 0)],[c.row],[],Tryz.f12.ntmps⟩:=by
 have hil:=(List.getElem?_eq_some_iff.1 hy).1
 have hyb:c.b.boxes[i]? = some y.b:=by show (c.boxes.l.map Box.b)[i]? = _;rw[List.getElem?_map,hy];rfl
 have hyo:=boxC_ok (h.ok.box y (List.mem_of_getElem? hy))
 have hyx:=boxC_tx (h.tx.boxes y (List.mem_of_getElem? hy))
 have hyr:(c.boxes.l.map fun x=>(boxC x).row)[i]? = some (rawB y (.lst 9 (y.outs.l.map srow) []) (.lst 112 (y.guards.l.map fun g=>(lineC g).row) []) (.lst 115 (y.rules.l.map fun r=>(ruleC r).row) [])):=by
  rw[List.getElem?_map,hy]
  simp[boxC,Box.row,rawB,Function.comp_def]
 have hbl:(c.boxes.l.map fun x=>(boxC x).row).length=c.boxes.l.length:=by simp
 have hll:(c.links.l.map Link.row).length=c.links.l.length:=by simp
 have hfl:(c.fields.l.map SI.row).length=c.fields.l.length:=by simp
 have hL:=h.ok.links
 have hp0:((boxC y).outs.l.map srow).length=0:=by simp[boxC,ho]
 refine mar_copy0 c h.ok hy ?_
 unfold marC marQ
 (try (conv=>whnf));repeat' (first|refine Ok.seq ?_|(refine Ok.region tok ?_;conv=>whnf)|fail)
 refine Or.inr (Or.inr (Or.inl ?_));(conv=>whnf);refine⟨_,_,Tryz.func43,rfl,Tryz.call43,?_⟩;(conv=>whnf)
 refine Ok.keep [0,1,2,213,217] 4 5 ?_
 (conv=>whnf)
 refine mar_pre0 c h.ok (by omega) hda hi ?_
 unfold marF
 (try (conv=>whnf));repeat' (first|refine Ok.seq ?_|((first|refine Ok.region tok ?_|refine Ok.cond ?_);conv=>whnf)|refine Ok.block ?_|(refine Ok.skip ?_;conv=>whnf)|(refine bI ?_ ?_<;>intro<;>(conv=>whnf)<;>(try (exfalso;omega)))|fail)
 refine Or.inr (Or.inr (Or.inl ?_));(conv=>whnf);refine⟨_,_,Tryz.func87,rfl,Tryz.call87,?_⟩;(conv=>whnf)
 (try (conv=>whnf));repeat' (first|(refine Ok.pub (c:=sndN 4 (Tryz.f12.body.getD .ret)) 0 ?_;(conv=>whnf);refine Ok.pub 1 ?_;(conv=>whnf);refine Ok.pub 2 ?_;(conv=>whnf);refine Ok.pub 3 ?_;(conv=>whnf);refine Ok.keep [3,7,8,9] 0 5 ?_;(conv=>whnf);exact tailG h (conf0 c) (conf0_ok h.ok) (conf0_tx h.tx) 0 _ (fun q=>absurd rfl q) (rowC c.title c.fields.l c.routing c.slim (c.boxes.l.map boxC) c.links.l (c.slices.l.map slcC) rfl (by rw[List.map_map];rfl) rfl (by rw[List.map_map];rfl) (by simp) (by simp) (by simp) (by simp)))|refine Ok.seq ?_|((first|refine Ok.region tok ?_|refine Ok.cond ?_);conv=>whnf)|refine Ok.block ?_|((first|refine Ok.ret ?_|refine rd rfl (by assumption) ?_);conv=>whnf)|(refine bI ?_ ?_<;>intro<;>(conv=>whnf)<;>(try (exfalso;omega)))|fail)
 all_goals first
  | (exfalso;omega)
set_option maxRecDepth 100000 in
set_option maxHeartbeats 16000000 in
theorem way10b{c:Config}(h:Mar c){i:Nat}{y:Box}(hy:c.boxes.l[i]? = some y){da:Int}(hda:-9223372036854775808<=da/\da<=9223372036854775807)(hi:marIx da c.boxes.l.length=i)(ho:y.routes.l ≠ []) :
    Ok Tryz.prog T (sndN 2 marC) marQ ⟨[(1,.i .i64 10),(2,.i .i64 da),(3,.bp 0 0)],[c.row],[],Tryz.f12.ntmps⟩:=by
 have hil:=(List.getElem?_eq_some_iff.1 hy).1
 have hyb:c.b.boxes[i]? = some y.b:=by show (c.boxes.l.map Box.b)[i]? = _;rw[List.getElem?_map,hy];rfl
 have hyo:=boxC_ok (h.ok.box y (List.mem_of_getElem? hy))
 have hyx:=boxC_tx (h.tx.boxes y (List.mem_of_getElem? hy))
 have hyr:(c.boxes.l.map fun x=>(boxC x).row)[i]? = some (rawB y (.lst 9 (y.outs.l.map srow) []) (.lst 112 (y.guards.l.map fun g=>(lineC g).row) []) (.lst 115 (y.rules.l.map fun r=>(ruleC r).row) [])):=by
  rw[List.getElem?_map,hy]
  simp[boxC,Box.row,rawB,Function.comp_def]
 have hbl:(c.boxes.l.map fun x=>(boxC x).row).length=c.boxes.l.length:=by simp
 have hll:(c.links.l.map Link.row).length=c.links.l.length:=by simp
 have hfl:(c.fields.l.map SI.row).length=c.fields.l.length:=by simp
 have hL:=h.ok.links
 have hp0:((boxC y).routes.l.map Pfx.row).length ≠ 0:=fun q=>ho (List.map_eq_nil_iff.1 (List.eq_nil_of_length_eq_zero q))
 refine mar_copy0 c h.ok hy ?_
 unfold marC marQ
 (try (conv=>whnf));repeat' (first|refine Ok.seq ?_|(refine Ok.region tok ?_;conv=>whnf)|fail)
 refine Or.inr (Or.inr (Or.inl ?_));(conv=>whnf);refine⟨_,_,Tryz.func43,rfl,Tryz.call43,?_⟩;(conv=>whnf)
 refine Ok.keep [0,1,2,213,217] 4 5 ?_
 (conv=>whnf)
 refine mar_pre0 c h.ok (by omega) hda hi ?_
 unfold marF
 (try (conv=>whnf));repeat' (first|refine Ok.seq ?_|((first|refine Ok.region tok ?_|refine Ok.cond ?_);conv=>whnf)|refine Ok.block ?_|(refine Ok.skip ?_;conv=>whnf)|(refine bI ?_ ?_<;>intro<;>(conv=>whnf)<;>(try (exfalso;omega)))|fail)
 refine Or.inr (Or.inr (Or.inl ?_));(conv=>whnf);refine⟨_,_,Tryz.func87,rfl,Tryz.call87,?_⟩;(conv=>whnf)
 (try (conv=>whnf));repeat' (first|(refine Ok.pub (c:=sndN 4 (Tryz.f12.body.getD .ret)) 0 ?_;(conv=>whnf);refine Ok.pub 1 ?_;(conv=>whnf);refine Ok.pub 2 ?_;(conv=>whnf);refine Ok.pub 3 ?_;(conv=>whnf);refine Ok.keep [3,7,8,9] 0 5 ?_;(conv=>whnf);exact tailG h (conf0 c) (conf0_ok h.ok) (conf0_tx h.tx) 0 _ (fun q=>absurd rfl q) (rowC c.title c.fields.l c.routing c.slim (c.boxes.l.map boxC) c.links.l (c.slices.l.map slcC) rfl (by rw[List.map_map];rfl) rfl (by rw[List.map_map];rfl) (by simp) (by simp) (by simp) (by simp)))|refine Ok.seq ?_|((first|refine Ok.region tok ?_|refine Ok.cond ?_);conv=>whnf)|refine Ok.block ?_|((first|refine Ok.ret ?_|refine rd rfl (by assumption) ?_);conv=>whnf)|(refine bI ?_ ?_<;>intro<;>(conv=>whnf)<;>(try (exfalso;omega)))|fail)
 all_goals first
  | (exfalso;omega)
set_option maxRecDepth 100000 in
set_option maxHeartbeats 16000000 in
theorem way10c{c:Config}(h:Mar c){i:Nat}{y:Box}(hy:c.boxes.l[i]? = some y){da:Int}(hda:-9223372036854775808<=da/\da<=9223372036854775807)(hi:marIx da c.boxes.l.length=i){o:Str}(ho:y.outs.l[0]? = some o)(hr0:y.routes.l=[]) :
    Ok Tryz.prog T (sndN 2 marC) marQ ⟨[(1,.i .i64 10),(2,.i .i64 da),(3,.bp 0 0)],[c.row],[],Tryz.f12.ntmps⟩:=by
 have hil:=(List.getElem?_eq_some_iff.1 hy).1
 have hyb:c.b.boxes[i]? = some y.b:=by show (c.boxes.l.map Box.b)[i]? = _;rw[List.getElem?_map,hy];rfl
 have hyo:=boxC_ok (h.ok.box y (List.mem_of_getElem? hy))
 have hyx:=boxC_tx (h.tx.boxes y (List.mem_of_getElem? hy))
 have hyr:(c.boxes.l.map fun x=>(boxC x).row)[i]? = some (rawB y (.lst 9 (y.outs.l.map srow) []) (.lst 112 (y.guards.l.map fun g=>(lineC g).row) []) (.lst 115 (y.rules.l.map fun r=>(ruleC r).row) [])):=by
  rw[List.getElem?_map,hy]
  simp[boxC,Box.row,rawB,Function.comp_def]
 have hbl:(c.boxes.l.map fun x=>(boxC x).row).length=c.boxes.l.length:=by simp
 have hll:(c.links.l.map Link.row).length=c.links.l.length:=by simp
 have hfl:(c.fields.l.map SI.row).length=c.fields.l.length:=by simp
 have hL:=h.ok.links
 have hnm:y.name.length<=1048576:=hyx.name
 have hol:0<(y.outs.l.map srow).length:=by simpa using (List.getElem?_eq_some_iff.1 ho).1
 have hor:(y.outs.l.map srow)[0]? = some [.s o]:=by rw[List.getElem?_map,ho];rfl
 have hrm:((boxC y).routes.l.map Pfx.row).length=0:=by simp[boxC,hr0]
 have hol1:0<((boxC y).outs.l.map srow).length:=hol
 have hox:=hyx.outs o (List.mem_of_getElem? ho)
 have hdb:(⟨c.title,⟨c.fields.l,[]⟩,[],False,⟨(c.boxes.l.map clX).set i ({ boxC y with owns:=⟨[],[]⟩,routes:=⟨[(⟨0,0,o⟩:Pfx)],[]⟩ }:Box),[]⟩,⟨c.links.l,[]⟩,⟨c.slices.l.map slcC,[]⟩⟩:Config).b={ c.b with routing:=[],slim:=False,boxes:=(c.b.boxes.map clrB).set i { y.b with owns:=[],routes:=[(⟨0,0,o⟩:Pfx)] } }:=by
  simp[Config.b,List.map_set,Function.comp_def,slcC_b,clX,clrB,boxC,Box.b,lineC_b,ruleC_b]
 have hbx:∀ x ∈ (c.boxes.l.map clX).set i ({ boxC y with owns:=⟨[],[]⟩,routes:=⟨[(⟨0,0,o⟩:Pfx)],[]⟩ }:Box),x.Ok/\x.Tx:=fun x hx=>by
  rcases mem_set_or hx with hx|rfl
  . obtain⟨z,hz,rfl⟩:=List.mem_map.1 hx
    have q:=boxC_ok (h.ok.box z hz)
    have q2:=boxC_tx (h.tx.boxes z hz)
    exact⟨⟨q.ins,q.outs,q.guards,q.rules,by simp[clX],by simp[clX],q.line,q.rule⟩,⟨q2.name,q2.ins,q2.outs,q2.guards,q2.rules,by simp[clX],by simp[clX]⟩⟩
  . exact⟨⟨hyo.ins,hyo.outs,hyo.guards,hyo.rules,by simp,by simp,hyo.line,hyo.rule⟩,⟨hyx.name,hyx.ins,hyx.outs,hyx.guards,hyx.rules,by simp,fun p hp=>by simp at hp;subst hp;exact⟨by show IOk 0;unfold IOk;omega,by show IOk 0;unfold IOk;omega,hox⟩⟩⟩
 have e1:(⟨c.title,⟨c.fields.l,[]⟩,[],False,⟨(c.boxes.l.map clX).set i ({ boxC y with owns:=⟨[],[]⟩,routes:=⟨[(⟨0,0,o⟩:Pfx)],[]⟩ }:Box),[]⟩,⟨c.links.l,[]⟩,⟨c.slices.l.map slcC,[]⟩⟩:Config).Ok:=⟨h.ok.fields,by simpa using h.ok.boxes,h.ok.links,by simpa using h.ok.slices,fun x hx=>(hbx x hx).1,slcs_ok h.ok⟩
 have e2:(⟨c.title,⟨c.fields.l,[]⟩,[],False,⟨(c.boxes.l.map clX).set i ({ boxC y with owns:=⟨[],[]⟩,routes:=⟨[(⟨0,0,o⟩:Pfx)],[]⟩ }:Box),[]⟩,⟨c.links.l,[]⟩,⟨c.slices.l.map slcC,[]⟩⟩:Config).Tx:=⟨h.tx.title,h.tx.fields,sok_S (by simp),fun x hx=>(hbx x hx).2,h.tx.links,slcs_tx h.tx⟩
 have e4:(78:Int) ≠ 0->Few c.b->checkO (⟨c.title,⟨c.fields.l,[]⟩,[],False,⟨(c.boxes.l.map clX).set i ({ boxC y with owns:=⟨[],[]⟩,routes:=⟨[(⟨0,0,o⟩:Pfx)],[]⟩ }:Box),[]⟩,⟨c.links.l,[]⟩,⟨c.slices.l.map slcC,[]⟩⟩:Config).b=(78,(y.name++[32,114,111,117,116,101])):=fun _ f=>by rw[hdb];exact mar10 h.z hyb
 have hrow:((c.boxes.l.map clX).set i ({ boxC y with owns:=⟨[],[]⟩,routes:=⟨[(⟨0,0,o⟩:Pfx)],[]⟩ }:Box)).map Box.row=(c.boxes.l.map fun x=>nilc x (.lst 246 [] [])).set i (nilc y (.lst 246 [[.i .i64 0,.i .i64 0,.s o]] [])):=by
  rw[List.map_set,List.map_map]
  congr 1
  . exact List.map_congr_left fun x _=>clX_row x
  . simp[boxC,Box.row,nilc,Function.comp_def,Pfx.row]
 refine mar_copy0 c h.ok hy ?_
 unfold marC marQ
 (try (conv=>whnf));repeat' (first|refine Ok.seq ?_|(refine Ok.region tok ?_;conv=>whnf)|fail)
 refine Or.inr (Or.inr (Or.inl ?_));(conv=>whnf);refine⟨_,_,Tryz.func43,rfl,Tryz.call43,?_⟩;(conv=>whnf)
 refine Ok.keep [0,1,2,213,217] 4 5 ?_
 (conv=>whnf)
 refine mar_pre0 c h.ok (by omega) hda hi ?_
 unfold marF
 (try (conv=>whnf));repeat' (first|refine Ok.seq ?_|((first|refine Ok.region tok ?_|refine Ok.cond ?_);conv=>whnf)|refine Ok.block ?_|(refine Ok.skip ?_;conv=>whnf)|(refine bI ?_ ?_<;>intro<;>(conv=>whnf)<;>(try (exfalso;omega)))|fail)
 refine Or.inr (Or.inr (Or.inl ?_));(conv=>whnf);refine⟨_,_,Tryz.func87,rfl,Tryz.call87,?_⟩;(conv=>whnf)
 (try (conv=>whnf));repeat' (first|refine Ok.seq ?_|((first|refine Ok.region tok ?_|refine Ok.cond ?_);conv=>whnf)|refine Ok.block ?_|((first|refine Ok.skip ?_|refine rd rfl (by assumption) ?_);conv=>whnf)|(refine bI ?_ ?_<;>intro<;>(conv=>whnf)<;>(try (exfalso;omega)))|fail)
 rw[<- rowsK_zero c i y]
 refine Ok.loopU [0,1,413,417] [8] 4 5 (fun (k:Nat)=>[.i .i64 (k:Nat)]) (fun (k:Nat) (_:List (List D))=>[c.row,us7,us7,us7,[.s c.title,.own 0 c.fields.l.length,.s [],.ff,.own 1 c.boxes.l.length,.own 2 c.links.l.length,.own 3 c.slices.l.length]]) (fun (k:Nat) (_:Vx.Rows)=>[some (127,c.fields.l.map SI.row),some (87,rowsK c i y k),some (91,c.links.l.map Link.row),some (54,c.slices.l.map fun x=>(slcC x).row)]) (fun (k:Nat)=>k<=c.boxes.l.length) (fun (k:Nat)=>c.boxes.l.length - k) (0) (Nat.zero_le _) ?_;(conv=>whnf);refine⟨by ((conv=>whnf);first|rfl|(simp[envCat, List.take_of_length_le, SI.row, Node.row, Pfx.row, Link.row, srow, Line.row, Rule.row, Box.row, Slc.row, Config.row, Function.comp_def];done)|(simp[envCat, List.take_of_length_le, SI.row, Node.row, Pfx.row, Link.row, srow, Line.row, Rule.row, Box.row, Slc.row, Config.row, Function.comp_def];rw[IntKind.wrap_i64];omega)),?_⟩
 have hB:=h.ok.boxes
 intro k hk
 (conv=>whnf)
 have hkl:=rowsK_len c i y hk
 by_cases hkn:k<c.boxes.l.length
 . obtain⟨x,hx⟩:∃ x,c.boxes.l[k]? = some x:=⟨_,List.getElem?_eq_getElem hkn⟩
   have hxr:=rowsK_at c i y hx
   have hxs:=rowsK_step c i y hx
   have hx2:((rowsK c i y k).set k (setCells (brow x) (0+5) [.lst 246 [] []]))[k]? = some (setCells (brow x) (0+5) [.lst 246 [] []]):=List.getElem?_set_self (by omega)
   by_cases hki:i=k
   . subst hki
     rw[hy] at hx
     cases hx
     rw[if_pos rfl] at hxs
     (try (conv=>whnf));repeat' (first|(exact show Nat.le _ _ by simp[setCells])|(refine Ok.tab (c:=.region 26 _ _) TabR szTabR ?_;refine Ok.region tokR ?_;conv=>whnf)|refine Ok.seq ?_|((first|refine Ok.region tok ?_|refine Ok.cond ?_);conv=>whnf)|refine Ok.block ?_|((first|refine Ok.skip ?_|refine nI ?_|refine⟨_,by assumption,?_⟩);conv=>whnf)|(refine bI ?_ ?_<;>intro<;>(conv=>whnf)<;>(try (exfalso;omega)))|((first|refine aJ ?_|refine⟨_,rfl,?_⟩);conv=>whnf)|(refine And.intro ?_ ?_<;>(conv=>whnf))|fail)
     all_goals first
      | (exfalso;omega)
      | (refine⟨i+1,by omega,by omega,?_⟩
         rw[<- hxs]
         (conv=>whnf)
         rw[List.set_set]
         rfl)
   . rw[if_neg hki] at hxs
     (try (conv=>whnf));repeat' (first|(exact show Nat.le _ _ by simp[setCells])|refine Ok.seq ?_|((first|refine Ok.region tok ?_|refine Ok.cond ?_);conv=>whnf)|refine Ok.block ?_|((first|refine Ok.skip ?_|refine nI ?_|refine⟨_,by assumption,?_⟩);conv=>whnf)|(refine bI ?_ ?_<;>intro<;>(conv=>whnf)<;>(try (exfalso;omega)))|((first|refine aJ ?_|refine⟨_,rfl,?_⟩);conv=>whnf)|(refine And.intro ?_ ?_<;>(conv=>whnf))|fail)
     all_goals first
      | (exfalso;omega)
      | (refine⟨k+1,by omega,by omega,?_⟩
         rw[<- hxs]
         (conv=>whnf)
         rw[List.set_set]
         rfl)
 . obtain rfl:k=c.boxes.l.length:=by omega
   rw[rowsK_end c y hil]
   have hye:((c.boxes.l.map fun x=>nilc x (.lst 246 [] [])).set i (nilc y .nilS))[i]? = some (nilc y .nilS):=List.getElem?_set_self (by simpa using hil)
   have hy2:∀ d',(((c.boxes.l.map fun x=>nilc x (.lst 246 [] [])).set i (nilc y .nilS)).set i (setCells (nilc y .nilS) (0+6) [d']))[i]? = some (setCells (nilc y .nilS) (0+6) [d']):=fun _=>List.getElem?_set_self (by simpa using hil)
   (try (conv=>whnf));repeat' (first|(refine⟨_,hy2 _,?_⟩;conv=>whnf)|(refine Ok.pub (c:=sndN 4 (Tryz.f12.body.getD .ret)) 0 ?_;(conv=>whnf);refine Ok.pub 1 ?_;(conv=>whnf);refine Ok.pub 2 ?_;(conv=>whnf);refine Ok.pub 3 ?_;(conv=>whnf);refine Ok.boxF 4 3 rfl rfl ?_;(conv=>whnf);refine Ok.keep [3,7,8,9] 0 5 ?_;(conv=>whnf);rw[List.set_set];exact tailG h _ e1 e2 78 (y.name++[32,114,111,117,116,101]) e4 (rowC c.title c.fields.l [] False _ c.links.l (c.slices.l.map slcC) rfl hrow rfl (by rw[List.map_map];rfl) (by simp) (by simp) (by simp) (by simp)))|refine Ok.seq ?_|((first|refine Ok.region tok ?_|refine Ok.region_tree (id:=27) tok follows [(8,12,[11,10,9]),(10,12,[11]),(1,13,[4,3,2]),(2,13,[4,3]),(3,13,[4]),(4,13,[]),(5,13,[12,11,10,9,8,7,6]),(6,13,[12,11,10,9,8,7]),(7,13,[12,11,10,9,8]),(8,13,[12,11,10,9]),(9,13,[12,11,10]),(10,13,[12,11]),(11,13,[12]),(12,13,[]),(4,16,[]),(8,16,[]),(10,16,[]),(12,16,[]),(13,16,[])] (.q 1 (.q 2 (.q 3 (.q 4 (.q 5 (.q 6 (.q 7 (.q 8 (.q 9 (.q 10 (.q 11 (.alt 0 (.l 12 (.l 13 (.q 14 (.q 15 (.l 16 .nil))))) (.alt 12 (.alt 0 (.l 13 (.q 14 (.q 15 (.l 16 .nil)))) (.alt 13 (.q 0 (.q 14 (.q 15 (.l 16 .nil)))) .nil)) .nil))))))))))))) (by kernel_rfl) ?_|refine Ok.region_draw tok follows (by kernel_rfl) ?_|refine Ok.cond ?_|refine Ok.exit ?_|refine Ok.ret ?_|refine ix _ (by assumption) ?_|refine⟨_,by assumption,?_⟩|refine⟨_,.inl ⟨rfl,rfl⟩,?_⟩|refine⟨_,_,rfl,rfl,?_⟩);conv=>whnf)|(refine bI ?_ ?_<;>intro<;>(conv=>whnf)<;>(try (exfalso;omega)))|((first|refine aJ ?_|refine⟨_,rfl,?_⟩);conv=>whnf)|(exact True.intro)|(refine And.intro ?_ ?_<;>(conv=>whnf))|fail)
   all_goals first
    | (exfalso;omega)
end Go.Proofs.YtcglkonooeddfaaGreatDoor
namespace Go.Proofs.YtcglkonooeddfaaGreatDoor
open Go Go.Vx
set_option maxRecDepth 100000 in
set_option maxHeartbeats 16000000 in
theorem wayE{c:Config}(h:Mar c)(hx:c.boxes.l=[]){w da:Int} :
    Ok Tryz.prog T (sndN 2 marC) marQ ⟨[(1,.i .i64 w),(2,.i .i64 da),(3,.bp 0 0)],[c.row],[],Tryz.f12.ntmps⟩:=by
 have hl:c.boxes.l.length=0:=by rw[hx];rfl
 unfold marC marQ
 (try (conv=>whnf));repeat' (first|refine Ok.seq ?_|(refine Ok.region tok ?_;conv=>whnf)|(refine Or.inr (Or.inl ?_);(conv=>whnf);(repeat (refine aI ?_;conv=>whnf));refine⟨_,Copy_at c h.ok,?_⟩;rintro _ _ ⟨rfl,rfl⟩;conv=>whnf)|fail)
 refine Or.inr (Or.inr (Or.inl ?_));(conv=>whnf);refine⟨_,_,Tryz.func43,rfl,Tryz.call43,?_⟩;(conv=>whnf)
 (try (conv=>whnf));repeat' (first|refine Ok.seq ?_|((first|refine Ok.region tok ?_|refine Ok.cond ?_|refine Ok.ret ?_);conv=>whnf)|(refine Or.inl ?_;(conv=>whnf);(repeat (refine aI ?_;conv=>whnf));refine⟨_,mknown_at,rfl,?_⟩;conv=>whnf)|(refine bI ?_ ?_<;>intro<;>(conv=>whnf)<;>(try (exfalso;omega)))|fail)
 all_goals first
  | (exfalso;omega)
  | (refine Or.inl ?_;(conv=>whnf)
     rfl)
theorem get0{α:Type}{l:List α}(h:l ≠ []):∃ x,l[0]? = some x:=by
 cases l with
 | nil=>exact absurd rfl h
 | cons x l=>exact⟨x,rfl⟩
theorem way_all{c:Config}(h:Mar c){w da:Int}(hda:-9223372036854775808<=da/\da<=9223372036854775807) :
    Ok Tryz.prog T (sndN 2 marC) marQ ⟨[(1,.i .i64 w),(2,.i .i64 da),(3,.bp 0 0)],[c.row],[],Tryz.f12.ntmps⟩:=by
 by_cases hx:c.boxes.l=[]
 . exact wayE h hx
 have hn:0<c.boxes.l.length:=List.length_pos_iff.2 hx
 obtain⟨y,hy⟩:∃ y,c.boxes.l[marIx da c.boxes.l.length]? = some y:=⟨_,List.getElem?_eq_getElem (marIx_lt hn)⟩
 by_cases hw:0<=w/\w<=14
 . by_cases w0:w=0
   . subst w0;exact way0 h hy hda rfl
   by_cases w1:w=1
   . subst w1
     by_cases h0:marIx da c.boxes.l.length=0
     . exact way1a h hy hda rfl h0
     . obtain⟨z,hz⟩:=get0 hx
       exact way1b h hy hda rfl h0 hz
   by_cases w2:w=2
   . subst w2
     by_cases h0:y.ins.l=[]
     . exact way2a h hy hda rfl h0
     . obtain⟨p,hp⟩:=get0 h0
       exact way2b h hy hda rfl hp
   by_cases w3:w=3
   . subst w3;exact way3 h hy hda rfl
   by_cases w4:w=4
   . subst w4
     by_cases h0:y.rules.l=[]
     . exact way4a h hy hda rfl h0
     . obtain⟨p,hp⟩:=get0 h0
       exact way4b h hy hda rfl hp
   by_cases w5:w=5
   . subst w5
     by_cases h0:y.outs.l=[]
     . exact way5a h hy hda rfl h0
     . obtain⟨p,hp⟩:=get0 h0
       by_cases h1:y.rules.l=[]
       . exact way5c h hy hda rfl hp h1
       . exact way5b h hy hda rfl h1
   by_cases w6:w=6
   . subst w6;exact way6 h hy hda rfl
   by_cases w7:w=7
   . subst w7
     by_cases h0:c.links.l=[]
     . exact way7a h hy hda rfl h0
     . obtain⟨p,hp⟩:=get0 h0
       exact way7b h hy hda rfl hp
   by_cases w8:w=8
   . subst w8
     by_cases h0:c.links.l=[]
     . exact way8a h hy hda rfl h0
     . obtain⟨p,hp⟩:=get0 h0
       exact way8b h hy hda rfl hp
   by_cases w9:w=9
   . subst w9
     by_cases h0:c.links.l=[]
     . exact way9a h hy hda rfl h0
     . obtain⟨p,hp⟩:=get0 h0
       exact way9b h hy hda rfl hp
   by_cases w10:w=10
   . subst w10
     by_cases h0:y.outs.l=[]
     . exact way10a h hy hda rfl h0
     . obtain⟨p,hp⟩:=get0 h0
       by_cases h1:y.routes.l=[]
       . exact way10c h hy hda rfl hp h1
       . exact way10b h hy hda rfl h1
   by_cases w11:w=11
   . subst w11;exact way11 h hy hda rfl
   by_cases w12:w=12
   . subst w12;exact way12 h hy hda rfl
   by_cases w13:w=13
   . subst w13
     by_cases h0:c.fields.l=[]
     . exact way13a h hy hda rfl h0
     . obtain⟨p,hp⟩:=get0 h0
       exact way13b h hy hda rfl hp
   by_cases w14:w=14
   . subst w14;exact way14 h hy hda rfl
   omega
 . exact wayN h hy hda rfl hw
set_option maxRecDepth 100000 in
set_option maxHeartbeats 16000000 in
theorem marred_law(c:Config)(hc:c.Ok)(ht:c.Tx)(w da:Int)(hda:-9223372036854775808<=da/\da<=9223372036854775807):FSpec Tryz.prog T 12 [.agg c.row,.i .i64 w,.i .i64 da] (fun d _=>d = .b True):=by
 have r1:=mright_at c hc ht
 refine FSpec.of_ok tok Tryz.func12 rfl Tryz.call12 (by simp) ?_
 by_cases h0:(checkO c.b).1=0
 . have hh:=way_all ⟨hc,ht,h0⟩ (w:=w) hda
   unfold marC marQ at hh
   (try (conv=>whnf));repeat' (first|(refine Ok.keep (c:=sndN 2 (Tryz.f12.body.getD .ret)) [1,2,3] 0 1 ?_;(conv=>whnf);exact hh)|refine Ok.seq ?_|((first|refine Ok.region tok ?_|refine Ok.cond ?_|refine Ok.skip ?_);conv=>whnf)|(refine Or.inl ?_;(conv=>whnf);(repeat (refine aI ?_;conv=>whnf));refine⟨_,r1,rfl,?_⟩;conv=>whnf)|(refine bI ?_ ?_<;>intro<;>(conv=>whnf)<;>(try (exfalso;omega)))|fail)
   all_goals first
    | (exfalso;omega)
    | exact absurd h0 (by assumption)
 . (try (conv=>whnf));repeat' (first|refine Ok.seq ?_|((first|refine Ok.region tok ?_|refine Ok.cond ?_|refine Ok.ret ?_);conv=>whnf)|(refine Or.inl ?_;(conv=>whnf);(repeat (refine aI ?_;conv=>whnf));refine⟨_,r1,rfl,?_⟩;conv=>whnf)|(refine Or.inl ?_;(conv=>whnf);(repeat (refine aI ?_;conv=>whnf));refine⟨_,mknown_at,rfl,?_⟩;conv=>whnf)|(refine bI ?_ ?_<;>intro<;>(conv=>whnf)<;>(try (exfalso;omega)))|fail)
   all_goals first
    | exact absurd (by assumption) h0
    | (refine Or.inl ?_;(conv=>whnf)
       rfl)
theorem modelMarred_ats:∃ ls,shapes T 9 [27,3,3]=some ls/\∀ xs,TyAs T 1048576 [27,3,3] ls xs->FSpec Tryz.prog T 12 xs (fun d _=>d = .b True):=by
 refine⟨_,rfl,fun xs h=>?_⟩
 obtain⟨_,_,rfl,h0,h⟩:=as_cons h
 obtain⟨_,_,rfl,h1,h⟩:=as_cons h
 obtain⟨_,_,rfl,h2,h⟩:=as_cons h
 obtain rfl:=as_nil h
 obtain⟨r0,rfl,g0⟩:=agg_of h0 rfl
 obtain⟨c,rfl,hc,ht⟩:=config_of g0
 obtain⟨w,rfl,_⟩:=int_of (leaf h1 rfl)
 obtain⟨da,rfl,hw⟩:=int_of (leaf h2 rfl)
 exact marred_law c hc ht w da (wf64 hw)
end Go.Proofs.YtcglkonooeddfaaGreatDoor
namespace Go.Proofs.YtcglkonooeddfaaGreatDoor
open Go Go.Vx
theorem len4{α:Type}{l:List α}(h:l.length=4):∃ a b c d,l=[a,b,c,d]:=match l,h with|[a,b,c,d],_=>⟨a,b,c,d,rfl⟩
theorem len5{α:Type}{l:List α}(h:l.length=5):∃ a b c d e,l=[a,b,c,d,e]:=match l,h with|[a,b,c,d,e],_=>⟨a,b,c,d,e,rfl⟩
theorem len20{α:Type}{l:List α}(h:l.length=20):∃ v0 v1 v2 v3 v4 v5 v6 v7 v8 v9 v10 v11 v12 v13 v14 v15 v16 v17 v18 v19,l=[v0,v1,v2,v3,v4,v5,v6,v7,v8,v9,v10,v11,v12,v13,v14,v15,v16,v17,v18,v19]:=match l,h with|[v0,v1,v2,v3,v4,v5,v6,v7,v8,v9,v10,v11,v12,v13,v14,v15,v16,v17,v18,v19],_=>⟨v0,v1,v2,v3,v4,v5,v6,v7,v8,v9,v10,v11,v12,v13,v14,v15,v16,v17,v18,v19,rfl⟩
theorem st4{W:World}{fuel:Nat}{cs:List Value}{y:DataW Unit × List MemPlace}{a b c d:Bool}(h:DataW.trod (fun _=>()) Tryz.prog W 0 (fun _=>true) false fuel 347 cs=some y)
    (hy:y.1 = .agg [.lit (.bool a),.lit (.bool b),.lit (.bool c),.lit (.bool d)]):cs=[.bool a,.bool b,.bool c,.bool d]:=by
 obtain⟨xs,n,_,rfl,hl,hlen,hf⟩:=DataW.trod_struct Tryz.underlying347 h
 have hc4:Tryz.prog.cellsOf 347=4:=by kernel_rfl
 have hcb:Tryz.prog.cellsOf 4=1:=by kernel_rfl
 rw[hc4] at hl
 have hx4:xs.length=4:=hlen
 obtain⟨z0,z1,z2,z3,rfl⟩:=len4 hx4
 obtain⟨v0,v1,v2,v3,rfl⟩:=len4 hl
 ·
  simp only[List.map_cons,List.map_nil,DataW.agg.injEq,List.cons.injEq,and_true] at hy
  obtain⟨e0,e1,e2,e3⟩:=hy
  have f0:DataW.trod (fun _=>()) Tryz.prog W 0 (fun _=>true) false n 4 (List.take (Tryz.prog.cellsOf 4) (List.drop 0 [v0,v1,v2,v3]))=some z0:=hf 0 _ rfl
  rw[hcb,show List.take 1 (List.drop 0 [v0,v1,v2,v3])=[v0] from rfl] at f0
  have f1:DataW.trod (fun _=>()) Tryz.prog W 0 (fun _=>true) false n 4 (List.take (Tryz.prog.cellsOf 4) (List.drop 1 [v0,v1,v2,v3]))=some z1:=hf 1 _ rfl
  rw[hcb,show List.take 1 (List.drop 1 [v0,v1,v2,v3])=[v1] from rfl] at f1
  have f2:DataW.trod (fun _=>()) Tryz.prog W 0 (fun _=>true) false n 4 (List.take (Tryz.prog.cellsOf 4) (List.drop 2 [v0,v1,v2,v3]))=some z2:=hf 2 _ rfl
  rw[hcb,show List.take 1 (List.drop 2 [v0,v1,v2,v3])=[v2] from rfl] at f2
  have f3:DataW.trod (fun _=>()) Tryz.prog W 0 (fun _=>true) false n 4 (List.take (Tryz.prog.cellsOf 4) (List.drop 3 [v0,v1,v2,v3]))=some z3:=hf 3 _ rfl
  rw[hcb,show List.take 1 (List.drop 3 [v0,v1,v2,v3])=[v3] from rfl] at f3
  obtain⟨b0,h0,rfl⟩:=DataW.trod_bool Tryz.underlying4 f0
  obtain⟨b1,h1,rfl⟩:=DataW.trod_bool Tryz.underlying4 f1
  obtain⟨b2,h2,rfl⟩:=DataW.trod_bool Tryz.underlying4 f2
  obtain⟨b3,h3,rfl⟩:=DataW.trod_bool Tryz.underlying4 f3
  clear hf h
  simp only[List.cons.injEq,and_true] at h0 h1 h2 h3
  simp only[DataW.lit.injEq,Lit.bool.injEq] at e0 e1 e2 e3
  rw[h0,h1,h2,h3,e0,e1,e2,e3]
theorem used_of{W:World}{fuel:Nat}{cs:List Value}{p:List MemPlace}(h:DataW.trod (fun _=>()) Tryz.prog W 0 (fun _=>true) false fuel 348 cs=some (Rows.laid_reach_field_used,p)) :
    cs=[.bool false,.bool false,.bool false,.bool false,.bool true,.bool false,.bool false,.bool false,.bool true,.bool false,.bool true,.bool false,.bool true,.bool true,.bool false,.bool false,.bool false,.bool false,.bool false,.bool true]:=by
 obtain⟨xs,m,_,hx,hl,hxl,hf⟩:=DataW.trod_array Tryz.underlying348 h
 have hc:Tryz.prog.cellsOf 348=20:=by kernel_rfl
 have hc4:Tryz.prog.cellsOf 347=4:=by kernel_rfl
 rw[hc] at hl
 rw[hc4] at hf
 have hx1:=(Prod.mk.inj hx).1
 unfold Rows.laid_reach_field_used at hx1
 obtain⟨y0,y1,y2,y3,y4,rfl⟩:=len5 hxl
 obtain⟨v0,v1,v2,v3,v4,v5,v6,v7,v8,v9,v10,v11,v12,v13,v14,v15,v16,v17,v18,v19,rfl⟩:=len20 hl
 ·
  simp only[List.map_cons,List.map_nil,DataW.agg.injEq,List.cons.injEq,and_true] at hx1
  obtain⟨e0,e1,e2,e3,e4⟩:=hx1
  have g0:=st4 (hf 0 (by decide)) e0.symm
  have g1:=st4 (hf 1 (by decide)) e1.symm
  have g2:=st4 (hf 2 (by decide)) e2.symm
  have g3:=st4 (hf 3 (by decide)) e3.symm
  have g4:=st4 (hf 4 (by decide)) e4.symm
  simp at g0 g1 g2 g3 g4
  simp[g0,g1,g2,g3,g4]
theorem gl_of_gt{W:World}(h:GT W):GlOk W:=by
 refine⟨fun pp v hp=>?_,h⟩
 unfold glV at hp
 obtain⟨b,o,sp⟩:=pp
 cases sp with
 | some _=>cases hp
 | none=>
  dsimp only at hp
  cases hg:glD b with
  | none=>rw[hg] at hp;cases hp
  | some cs=>
   rw[hg] at hp
   dsimp only at hp
   obtain⟨_,a,c,hw⟩:=h b cs hg
   show W.cell? ⟨b,o,none⟩=some v
   simp only[World.cell?,hw]
   simpa using hp
theorem heap_of{W:World}{name:String}{g:Nat}{cs:Array Value}(hg:Tryz.prog.globalNamed name=some g)(h:W.var? Tryz.prog name=some cs):∃ a b,W.heap[g]? = some (.cells cs a b):=by
 simp only[World.var?,hg,Option.bind_some] at h
 split at h
 . rename_i cs' a b hh
   cases h
   exact⟨a,b,hh⟩
 . cases h
def VarIs(W:World)(name:String)(g:Nat):Prop:=∃ cs:Array Value,W.var? Tryz.prog name=some cs/\∃ ds,glD g=some ds/\cs.toList=ds.map valD
theorem gt_of{W:World}(h1:VarIs W "reach/field.used" 1)(h5:VarIs W "internal/strconv.uint64pow10" 5):GT W:=by
 have one:∀ name g,Tryz.prog.globalNamed name=some g → VarIs W name g → ∀ cs,glD g=some cs → ∃ a b,W.heap[g]? = some (.cells (cs.map valD).toArray a b):=by
  rintro name g hn ⟨cs,hv,ds,hd,he⟩ cs' hc
  rw[hd] at hc
  cases hc
  obtain⟨a,b,hh⟩:=heap_of hn hv
  exact⟨a,b,by rw[hh,← he]⟩
 intro g cs hg
 match g,hg with
 | 1,hg=>exact⟨by cases hg;simp,one _ 1 (by kernel_rfl) h1 cs hg⟩
 | 5,hg=>exact⟨by cases hg;simp,one _ 5 (by kernel_rfl) h5 cs hg⟩
 | 0,hg=>cases hg
 | 2,hg=>cases hg
 | 3,hg=>cases hg
 | 4,hg=>cases hg
 | n+6,hg=>cases hg
theorem type_of{name:String}{g:Nat}{t t':TypeId}(hg0:Tryz.prog.globalNamed name=some g)(ht0:(Tryz.prog.globals[g]?).map (·.type)=some t){g':Nat}(hg:Tryz.prog.globalNamed name=some g')(ht:(Tryz.prog.globals[g']?).map (·.type)=some t'):g'=g/\t'=t:=by
 obtain rfl:=Option.some.inj (hg0.symm.trans hg)
 exact⟨rfl,(Option.some.inj (ht0.symm.trans ht)).symm⟩
theorem glM{W:World}(h:laidMetH Tryz.prog Rows.modelNumbersUptoRow.laid W):GlOk W:=by
 rw[MakeChecks.laidMetH_plain _ _ _ (by kernel_rfl)] at h
 obtain⟨ps,⟨_,_,_,_,_,_,_,_,_,_,⟨_,_,_,_,_,_,_,_,_,_,⟨g5,t5,c5,f5,p5,q5,hg5,ht5,hv5,hd5,⟨_,_,_,_,_,_,_,_,_,_,⟨g1,t1,c1,f1,p1,q1,hg1,ht1,hv1,hd1,_,_⟩,_⟩,_⟩,_⟩,_⟩,_⟩:=h
 obtain⟨rfl,rfl⟩:=type_of (g:=5) (t:=410) (by kernel_rfl) (by kernel_rfl) hg5 ht5
 obtain⟨rfl,rfl⟩:=type_of (g:=1) (t:=348) (by kernel_rfl) (by kernel_rfl) hg1 ht1
 refine gl_of_gt (gt_of ⟨c1,hv1,_,rfl,?_⟩ ⟨c5,hv5,_,rfl,?_⟩)
 . exact used_of hd1
 . exact Lib.cells_of_tab (zs:=Lib.pow10Tab) Tryz.underlying410 Tryz.underlying134 (by kernel_rfl) (by kernel_rfl) hd5
end Go.Proofs.YtcglkonooeddfaaGreatDoor
