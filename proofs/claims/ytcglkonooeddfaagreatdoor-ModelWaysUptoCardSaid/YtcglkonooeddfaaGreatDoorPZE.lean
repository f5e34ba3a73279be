/- The walks and the plain laws that a law of networks needs, part 5 of 5. -/
import Derived.Test.YtcglkonooeddfaaGreatDoorPZD
import Derived.Test.YtcglkonooeddfaaGreatDoorRows
import Derived.ProofKit
import Derived.OpenShut
import Derived.LaidMore
import Derived.Lay
import Derived.Lib.LaidTab
set_option linter.unusedVariables false
set_option linter.unusedSimpArgs false
namespace Go.Proofs.YtcglkonooeddfaaGreatDoor
open Go Go.Vx
set_option maxRecDepth 100000 in
set_option maxHeartbeats 16000000 in
theorem medges_ok(c:Config)(hc:c.Ok)(ht:c.Tx)(h0:(checkO c.b).1=0) :
    FSpecH Tryz.prog T [] 41 [.agg c.row] (fun d rows M=>(d = .tup [.own 0 (egsF c.b).length,.i .i64 0]/\rows=[some (97,(egsF c.b).map Eg.row)])/\M=[]):=by
 have hck:=mcheck_at word_ok itoa_ok c hc ht
 rw[h0] at hck
 obtain⟨_,h1,h2,_,h4,_⟩:=check_parts h0
 have hpn:(fullsL c.b.boxes).length<=48:=by rw[fullsL_len];exact (count_ok h1).2.1
 have hlk:=(count_ok h1).2.2.1
 have hnum:=numbered_at c hc (tx_names ht) (by omega)
 have hpr:((plcs c.b.boxes).map plRow).length=(plcs c.b.boxes).length:=by simp
 have hll:(c.links.l.map Link.row).length=c.links.l.length:=by simp
 have hL:=hc.links
 have hpl:(plcs c.b.boxes).length=(fullsL c.b.boxes).length:=by rw[plcs_eq,List.length_map,<- prtsN_names 0,List.length_map]
 refine FSpecH.of_ok0 tok Tryz.func41 rfl Tryz.call41 (by simp) ?_
 (try (conv=>whnf));repeat' (first|(refine⟨_,_,_,_,_,mtIE,fun _ _=>?_⟩;conv=>whnf)|(refine Or.inr (Or.inl ?_);(conv=>whnf);(repeat (refine aI ?_;conv=>whnf));refine⟨_,hnum , ?_⟩;rintro _ _ _ ⟨gn,lst,cn,rfl,rfl,rfl,hnm,hwf,hky⟩<;>(conv=>whnf))|refine OkM.seq ?_|((first|refine OkM.region tok ?_|refine OkM.cond ?_);conv=>whnf)|refine OkM.block ?_|(refine OkM.skip ?_;conv=>whnf)|(refine Or.inl ?_;(conv=>whnf);refine Or.inl ?_;(conv=>whnf);(repeat (refine aI ?_;conv=>whnf));refine⟨_,hck,rfl,?_⟩;conv=>whnf)|(refine bI ?_ ?_<;>intro<;>(conv=>whnf)<;>(try (exfalso;omega)))|fail)
 rename_i gb hgb
 have hN:NumOk c.b lst:=⟨fulls_nodup h2,hnm,hky⟩
 have hat:∀ s,s ∈ fullsL c.b.boxes->∃ p:Prt,((plcs c.b.boxes).map plRow)[((lk lst s).getD 0).toNat]? = some (plRow (p.box,p.inn))/\boxAt c.b (plc (fullsL c.b.boxes) s)=(p.box:Int)/\(lk lst s).getD 0=plc (fullsL c.b.boxes) s/\0<=(lk lst s).getD 0/\(lk lst s).getD 0<((plcs c.b.boxes).length:Nat):=by
  intro s hs
  obtain⟨_,_,e1,_⟩:=hN.some hs
  obtain⟨p,hp,hb⟩:=boxAt_of hs
  obtain⟨g0,_⟩:=plc_at hs
  have g2:=plc_lt (fullsL c.b.boxes) s
  rw[e1]
  simp only[Option.getD_some]
  refine⟨p,?_,hb,trivial,g0,by omega⟩
  rw[plcs_eq,List.map_map,List.getElem?_map,hp]
  rfl
 refine OkM.loopU [6,7,8,32,33] [34] 1 1 (fun (x:Nat × List (Int × Eg × Nat) × Nat)=>[.i .i64 (x.1:Nat)]) (fun (x:Nat × List (Int × Eg × Nat) × Nat) (_:List (List D))=>[c.row]) (fun (x:Nat × List (Int × Eg × Nat) × Nat) (_:Vx.Rows)=>[some (160,(plcs c.b.boxes).map plRow)]) (fun (x:Nat × List (Int × Eg × Nat) × Nat)=>[(gb,mObj (D.i .i64) fE x.2.1 x.2.2),(gn,mObj D.s fI lst cn)]) (fun (x:Nat × List (Int × Eg × Nat) × Nat)=>x.1<=c.links.l.length/\∀ k,lk x.2.1 k=egLast c.b (c.b.links.take x.1) k) (fun (x:Nat × List (Int × Eg × Nat) × Nat)=>c.links.l.length - x.1) ((0,[],0)) (⟨Nat.zero_le _,fun k=>rfl⟩) (by first|exact .refl _|exact .cons _ (.refl _)|exact List.nil_sublist _) ?_;(conv=>whnf);refine⟨by ((conv=>whnf);first|rfl|(simp[envCat, List.take_of_length_le, SI.row, Node.row, Pfx.row, Link.row, srow, Line.row, Rule.row, Box.row, Slc.row, Config.row, plRow, Eg.row];done)|(simp[envCat, List.take_of_length_le, SI.row, Node.row, Pfx.row, Link.row, srow, Line.row, Rule.row, Box.row, Slc.row, Config.row, plRow, Eg.row];rw[IntKind.wrap_i64];omega)),?_⟩
 rintro⟨n,lb,cb⟩ ⟨hn,hlb⟩
 dsimp only at hn hlb ⊢
 (conv=>whnf)
 by_cases hlt:n<c.links.l.length
 . obtain⟨x,hx⟩:∃ x,c.links.l[n]? = some x:=⟨_,List.getElem?_eq_getElem hlt⟩
   have hxI:c.links.l[((n:Nat):Int).toNat]? = some x:=hx
   have hxr:(c.links.l.map Link.row)[((n:Nat):Int).toNat]? = some x.row:=by rw[List.getElem?_map,hxI];rfl
   obtain⟨hxf,hxt⟩:=link_known h4 (List.mem_of_getElem? hx)
   obtain⟨p,f1,f2,f3,f4,f5⟩:=hat x.frm hxf
   obtain⟨q,t1,t2,t3,t4,t5⟩:=hat x.dst hxt
   have heg:D.agg [.i .i64 (p.box:Nat),.i .i64 (q.box:Nat),.i .i64 x.cost,.i .i64 ((lk lst x.frm).getD 0)]=fE (some (egOf c.b x)):=by
    unfold fE egOf Eg.row
    simp only[Option.getD_some,f2,f3,t2]
   (try (conv=>whnf));repeat' (first|((first|refine⟨_,_,_,_,_,_,_,0,_,egOf c.b x,mtIE,rfl,rfl,heg,?_⟩|refine⟨_,_,_,_,_,_,_,_,mtSI,(by first|exact .head _|exact .tail _ (.head _)|exact .tail _ (.tail _ (.head _))|exact .tail _ (.tail _ (.tail _ (.head _)))|exact List.mem_append_left _ (by assumption)),rfl,?_⟩);conv=>whnf)|refine OkM.seq ?_|((first|refine OkM.region tok ?_|refine OkM.region_tree (id:=9) tok follows [(2,3,[]),(6,7,[])] (.q 0 (.q 1 (.q 2 (.q 4 (.q 5 (.q 6 (.alt 3 (.q 8 (.l 7 (.q 9 .nil))) (.alt 7 (.l 3 (.q 8 (.q 9 .nil))) .nil)))))))) (by kernel_rfl) ?_|refine OkM.region_tree (id:=10) tok follows [(6,16,[]),(11,16,[]),(13,16,[])] (.q 0 (.q 1 (.q 2 (.q 3 (.q 4 (.q 5 (.q 6 (.q 7 (.q 8 (.q 9 (.q 10 (.q 11 (.q 12 (.q 13 (.q 14 (.q 15 (.l 16 .nil))))))))))))))))) (by kernel_rfl) ?_|refine OkM.cond ?_);conv=>whnf)|refine OkM.block ?_|((first|refine OkM.skip ?_|refine nI ?_|refine ix _ (by assumption) ?_|refine⟨_,by assumption,?_⟩);conv=>whnf)|(refine bI ?_ ?_<;>intro<;>(conv=>whnf)<;>(try (exfalso;omega)))|(refine aJ ?_;conv=>whnf)|(exact True.intro)|(refine And.intro ?_ ?_<;>(conv=>whnf))|fail)
   all_goals
    refine⟨(n+1,(mput lb cb ((lk lst x.frm).getD 0) (egOf c.b x)).1,(mput lb cb ((lk lst x.frm).getD 0) (egOf c.b x)).2),by dsimp only;omega,⟨by dsimp only;omega,fun k=>?_⟩,List.Sublist.refl _,?_⟩
    . dsimp only
      rw[mput_lk,egLast_succ (l:=c.b.links) (x:=x) hx k,hlb,f3]
    . (conv=>whnf)
      rfl
 . obtain rfl:n=c.links.l.length:=by omega
   have htl:c.b.links.take c.links.l.length=c.b.links:=List.take_of_length_le (Nat.le_refl _)
   rw[htl] at hlb
   (try (conv=>whnf));repeat' (first|refine OkM.seq ?_|((first|refine OkM.region tok ?_|refine OkM.cond ?_);conv=>whnf)|refine OkM.block ?_|(refine OkM.exit ?_;conv=>whnf)|(refine bI ?_ ?_<;>intro<;>(conv=>whnf)<;>(try (exfalso;omega)))|fail)
   refine OkM.ghost 13 97 rfl ?_
   (conv=>whnf)
   have hel:∀ k:Nat,k<=(plcs c.b.boxes).length->(egsL c.b k).length<=2304:=fun k hk=>by have:=egsL_len (c:=c.b) hlk k;omega
   refine OkM.loopU [8,64] [13,65] 2 1 (fun (k:Nat)=>[.own 1 (egsL c.b k).length,.i .i64 (k:Nat)]) (fun (k:Nat) (_:List (List D))=>[c.row]) (fun (k:Nat) (_:Vx.Rows)=>[some (160,(plcs c.b.boxes).map plRow),some (97,(egsL c.b k).map Eg.row)]) (fun (k:Nat)=>[(gb,mObj (D.i .i64) fE lb cb),(gn,mObj D.s fI lst cn)]) (fun (k:Nat)=>k<=(plcs c.b.boxes).length) (fun (k:Nat)=>(plcs c.b.boxes).length - k) (0) (Nat.zero_le _) (by first|exact .refl _|exact .cons _ (.refl _)|exact List.nil_sublist _) ?_;(conv=>whnf);refine⟨by ((conv=>whnf);first|rfl|(simp[envCat, List.take_of_length_le, SI.row, Node.row, Pfx.row, Link.row, srow, Line.row, Rule.row, Box.row, Slc.row, Config.row, plRow, Eg.row];done)|(simp[envCat, List.take_of_length_le, SI.row, Node.row, Pfx.row, Link.row, srow, Line.row, Rule.row, Box.row, Slc.row, Config.row, plRow, Eg.row];rw[IntKind.wrap_i64];omega)),?_⟩
   rintro k hk
   (conv=>whnf)
   have hem:((egsL c.b k).map Eg.row).length=(egsL c.b k).length:=by simp
   have hek:=hel k hk
   by_cases hkl:k<(plcs c.b.boxes).length
   . have hlbk:=hlb k
     cases he:egLast c.b c.b.links k with
     | none=>
      rw[he] at hlbk
      have hes:egsL c.b (k+1)=egsL c.b k:=by rw[egsL_succ,egAt_last h4,he];simp
      (try (conv=>whnf));repeat' (first|(refine⟨_,_,_,_,_,_,_,_,mtIE,(by first|exact .head _|exact .tail _ (.head _)|exact .tail _ (.tail _ (.head _))|exact .tail _ (.tail _ (.tail _ (.head _)))|exact List.mem_append_left _ (by assumption)),rfl,?_⟩;conv=>whnf)|refine OkM.seq ?_|((first|refine OkM.region tok ?_|refine OkM.cond ?_);conv=>whnf)|refine OkM.block ?_|((first|refine OkM.skip ?_|refine nI ?_|refine Alt2.l (aI ?_)|refine⟨_,.inl ⟨rfl,rfl⟩,?_⟩|refine⟨_,_,rfl,rfl,?_⟩);conv=>whnf)|(refine bI ?_ ?_<;>intro<;>(conv=>whnf)<;>(try (exfalso;omega)))|(refine aJ ?_;conv=>whnf)|fail)
      all_goals first
       | (exfalso;rename_i hx;rw[hlbk] at hx;cases hx;done)
       | (refine⟨k+1,by omega,by omega,List.Sublist.refl _,?_⟩
          rw[hes]
          (conv=>whnf)
          rfl)
     | some e=>
      rw[he] at hlbk
      have hes:egsL c.b (k+1)=egsL c.b k++[e]:=by rw[egsL_succ,egAt_last h4,he];simp
      (try (conv=>whnf));repeat' (first|(refine⟨_,_,_,_,_,_,_,_,mtIE,(by first|exact .head _|exact .tail _ (.head _)|exact .tail _ (.tail _ (.head _))|exact .tail _ (.tail _ (.tail _ (.head _)))|exact List.mem_append_left _ (by assumption)),rfl,?_⟩;conv=>whnf)|refine OkM.seq ?_|((first|refine OkM.region tok ?_|refine OkM.cond ?_);conv=>whnf)|refine OkM.block ?_|((first|refine OkM.skip ?_|refine nI ?_|refine Alt2.l (aI ?_)|refine⟨_,.inl ⟨rfl,rfl⟩,?_⟩|refine⟨_,_,rfl,rfl,?_⟩);conv=>whnf)|(refine bI ?_ ?_<;>intro<;>(conv=>whnf)<;>(try (exfalso;omega)))|(refine aJ ?_;conv=>whnf)|fail)
      all_goals first
       | (exfalso;rename_i hx;exact hx (by rw[hlbk];rfl))
       | (refine⟨k+1,by omega,by omega,List.Sublist.refl _,?_⟩
          rw[hes,hlbk]
          (conv=>whnf);(first|rfl|simp[envCat, List.take_of_length_le, SI.row, Node.row, Pfx.row, Link.row, srow, Line.row, Rule.row, Box.row, Slc.row, Config.row, plRow, Eg.row])
          done)
   . obtain rfl:k=(plcs c.b.boxes).length:=by omega
     (try (conv=>whnf));repeat' (first|refine OkM.seq ?_|((first|refine OkM.region tok ?_|refine OkM.cond ?_|refine OkM.exit ?_|refine OkM.ret ?_);conv=>whnf)|(refine bI ?_ ?_<;>intro<;>(conv=>whnf)<;>(try (exfalso;omega)))|fail)
     refine Or.inr (Or.inl ?_);(conv=>whnf)
     refine⟨?_,?_⟩<;>(rw[hpl];rfl)
theorem medges_bad(c:Config)(hc:c.Ok)(ht:c.Tx)(h0:(checkO c.b).1 ≠ 0) :
    FSpec Tryz.prog T 41 [.agg c.row] (fun d rows=>d = .tup [.lst 97 [] [],.i .i64 (checkO c.b).1]/\rows=[]):=by
 have hck:=mcheck_at word_ok itoa_ok c hc ht
 refine FSpec.of_ok tok Tryz.func41 rfl Tryz.call41 (by simp) ?_
 (try (conv=>whnf));repeat' (first|refine Ok.seq ?_|((first|refine Ok.region tok ?_|refine Ok.cond ?_|refine Ok.ret ?_);conv=>whnf)|(refine Or.inl ?_;(conv=>whnf);(repeat (refine aI ?_;conv=>whnf));refine⟨_,hck,rfl,?_⟩;conv=>whnf)|(refine bI ?_ ?_<;>intro<;>(conv=>whnf)<;>(try (exfalso;omega)))|fail)
 all_goals first
  | (exact absurd h0 (by assumption))
  | (refine Or.inl ?_;(conv=>whnf)
     exact⟨rfl,rfl⟩)
end Go.Proofs.YtcglkonooeddfaaGreatDoor
namespace Go.Proofs.YtcglkonooeddfaaGreatDoor
open Go Go.Vx
theorem lkAt_one{c:ConfigB}(h:(linkO c).1=0){x:Link}(hx:x ∈ c.links):lkAt c c.links (plc (fullsL c.boxes) x.frm)=[x]:=by
 have h1:(lkAt c c.links (plc (fullsL c.boxes) x.frm)).Pairwise fun x y=>plc (fullsL c.boxes) x.frm ≠ plc (fullsL c.boxes) y.frm:=(link_pair h).filter _
 have h2:∀ y ∈ lkAt c c.links (plc (fullsL c.boxes) x.frm),plc (fullsL c.boxes) y.frm=plc (fullsL c.boxes) x.frm:=fun y hy=>by simpa using (List.mem_filter.1 hy).2
 have h3:x ∈ lkAt c c.links (plc (fullsL c.boxes) x.frm):=List.mem_filter.2 ⟨hx,by simp⟩
 generalize lkAt c c.links (plc (fullsL c.boxes) x.frm)=l at h1 h2 h3
 match l with
 | []=>cases h3
 | [y]=>rw[List.mem_singleton.1 h3]
 | y :: z :: l=>exact absurd ((h2 y (by simp)).trans (h2 z (by simp)).symm) ((List.pairwise_cons.1 h1).1 z (by simp))
theorem filter_lt{α:Type}(f:α->Int)(n:Int):∀ l:List α,(l.filter fun x=>decide (f x<n+1)).length=(l.filter fun x=>decide (f x<n)).length+(l.filter fun x=>decide (f x=n)).length
 | []=>rfl
 | x :: l=>by
  have ih:=filter_lt f n l
  simp only[List.filter_cons]
  by_cases h1:f x<n
  . rw[if_pos (by simpa using by omega),if_pos (by simpa using h1),if_neg (by simpa using by omega)]
    simp only[List.length_cons]
    omega
  . by_cases h2:f x=n
    . rw[if_pos (by simpa using by omega),if_neg (by simpa using by omega),if_pos (by simpa using h2)]
      simp only[List.length_cons]
      omega
    . rw[if_neg (by simpa using by omega),if_neg (by simpa using by omega),if_neg (by simpa using h2)]
      exact ih
theorem egsL_count{c:ConfigB}(h:∀ x ∈ c.links,0<=plc (fullsL c.boxes) x.frm):∀ n:Nat,(egsL c n).length=(c.links.filter fun x=>decide (plc (fullsL c.boxes) x.frm<n)).length
 | 0=>by
  rw[show (c.links.filter fun x=>decide (plc (fullsL c.boxes) x.frm<(0:Nat)))=[] from List.filter_eq_nil_iff.2 fun x hx=>by have:=h x hx;simp;omega]
  rfl
 | n+1=>by
  rw[egsL_succ,List.length_append,egsL_count h n]
  have:=filter_lt (fun x:Link=>plc (fullsL c.boxes) x.frm) n c.links
  simp only[egAt,lkAt,List.length_map]
  rw[<- this]
  rfl
theorem egsF_len{c:ConfigB}(h:(linkO c).1=0):(egsF c).length=c.links.length:=by
 unfold egsF
 rw[egsL_count fun x hx=>(plc_at (link_known h hx).1).1,List.filter_eq_self.2]
 intro x hx
 have:=plc_lt (fullsL c.boxes) x.frm
 simpa using this
theorem egsL_mem{c:ConfigB}{e:Eg}{n:Nat}(h:e ∈ egsL c n):∃ x ∈ c.links,e=egOf c x/\e.out<n:=by
 simp only[egsL,List.mem_flatMap,List.mem_range,egAt,lkAt,List.mem_map,List.mem_filter,decide_eq_true_eq] at h
 obtain⟨i,hi,x,⟨hx,hp⟩,rfl⟩:=h
 refine⟨x,hx,rfl,?_⟩
 show plc (fullsL c.boxes) x.frm<n
 omega
theorem egsL_sorted{c:ConfigB}(h:(linkO c).1=0):∀ n:Nat,(egsL c n).Pairwise fun a b=>a.out<b.out
 | 0=>List.Pairwise.nil
 | n+1=>by
  rw[egsL_succ,List.pairwise_append]
  refine⟨egsL_sorted h n,?_,fun a ha b hb=>?_⟩
  . rw[egAt_last h]
    cases egLast c c.links n<;>simp
  . obtain⟨_,_,_,h1⟩:=egsL_mem ha
    simp only[egAt,lkAt,List.mem_map,List.mem_filter,decide_eq_true_eq] at hb
    obtain⟨x,⟨_,hp⟩,rfl⟩:=hb
    show a.out<plc (fullsL c.boxes) x.frm
    omega
theorem egsF_lt{c:ConfigB}(h:(linkO c).1=0){i j:Nat}{a b:Eg}(hij:i<j)(ha:(egsF c)[i]? = some a)(hb:(egsF c)[j]? = some b):a.out<b.out:=by
 obtain⟨hi,rfl⟩:=List.getElem?_eq_some_iff.1 ha
 obtain⟨hj,rfl⟩:=List.getElem?_eq_some_iff.1 hb
 exact List.pairwise_iff_getElem.1 (egsL_sorted h _) i j hi hj hij
def costOf(c:ConfigB)(l:List Link)(k:Int):Int:=(((lkAt c l k).getLast?).map fun x=>x.cost).getD 0
theorem costOf_succ{c:ConfigB}{l:List Link}{i:Nat}{x:Link}(h:l[i]? = some x)(k:Int):costOf c (l.take (i+1)) k=if plc (fullsL c.boxes) x.frm=k then x.cost else costOf c (l.take i) k:=by
 unfold costOf
 rw[lkAt_succ h]
 by_cases hk:plc (fullsL c.boxes) x.frm=k
 . rw[if_pos hk,if_pos hk]
   simp
 . rw[if_neg hk,if_neg hk,List.append_nil]
theorem link_cost{c:ConfigB}(h:(linkO c).1=0){x:Link}(hx:x ∈ c.links):1<=x.cost:=by
 obtain⟨k,hk⟩:=List.getElem?_of_mem hx
 have h1:=firstE_zero h k x hk
 by_cases e1:sidesI [x.frm] (fullOut c) (fullIn c) ≠ 0
 . rw[linkE_frm e1] at h1;exact absurd h1 e1
 by_cases e2:sidesI [x.dst] (fullIn c) (fullOut c) ≠ 0
 . rw[linkE_to e1 e2] at h1;exact absurd h1 e2
 by_cases e3:x.cost<1\/9999<x.cost
 . rw[linkE_cost e1 e2 e3] at h1;cases h1
 . omega
theorem edge_ports{c:ConfigB}(h2:(nameO c).1=0)(h4:(linkO c).1=0){i:Nat}{e:Eg}(he:(egsF c)[i]? = some e):∃ (x:Link) (n m:Nat) (p q:Prt),x ∈ c.links/\e=⟨p.box,q.box,x.cost,n⟩/\plc (fullsL c.boxes) x.frm=n /\
    n<(prtsF c).length/\m<(prtsF c).length/\(prtsF c)[n]? = some ⟨x.frm,p.box,p.inn,m⟩/\(prtsF c)[m]? = some q/\costOf c c.links n=x.cost:=by
 obtain⟨x,hx,rfl,_⟩:=egsL_mem (List.mem_of_getElem? he)
 obtain⟨hf,ht⟩:=link_known h4 hx
 obtain⟨p,hp,hpb⟩:=boxAt_of hf
 obtain⟨q,hq,hqb⟩:=boxAt_of ht
 have hnd:=fulls_nodup h2
 have h0:=(plc_at hf).1
 have h1:=(plc_at ht).1
 have h3:=plc_lt (fullsL c.boxes) x.frm
 have h5:=plc_lt (fullsL c.boxes) x.dst
 have hl:(prtsF c).length=(fullsL c.boxes).length:=prtsW_len _ _
 have hone:=lkAt_one h4 hx
 have hpn:p.name=x.frm:=by
  have g:=congrArg (fun l=>l[(plc (fullsL c.boxes) x.frm).toNat]?) (prtsN_names 0 c.boxes)
  simp only[List.getElem?_map,hp,(plc_at hf).2] at g
  exact Option.some.inj g
 refine⟨x,(plc (fullsL c.boxes) x.frm).toNat,(plc (fullsL c.boxes) x.dst).toNat,p,⟨q.name,q.box,q.inn,dstOf c c.links ((plc (fullsL c.boxes) x.dst).toNat:Nat)⟩,hx,?_,by omega,by omega,by omega,?_,?_,?_⟩
 . unfold egOf
   rw[hpb,hqb,Int.toNat_of_nonneg h0]
 . rw[prtsF_get h4,hp,Int.toNat_of_nonneg h0,Int.toNat_of_nonneg h1]
   unfold dstOf
   rw[hone,<- hpn]
   rfl
 . rw[prtsF_get h4,hq]
   rfl
 . rw[Int.toNat_of_nonneg h0]
   unfold costOf
   rw[hone]
   rfl
end Go.Proofs.YtcglkonooeddfaaGreatDoor
namespace Go.Proofs.YtcglkonooeddfaaGreatDoor
open Go Go.Vx
set_option maxRecDepth 100000 in
set_option maxHeartbeats 16000000 in
theorem mways_ok(c:Config)(hc:c.Ok)(ht:c.Tx)(h0:(checkO c.b).1=0):FSpec Tryz.prog T 10 [.agg c.row] (fun d _=>d = .b True):=by
 have r0:=FSpecH.nil ((medges_ok c hc ht h0).mono fun _ _ _ h=>h.1)
 have r1:=FSpecH.nil ((mports_ok c hc ht h0).mono fun _ _ _ h=>h.1)
 have r2:=mright_tt c hc ht h0
 obtain⟨_,h1,h2,_,h4,_⟩:=check_parts h0
 have hlk2:c.links.l.length<=48:=(count_ok h1).2.2.1
 have hll:(c.links.l.map Link.row).length=c.links.l.length:=by simp
 have hfl:(prtsF c.b).length=(fullsL c.b.boxes).length:=prtsW_len _ _
 have hpn:(fullsL c.b.boxes).length<=48:=by rw[fullsL_len];exact (count_ok h1).2.1
 have hml:((prtsF c.b).map Prt.row).length=(prtsF c.b).length:=by simp
 have hel:(egsF c.b).length=c.links.l.length:=egsF_len h4
 have hem:((egsF c.b).map Eg.row).length=(egsF c.b).length:=by simp
 have hed:=fun {i:Nat} {e:Eg} (he:(egsF c.b)[i]? = some e)=>edge_ports h2 h4 he
 have hso:=fun {i j:Nat} {a b:Eg} (hij:i<j) (ha:(egsF c.b)[i]? = some a) (hb:(egsF c.b)[j]? = some b)=>egsF_lt h4 hij ha hb
 obtain⟨P,hP⟩:∃ P,P=prtsF c.b:=⟨_,rfl⟩
 obtain⟨E,hE⟩:∃ E,E=egsF c.b:=⟨_,rfl⟩
 rw[<- hP] at r1 hml hfl
 rw[<- hE] at r0 hel hem
 simp only[<- hE] at hed hso
 simp only[<- hP] at hed
 refine FSpec.of_ok tok Tryz.func10 rfl Tryz.call10 (by simp) ?_
 (try (conv=>whnf));repeat' (first|refine Ok.seq ?_|((first|refine Ok.region tok ?_|refine Ok.cond ?_);conv=>whnf)|refine Ok.block ?_|(refine Ok.skip ?_;conv=>whnf)|(refine Or.inl ?_;(conv=>whnf);(repeat (refine aI ?_;conv=>whnf));refine⟨_,r2,rfl,?_⟩;conv=>whnf)|(refine Or.inl ?_;(conv=>whnf);(repeat (refine aI ?_;conv=>whnf));refine⟨_,munum_at 0,rfl,?_⟩;conv=>whnf)|(refine Or.inr (Or.inr (Or.inr (Or.inl ?_)));(conv=>whnf);(repeat (refine aI ?_;conv=>whnf));refine⟨_,r0,?_⟩;rintro _ _ ⟨rfl,rfl⟩<;>(refine And.intro (by simp[gRowsP, grounds, D.ground, SI.row, Node.row, Pfx.row, Link.row, srow, Line.row, Rule.row, Box.row, Slc.row, Config.row, Prt.row, Eg.row]) ?_;conv=>whnf))|(refine Or.inr (Or.inr (Or.inr (Or.inl ?_)));(conv=>whnf);(repeat (refine aI ?_;conv=>whnf));refine⟨_,r1,?_⟩;rintro _ _ ⟨rfl,rfl⟩<;>(refine And.intro (by simp[gRowsP, grounds, D.ground, SI.row, Node.row, Pfx.row, Link.row, srow, Line.row, Rule.row, Box.row, Slc.row, Config.row, Prt.row, Eg.row]) ?_;conv=>whnf))|(refine bI ?_ ?_<;>intro<;>(conv=>whnf)<;>(try (exfalso;omega)))|fail)
 all_goals first
  | exact absurd rfl (by assumption)
  | (exfalso;omega)
  | skip
 refine Ok.loopU [1,3,5] [7] 2 1 (fun (i:Nat)=>[.i .i64 (i:Nat)]) (fun (i:Nat) (_:List (List D))=>[c.row]) (fun (i:Nat) (_:Vx.Rows)=>[some (97,E.map Eg.row),some (89,P.map Prt.row)]) (fun (i:Nat)=>i<=E.length) (fun (i:Nat)=>E.length - i) (0) (Nat.zero_le _) ?_;(conv=>whnf);refine⟨by ((conv=>whnf);first|rfl|(simp[envCat, List.take_of_length_le, SI.row, Node.row, Pfx.row, Link.row, srow, Line.row, Rule.row, Box.row, Slc.row, Config.row, Prt.row, Eg.row];done)|(simp[envCat, List.take_of_length_le, SI.row, Node.row, Pfx.row, Link.row, srow, Line.row, Rule.row, Box.row, Slc.row, Config.row, Prt.row, Eg.row];rw[IntKind.wrap_i64];omega)),?_⟩
 rintro i hi
 (conv=>whnf)
 by_cases hil:i<E.length
 . obtain⟨e,he⟩:∃ e,E[i]? = some e:=⟨_,List.getElem?_eq_getElem hil⟩
   obtain⟨x,n,m,p,q,hx,hee,hxn,hn,hm,hPn,hPm,hco⟩:=hed he
   have hcost:=link_cost h4 hx
   have her:(E.map Eg.row)[((i:Nat):Int).toNat]? = some [.i .i64 (p.box:Nat),.i .i64 (q.box:Nat),.i .i64 x.cost,.i .i64 (n:Nat)]:=by
    show (E.map Eg.row)[i]? = _
    rw[List.getElem?_map,he,hee]
    rfl
   have hpr:(P.map Prt.row)[((n:Nat):Int).toNat]? = some [.s x.frm,.i .i64 (p.box:Nat),.b p.inn,.i .i64 (m:Nat)]:=by
    show (P.map Prt.row)[n]? = _
    rw[List.getElem?_map,hPn]
    rfl
   have hqr:(P.map Prt.row)[((m:Nat):Int).toNat]? = some [.s q.name,.i .i64 (q.box:Nat),.b q.inn,.i .i64 q.dst]:=by
    show (P.map Prt.row)[m]? = _
    rw[List.getElem?_map,hPm]
    rfl
   obtain⟨e',o,hor,hoo⟩:∃ (e':Eg) (o:Int),(0<i->(E.map Eg.row)[(((i:Nat):Int) - 1).toNat]? = some [.i .i64 e'.frm,.i .i64 e'.dst,.i .i64 e'.cost,.i .i64 o])/\(0<i->o<(n:Nat)):=by
    by_cases h:0<i
    . obtain⟨a,ha⟩:∃ a,E[i - 1]? = some a:=⟨_,List.getElem?_eq_getElem (by omega)⟩
      refine⟨a,a.out,fun _=>?_,fun _=>?_⟩
      . rw[show (((i:Nat):Int) - 1).toNat=i - 1 by omega,List.getElem?_map,ha]
        rfl
      . have:=hso (by omega) ha he
        rw[hee] at this
        exact this
    . exact⟨e,0,fun g=>absurd g h,fun g=>absurd g h⟩
   clear he hPn hPm hee
   by_cases h0i:0<i
   all_goals
    try have hor2:=hor h0i
    try have hoo2:=hoo h0i
   (try (conv=>whnf));repeat' (first|refine Ok.seq ?_|((first|refine Ok.region tok ?_|refine Ok.region_draw tok follows (by kernel_rfl) ?_|refine Ok.cond ?_);conv=>whnf)|refine Ok.block ?_|((first|refine Ok.skip ?_|refine nI ?_|refine⟨_,by assumption,?_⟩);conv=>whnf)|(refine bI ?_ ?_<;>intro<;>(conv=>whnf)<;>(try (exfalso;omega)))|(refine aJ ?_;conv=>whnf)|fail)
   all_goals
    refine Ok.loopU [1,3,5,7,8] [9,10] 2 1 (fun (j:Nat)=>[.i .i64 (costOf c.b (c.b.links.take j) (n:Nat)),.i .i64 (j:Nat)]) (fun (j:Nat) (_:List (List D))=>[c.row]) (fun (j:Nat) (_:Vx.Rows)=>[some (97,E.map Eg.row),some (89,P.map Prt.row)]) (fun (j:Nat)=>j<=c.links.l.length) (fun (j:Nat)=>c.links.l.length - j) (0) (Nat.zero_le _) ?_;(conv=>whnf);refine⟨by ((conv=>whnf);first|rfl|(simp[envCat, List.take_of_length_le, SI.row, Node.row, Pfx.row, Link.row, srow, Line.row, Rule.row, Box.row, Slc.row, Config.row, Prt.row, Eg.row];done)|(simp[envCat, List.take_of_length_le, SI.row, Node.row, Pfx.row, Link.row, srow, Line.row, Rule.row, Box.row, Slc.row, Config.row, Prt.row, Eg.row];rw[IntKind.wrap_i64];omega)),?_⟩
    rintro j hj
    (conv=>whnf)
    by_cases hjl:j<c.links.l.length
    . obtain⟨y,hy⟩:∃ y,c.links.l[j]? = some y:=⟨_,List.getElem?_eq_getElem hjl⟩
      have hyI:c.links.l[((j:Nat):Int).toNat]? = some y:=hy
      have hyr:(c.links.l.map Link.row)[((j:Nat):Int).toNat]? = some y.row:=by rw[List.getElem?_map,hyI];rfl
      obtain⟨hyf,_⟩:=link_known h4 (List.mem_of_getElem? hy)
      have hsu:=costOf_succ (c:=c.b) (l:=c.b.links) (x:=y) hy (n:Nat)
      have hiff:y.frm=x.frm ↔ plc (fullsL c.b.boxes) y.frm=(n:Nat):=by
       constructor
       . intro e
         rw[e,hxn]
       . intro e
         obtain⟨_,g1⟩:=plc_at hyf
         obtain⟨_,g2⟩:=plc_at (link_known h4 hx).1
         rw[e] at g1
         rw[hxn,g1] at g2
         exact Option.some.inj g2
      by_cases he:y.frm=x.frm
      . rw[if_pos (hiff.1 he)] at hsu
        (try (conv=>whnf));repeat' (first|refine Ok.seq ?_|((first|refine Ok.region tok ?_|refine Ok.region_draw tok follows (by kernel_rfl) ?_|refine Ok.cond ?_);conv=>whnf)|refine Ok.block ?_|((first|refine Ok.skip ?_|refine nI ?_|refine ix _ (by assumption) ?_|refine⟨_,by assumption,?_⟩);conv=>whnf)|(refine bI ?_ ?_<;>intro<;>(conv=>whnf)<;>(try (exfalso;omega)))|(refine aJ ?_;conv=>whnf)|fail)
        all_goals first
         | exact absurd he (by assumption)
         | (refine⟨j+1,by omega,by omega,?_⟩
            rw[hsu]
            (conv=>whnf)
            rfl)
      . rw[if_neg (fun h=>he (hiff.2 h))] at hsu
        (try (conv=>whnf));repeat' (first|refine Ok.seq ?_|((first|refine Ok.region tok ?_|refine Ok.region_draw tok follows (by kernel_rfl) ?_|refine Ok.cond ?_);conv=>whnf)|refine Ok.block ?_|((first|refine Ok.skip ?_|refine nI ?_|refine ix _ (by assumption) ?_|refine⟨_,by assumption,?_⟩);conv=>whnf)|(refine bI ?_ ?_<;>intro<;>(conv=>whnf)<;>(try (exfalso;omega)))|(refine aJ ?_;conv=>whnf)|fail)
        all_goals first
         | exact absurd (by assumption) he
         | (refine⟨j+1,by omega,by omega,?_⟩
            rw[hsu]
            (conv=>whnf)
            rfl)
    . obtain rfl:j=c.links.l.length:=by omega
      have htl2:c.b.links.take c.links.l.length=c.b.links:=List.take_of_length_le (Nat.le_refl _)
      rw[htl2,hco]
      (conv=>whnf)
      (try (conv=>whnf));repeat' (first|refine Ok.seq ?_|((first|refine Ok.region tok ?_|refine Ok.cond ?_|refine Ok.skip ?_|refine Ok.exit ?_|refine nI ?_|refine⟨_,by assumption,?_⟩);conv=>whnf)|(refine bI ?_ ?_<;>intro<;>(conv=>whnf)<;>(try (exfalso;omega)))|(refine aJ ?_;conv=>whnf)|fail)
      all_goals first
       | exact absurd rfl (by assumption)
       | (exfalso;omega)
       | (refine⟨i+1,by omega,by omega,?_⟩
          (conv=>whnf)
          rfl)
 . (try (conv=>whnf));repeat' (first|refine Ok.seq ?_|((first|refine Ok.region tok ?_|refine Ok.cond ?_|refine Ok.exit ?_|refine Ok.ret ?_);conv=>whnf)|(refine Or.inl ?_;(conv=>whnf);(repeat (refine aI ?_;conv=>whnf));refine⟨_,mknown_at,rfl,?_⟩;conv=>whnf)|(refine bI ?_ ?_<;>intro<;>(conv=>whnf)<;>(try (exfalso;omega)))|fail)
   refine Or.inl ?_;(conv=>whnf)
   rfl
theorem mways_law(c:Config)(hc:c.Ok)(ht:c.Tx):FSpec Tryz.prog T 10 [.agg c.row] (fun d _=>d = .b True):=by
 by_cases h0:(checkO c.b).1=0
 . exact mways_ok c hc ht h0
 have r1:=medges_bad c hc ht h0
 have r2:=mright_ff c hc ht h0
 refine FSpec.of_ok tok Tryz.func10 rfl Tryz.call10 (by simp) ?_
 (try (conv=>whnf));repeat' (first|refine Ok.seq ?_|((first|refine Ok.region tok ?_|refine Ok.cond ?_|refine Ok.ret ?_);conv=>whnf)|(refine Or.inl ?_;(conv=>whnf);(repeat (refine aI ?_;conv=>whnf));refine⟨_,r2,rfl,?_⟩;conv=>whnf)|(refine Or.inl ?_;(conv=>whnf);(repeat (refine aI ?_;conv=>whnf));refine⟨_,munum_at (checkO c.b).1,rfl,?_⟩;conv=>whnf)|(refine Or.inl ?_;(conv=>whnf);(repeat (refine aI ?_;conv=>whnf));refine⟨_,mknown_at,rfl,?_⟩;conv=>whnf)|(refine Or.inr (Or.inl ?_);(conv=>whnf);(repeat (refine aI ?_;conv=>whnf));refine⟨_,r1,?_⟩;rintro _ _ ⟨rfl,rfl⟩<;>(conv=>whnf))|(refine bI ?_ ?_<;>intro<;>(conv=>whnf)<;>(try (exfalso;omega)))|fail)
 all_goals first
  | exact absurd (by assumption) h0
  | exact absurd h0 (by assumption)
  | exact absurd rfl (by assumption)
  | (refine Or.inl ?_;(conv=>whnf)
     rfl)
theorem modelWays_ats:∃ ls,shapes T 9 [27]=some ls/\∀ xs,TyAs T 1048576 [27] ls xs->FSpec Tryz.prog T 10 xs (fun d _=>d = .b True):=by
 refine⟨_,rfl,fun xs h=>?_⟩
 obtain⟨_,_,rfl,h0,h⟩:=as_cons h
 obtain rfl:=as_nil h
 obtain⟨r0,rfl,g0⟩:=agg_of h0 rfl
 obtain⟨c,rfl,hc,ht⟩:=config_of g0
 exact mways_law c hc ht
end Go.Proofs.YtcglkonooeddfaaGreatDoor
namespace Go.Proofs.YtcglkonooeddfaaGreatDoor
open Go Go.Vx
theorem len4{α:Type}{l:List α}(h:l.length=4):∃ a b c d,l=[a,b,c,d]:=match l,h with|[a,b,c,d],_=>⟨a,b,c,d,rfl⟩
theorem len5{α:Type}{l:List α}(h:l.length=5):∃ a b c d e,l=[a,b,c,d,e]:=match l,h with|[a,b,c,d,e],_=>⟨a,b,c,d,e,rfl⟩
theorem len20{α:Type}{l:List α}(h:l.length=20):∃ v0 v1 v2 v3 v4 v5 v6 v7 v8 v9 v10 v11 v12 v13 v14 v15 v16 v17 v18 v19,l=[v0,v1,v2,v3,v4,v5,v6,v7,v8,v9,v10,v11,v12,v13,v14,v15,v16,v17,v18,v19]:=match l,h with|[v0,v1,v2,v3,v4,v5,v6,v7,v8,v9,v10,v11,v12,v13,v14,v15,v16,v17,v18,v19],_=>⟨v0,v1,v2,v3,v4,v5,v6,v7,v8,v9,v10,v11,v12,v13,v14,v15,v16,v17,v18,v19,rfl⟩
theorem st4{W:World}{fuel:Nat}{cs:List Value}{y:DataW Unit × List MemPlace}{a b c d:Bool}(h:DataW.trod (fun _=>()) Tryz.prog W 0 (fun _=>true) false fuel 347 cs=some y)
    (hy:y.1 = .agg [.lit (.bool a),.lit (.bool b),.lit (.bool c),.lit (.bool d)]):cs=[.bool a,.bool b,.bool c,.bool d]:=by
 obtain⟨xs,n,_,rfl,hl,hlen,hf⟩:=DataW.trod_struct Tryz.underlying347 h
 have hc4:Tryz.prog.cellsOf 347=4:=by kernel_rfl
 have hcb:Tryz.prog.cellsOf 4=1:=by kernel_rfl
 rw[hc4] at hl
 have hx4:xs.length=4:=hlen
 obtain⟨z0,z1,z2,z3,rfl⟩:=len4 hx4
 obtain⟨v0,v1,v2,v3,rfl⟩:=len4 hl
 ·
  simp only[List.map_cons,List.map_nil,DataW.agg.injEq,List.cons.injEq,and_true] at hy
  obtain⟨e0,e1,e2,e3⟩:=hy
  have f0:DataW.trod (fun _=>()) Tryz.prog W 0 (fun _=>true) false n 4 (List.take (Tryz.prog.cellsOf 4) (List.drop 0 [v0,v1,v2,v3]))=some z0:=hf 0 _ rfl
  rw[hcb,show List.take 1 (List.drop 0 [v0,v1,v2,v3])=[v0] from rfl] at f0
  have f1:DataW.trod (fun _=>()) Tryz.prog W 0 (fun _=>true) false n 4 (List.take (Tryz.prog.cellsOf 4) (List.drop 1 [v0,v1,v2,v3]))=some z1:=hf 1 _ rfl
  rw[hcb,show List.take 1 (List.drop 1 [v0,v1,v2,v3])=[v1] from rfl] at f1
  have f2:DataW.trod (fun _=>()) Tryz.prog W 0 (fun _=>true) false n 4 (List.take (Tryz.prog.cellsOf 4) (List.drop 2 [v0,v1,v2,v3]))=some z2:=hf 2 _ rfl
  rw[hcb,show List.take 1 (List.drop 2 [v0,v1,v2,v3])=[v2] from rfl] at f2
  have f3:DataW.trod (fun _=>()) Tryz.prog W 0 (fun _=>true) false n 4 (List.take (Tryz.prog.cellsOf 4) (List.drop 3 [v0,v1,v2,v3]))=some z3:=hf 3 _ rfl
  rw[hcb,show List.take 1 (List.drop 3 [v0,v1,v2,v3])=[v3] from rfl] at f3
  obtain⟨b0,h0,rfl⟩:=DataW.trod_bool Tryz.underlying4 f0
  obtain⟨b1,h1,rfl⟩:=DataW.trod_bool Tryz.underlying4 f1
  obtain⟨b2,h2,rfl⟩:=DataW.trod_bool Tryz.underlying4 f2
  obtain⟨b3,h3,rfl⟩:=DataW.trod_bool Tryz.underlying4 f3
  clear hf h
  simp only[List.cons.injEq,and_true] at h0 h1 h2 h3
  simp only[DataW.lit.injEq,Lit.bool.injEq] at e0 e1 e2 e3
  rw[h0,h1,h2,h3,e0,e1,e2,e3]
theorem used_of{W:World}{fuel:Nat}{cs:List Value}{p:List MemPlace}(h:DataW.trod (fun _=>()) Tryz.prog W 0 (fun _=>true) false fuel 348 cs=some (Rows.laid_reach_field_used,p)) :
    cs=[.bool false,.bool false,.bool false,.bool false,.bool true,.bool false,.bool false,.bool false,.bool true,.bool false,.bool true,.bool false,.bool true,.bool true,.bool false,.bool false,.bool false,.bool false,.bool false,.bool true]:=by
 obtain⟨xs,m,_,hx,hl,hxl,hf⟩:=DataW.trod_array Tryz.underlying348 h
 have hc:Tryz.prog.cellsOf 348=20:=by kernel_rfl
 have hc4:Tryz.prog.cellsOf 347=4:=by kernel_rfl
 rw[hc] at hl
 rw[hc4] at hf
 have hx1:=(Prod.mk.inj hx).1
 unfold Rows.laid_reach_field_used at hx1
 obtain⟨y0,y1,y2,y3,y4,rfl⟩:=len5 hxl
 obtain⟨v0,v1,v2,v3,v4,v5,v6,v7,v8,v9,v10,v11,v12,v13,v14,v15,v16,v17,v18,v19,rfl⟩:=len20 hl
 ·
  simp only[List.map_cons,List.map_nil,DataW.agg.injEq,List.cons.injEq,and_true] at hx1
  obtain⟨e0,e1,e2,e3,e4⟩:=hx1
  have g0:=st4 (hf 0 (by decide)) e0.symm
  have g1:=st4 (hf 1 (by decide)) e1.symm
  have g2:=st4 (hf 2 (by decide)) e2.symm
  have g3:=st4 (hf 3 (by decide)) e3.symm
  have g4:=st4 (hf 4 (by decide)) e4.symm
  simp at g0 g1 g2 g3 g4
  simp[g0,g1,g2,g3,g4]
theorem gl_of_gt{W:World}(h:GT W):GlOk W:=by
 refine⟨fun pp v hp=>?_,h⟩
 unfold glV at hp
 obtain⟨b,o,sp⟩:=pp
 cases sp with
 | some _=>cases hp
 | none=>
  dsimp only at hp
  cases hg:glD b with
  | none=>rw[hg] at hp;cases hp
  | some cs=>
   rw[hg] at hp
   dsimp only at hp
   obtain⟨_,a,c,hw⟩:=h b cs hg
   show W.cell? ⟨b,o,none⟩=some v
   simp only[World.cell?,hw]
   simpa using hp
theorem heap_of{W:World}{name:String}{g:Nat}{cs:Array Value}(hg:Tryz.prog.globalNamed name=some g)(h:W.var? Tryz.prog name=some cs):∃ a b,W.heap[g]? = some (.cells cs a b):=by
 simp only[World.var?,hg,Option.bind_some] at h
 split at h
 . rename_i cs' a b hh
   cases h
   exact⟨a,b,hh⟩
 . cases h
def VarIs(W:World)(name:String)(g:Nat):Prop:=∃ cs:Array Value,W.var? Tryz.prog name=some cs/\∃ ds,glD g=some ds/\cs.toList=ds.map valD
theorem gt_of{W:World}(h1:VarIs W "reach/field.used" 1)(h5:VarIs W "internal/strconv.uint64pow10" 5):GT W:=by
 have one:∀ name g,Tryz.prog.globalNamed name=some g → VarIs W name g → ∀ cs,glD g=some cs → ∃ a b,W.heap[g]? = some (.cells (cs.map valD).toArray a b):=by
  rintro name g hn ⟨cs,hv,ds,hd,he⟩ cs' hc
  rw[hd] at hc
  cases hc
  obtain⟨a,b,hh⟩:=heap_of hn hv
  exact⟨a,b,by rw[hh,← he]⟩
 intro g cs hg
 match g,hg with
 | 1,hg=>exact⟨by cases hg;simp,one _ 1 (by kernel_rfl) h1 cs hg⟩
 | 5,hg=>exact⟨by cases hg;simp,one _ 5 (by kernel_rfl) h5 cs hg⟩
 | 0,hg=>cases hg
 | 2,hg=>cases hg
 | 3,hg=>cases hg
 | 4,hg=>cases hg
 | n+6,hg=>cases hg
theorem type_of{name:String}{g:Nat}{t t':TypeId}(hg0:Tryz.prog.globalNamed name=some g)(ht0:(Tryz.prog.globals[g]?).map (·.type)=some t){g':Nat}(hg:Tryz.prog.globalNamed name=some g')(ht:(Tryz.prog.globals[g']?).map (·.type)=some t'):g'=g/\t'=t:=by
 obtain rfl:=Option.some.inj (hg0.symm.trans hg)
 exact⟨rfl,(Option.some.inj (ht0.symm.trans ht)).symm⟩
theorem glM{W:World}(h:laidMetH Tryz.prog Rows.modelNumbersUptoRow.laid W):GlOk W:=by
 rw[MakeChecks.laidMetH_plain _ _ _ (by kernel_rfl)] at h
 obtain⟨ps,⟨_,_,_,_,_,_,_,_,_,_,⟨_,_,_,_,_,_,_,_,_,_,⟨g5,t5,c5,f5,p5,q5,hg5,ht5,hv5,hd5,⟨_,_,_,_,_,_,_,_,_,_,⟨g1,t1,c1,f1,p1,q1,hg1,ht1,hv1,hd1,_,_⟩,_⟩,_⟩,_⟩,_⟩,_⟩:=h
 obtain⟨rfl,rfl⟩:=type_of (g:=5) (t:=410) (by kernel_rfl) (by kernel_rfl) hg5 ht5
 obtain⟨rfl,rfl⟩:=type_of (g:=1) (t:=348) (by kernel_rfl) (by kernel_rfl) hg1 ht1
 refine gl_of_gt (gt_of ⟨c1,hv1,_,rfl,?_⟩ ⟨c5,hv5,_,rfl,?_⟩)
 . exact used_of hd1
 . exact Lib.cells_of_tab (zs:=Lib.pow10Tab) Tryz.underlying410 Tryz.underlying134 (by kernel_rfl) (by kernel_rfl) hd5
end Go.Proofs.YtcglkonooeddfaaGreatDoor
