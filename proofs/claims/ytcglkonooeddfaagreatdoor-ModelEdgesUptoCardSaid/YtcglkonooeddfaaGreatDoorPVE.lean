/- The walks and the plain laws that a law of networks needs, part 5 of 6. -/
import Derived.Test.YtcglkonooeddfaaGreatDoorPVD
import Derived.Lib.ItoaNum
import Derived.Lib.ItoaLen
set_option linter.unusedVariables false
set_option linter.unusedSimpArgs false
namespace Go.Proofs.YtcglkonooeddfaaGreatDoor
open Go Go.Vx
set_option maxRecDepth 100000 in
set_option maxHeartbeats 4000000 in
theorem equal_at(p:Prop)(a b:Config)(hl:a.fields.l.length<=1048576)(hl2:a.boxes.l.length<=1048576):FSpec Tryz.prog T 101 [.agg a.row,.agg b.row,.b p] (fun d _=>d = .b (equalP p a.b b.b)):=by
 have hfa:(a.fields.l.map SI.row).length=a.fields.l.length:=by simp
 have hfb:(b.fields.l.map SI.row).length=b.fields.l.length:=by simp
 have hba:(a.boxes.l.map Box.row).length=a.boxes.l.length:=by simp
 have hbb:(b.boxes.l.map Box.row).length=b.boxes.l.length:=by simp
 have hlen:equalP p a.b b.b->a.fields.l.length=b.fields.l.length/\a.boxes.l.length=b.boxes.l.length:=fun h=>⟨congrArg List.length h.2.2.2.1,by have:=h.2.2.2.2.1.1;simpa[Config.b] using this⟩
 refine FSpec.of_ok tok Tryz.func101 rfl Tryz.call101 (by simp) ?_
 (try (conv=>whnf));repeat' (first|refine Ok.seq ?_|((first|refine Ok.region tok ?_|refine Ok.cond ?_);conv=>whnf)|refine Ok.block ?_|((first|refine Ok.skip ?_|refine Ok.ret ?_);conv=>whnf)|(refine bI ?_ ?_<;>intro<;>(conv=>whnf)<;>(try (exfalso;omega)))|fail)
 any_goals
  refine Or.inl ?_;(conv=>whnf)
  exact b_eq ⟨fun h=>h.elim,fun h=>by
   have h1:=hlen h
   obtain⟨e1,e2,e3,_⟩:=h
   simp only[Config.b] at e1 e2 e3
   first
    | omega
    | exact absurd e1 (by assumption)
    | exact absurd e2 (by assumption)
    | exact absurd e3 (by assumption)⟩
 rename_i q1 q2 q3 q4 q5
 have q1:=Classical.not_not.1 q1
 have q2:=Classical.not_not.1 q2
 have q3:=Classical.not_not.1 q3
 refine Ok.loopU [2,3,4] [7] 0 2 (fun (k:Nat)=>[.i .i64 (k:Nat)]) (fun _ b=>b) (fun _ r=>r) (fun (k:Nat)=>k<=a.fields.l.length/\a.fields.l.take k=b.fields.l.take k) (fun (k:Nat)=>a.fields.l.length - k) (0) (⟨Nat.zero_le _,by simp⟩) ?_;(conv=>whnf);refine⟨by ((conv=>whnf);first|rfl|(simp[envCat, List.take_of_length_le, SI.row, Node.row, Pfx.row, Link.row, srow, Line.row, Rule.row, Box.row, Slc.row, Config.row];done)|(simp[envCat, List.take_of_length_le, SI.row, Node.row, Pfx.row, Link.row, srow, Line.row, Rule.row, Box.row, Slc.row, Config.row];rw[IntKind.wrap_i64];omega)),?_⟩
 rintro k ⟨hk,hf⟩
 by_cases hka:k<a.fields.l.length
 . obtain⟨x,hx⟩:∃ x,a.fields.l[k]? = some x:=⟨_,List.getElem?_eq_getElem hka⟩
   obtain⟨y,hy⟩:∃ x,b.fields.l[k]? = some x:=⟨_,List.getElem?_eq_getElem (by omega)⟩
   (try (conv=>whnf));repeat' (first|refine Ok.seq ?_|((first|refine Ok.region tok ?_|refine Ok.region_draw tok follows (by kernel_rfl) ?_|refine Ok.cond ?_);conv=>whnf)|refine Ok.block ?_|((first|refine Ok.skip ?_|refine ix _ (by assumption) ?_);conv=>whnf)|(refine bI ?_ ?_<;>intro<;>(conv=>whnf)<;>(try (exfalso;omega)))|fail)
   refine⟨_,eqSI43,by kernel_rfl,?_⟩
   (conv=>whnf)
   (try (conv=>whnf));repeat' (first|refine Ok.seq ?_|((first|refine Ok.region tok ?_|refine Ok.cond ?_|refine Ok.skip ?_|refine Ok.ret ?_|refine nI ?_);conv=>whnf)|(refine bI ?_ ?_<;>intro<;>(conv=>whnf)<;>(try (exfalso;omega)))|fail)
   . rename_i hne
     refine Or.inl ?_;(conv=>whnf)
     exact b_eq ⟨fun h=>h.elim,fun h=>hne ((SI.eqRow x y).2 (by have h4:=h.2.2.2.1;simp only[Config.b] at h4;rw[h4,hy] at hx;exact (Option.some.inj hx).symm))⟩
   . rename_i heq
     refine⟨k+1,by omega,⟨by omega,take_step hx hy hf ((SI.eqRow x y).1 (Classical.not_not.1 heq))⟩,?_⟩
     (conv=>whnf);(first|rfl|simp[envCat, List.take_of_length_le, SI.row, Node.row, Pfx.row, Link.row, srow, Line.row, Rule.row, Box.row, Slc.row, Config.row])
 obtain rfl:k=a.fields.l.length:=by omega
 rw[List.take_length,List.take_of_length_le (by omega)] at hf
 (try (conv=>whnf));repeat' (first|refine Ok.seq ?_|((first|refine Ok.region tok ?_|refine Ok.cond ?_);conv=>whnf)|refine Ok.block ?_|(refine Ok.exit ?_;conv=>whnf)|(refine bI ?_ ?_<;>intro<;>(conv=>whnf)<;>(try (exfalso;omega)))|fail)
 refine Ok.loopU [2,3,4] [8] 0 2 (fun (k:Nat)=>[.i .i64 (k:Nat)]) (fun _ b=>b) (fun _ r=>r) (fun (k:Nat)=>k<=a.boxes.l.length/\(∀ (i:Nat) x y,i<k->(a.boxes.l.map Box.b)[i]? = some x->(b.boxes.l.map Box.b)[i]? = some y->eqBoxP p x y)) (fun (k:Nat)=>a.boxes.l.length - k) (0) (⟨Nat.zero_le _,fun i x y h=>by omega⟩) ?_;(conv=>whnf);refine⟨by ((conv=>whnf);first|rfl|(simp[envCat, List.take_of_length_le, SI.row, Node.row, Pfx.row, Link.row, srow, Line.row, Rule.row, Box.row, Slc.row, Config.row];done)|(simp[envCat, List.take_of_length_le, SI.row, Node.row, Pfx.row, Link.row, srow, Line.row, Rule.row, Box.row, Slc.row, Config.row];rw[IntKind.wrap_i64];omega)),?_⟩
 rintro k ⟨hk2,hbx⟩
 by_cases hkb:k<a.boxes.l.length
 . obtain⟨x,hx⟩:∃ x,a.boxes.l[k]? = some x:=⟨_,List.getElem?_eq_getElem hkb⟩
   obtain⟨y,hy⟩:∃ x,b.boxes.l[k]? = some x:=⟨_,List.getElem?_eq_getElem (by omega)⟩
   have hxm:(a.boxes.l.map Box.b)[k]? = some x.b:=by simp[hx]
   have hym:(b.boxes.l.map Box.b)[k]? = some y.b:=by simp[hy]
   (try (conv=>whnf));repeat' (first|refine Ok.seq ?_|((first|refine Ok.region tok ?_|refine Ok.region_draw tok follows (by kernel_rfl) ?_|refine Ok.cond ?_);conv=>whnf)|refine Ok.block ?_|((first|refine Ok.skip ?_|refine Ok.ret ?_|refine nI ?_|refine ix _ (by assumption) ?_|refine⟨_,eqBox_at p x y,rfl,?_⟩);conv=>whnf)|(refine bI ?_ ?_<;>intro<;>(conv=>whnf)<;>(try (exfalso;omega)))|fail)
   . rename_i hne
     refine Or.inl ?_;(conv=>whnf)
     exact b_eq ⟨fun h=>h.elim,fun h=>hne (h.2.2.2.2.1.2 k x.b y.b hxm hym)⟩
   . rename_i heq
     refine⟨k+1,by omega,⟨by omega,fun i u v hi hu hv=>?_⟩,?_⟩
     . by_cases hik:i=k
       . subst hik
         rw[hxm] at hu
         rw[hym] at hv
         cases hu
         cases hv
         exact Classical.not_not.1 heq
       . exact hbx i u v (by omega) hu hv
     . (conv=>whnf);(first|rfl|simp[envCat, List.take_of_length_le, SI.row, Node.row, Pfx.row, Link.row, srow, Line.row, Rule.row, Box.row, Slc.row, Config.row])
 obtain rfl:k=a.boxes.l.length:=by omega
 have hB:eqBoxesP p a.b.boxes b.b.boxes:=⟨by simp[Config.b];omega,fun i x y hx hy=>hbx i x y (by have:=(List.getElem?_eq_some_iff.1 hx).1;simpa[Config.b] using this) hx hy⟩
 (try (conv=>whnf));repeat' (first|refine Ok.seq ?_|((first|refine Ok.region tok ?_|refine Ok.cond ?_|refine Ok.exit ?_|refine Ok.ret ?_);conv=>whnf)|(refine Or.inl ?_;(conv=>whnf);(repeat (refine aI ?_;conv=>whnf));refine⟨_,eqLinks_at p a.links.l b.links.l rfl rfl,rfl,?_⟩;conv=>whnf)|(refine Or.inl ?_;(conv=>whnf);(repeat (refine aI ?_;conv=>whnf));refine⟨_,eqSlices_at p a.slices.l b.slices.l rfl rfl,rfl,?_⟩;conv=>whnf)|(refine bI ?_ ?_<;>intro<;>(conv=>whnf)<;>(try (exfalso;omega)))|fail)
 . refine Or.inl ?_;(conv=>whnf)
   exact b_eq ⟨fun h=>⟨q1,q2,q3,hf,hB,by assumption,h⟩,fun h=>h.2.2.2.2.2.2⟩
 . refine Or.inl ?_;(conv=>whnf)
   rename_i hne
   exact b_eq ⟨fun h=>h.elim,fun h=>hne h.2.2.2.2.2.1⟩
set_option maxRecDepth 100000 in
theorem Equal_at(a b:Config)(hl:a.fields.l.length<=1048576)(hl2:a.boxes.l.length<=1048576):FSpec Tryz.prog T 53 [.agg a.row,.agg b.row] (fun d _=>d = .b (equalP False a.b b.b)):=by
 refine FSpec.of_ok tok Tryz.func53 rfl Tryz.call53 (by simp) ?_
 (try (conv=>whnf));repeat' (first|refine Ok.seq ?_|((first|refine Ok.region tok ?_|refine Ok.ret ?_);conv=>whnf)|(refine Or.inl ?_;(conv=>whnf);(repeat (refine aI ?_;conv=>whnf));refine⟨_,equal_at False a b hl hl2,rfl,?_⟩;conv=>whnf)|fail)
 refine Or.inl ?_;(conv=>whnf)
 rfl
theorem eqL_ff{α:Type}(R:α->α->Prop)(u v:List α):eqL False R u v ↔ u=v:=by simp[eqL]
end Go.Proofs.YtcglkonooeddfaaGreatDoor
namespace Go.Proofs.YtcglkonooeddfaaGreatDoor
open Go Go.Vx
structure Line.Ok(x:Line):Prop where
 mtch:x.mtch.l.length<=1048576
structure Rule.Ok(x:Rule):Prop where
 frm:x.frm.l.length<=1048576
 mtch:x.mtch.l.length<=1048576
 sets:x.sets.l.length<=1048576
 dst:x.dst.l.length<=1048576
structure Box.Ok(x:Box):Prop where
 ins:x.ins.l.length<=1048576
 outs:x.outs.l.length<=1048576
 guards:x.guards.l.length<=1048576
 rules:x.rules.l.length<=1048576
 owns:x.owns.l.length<=1048576
 routes:x.routes.l.length<=1048576
 line:∀ g ∈ x.guards.l,g.Ok
 rule:∀ r ∈ x.rules.l,r.Ok
end Go.Proofs.YtcglkonooeddfaaGreatDoor
namespace Go.Proofs.YtcglkonooeddfaaGreatDoor
open Go Go.Vx
structure Slc.Ok(x:Slc):Prop where
 ports:x.ports.l.length<=1048576
 whr:x.whr.l.length<=1048576
structure Config.Ok(c:Config):Prop where
 fields:c.fields.l.length<=1048576
 boxes:c.boxes.l.length<=1048576
 links:c.links.l.length<=1048576
 slices:c.slices.l.length<=1048576
 box:∀ b ∈ c.boxes.l,b.Ok
 slc:∀ s ∈ c.slices.l,s.Ok
end Go.Proofs.YtcglkonooeddfaaGreatDoor
namespace Go.Proofs.YtcglkonooeddfaaGreatDoor
open Go Go.Vx
def rStrs:List (List D):=[srow mark1,srow mark2]
def rNodes:List (List D):=[Node.row ⟨4711,[],0,0,0,0,0,[]⟩,Node.row ⟨4712,[],0,0,0,0,0,[]⟩]
def rPfxs:List (List D):=[Pfx.row ⟨4711,0,[]⟩,Pfx.row ⟨4712,0,[]⟩]
def rSets:List (List D):=[SI.row ⟨[],4711⟩,SI.row ⟨[],4712⟩]
def lineR(x:Line):Line:=⟨x.port,x.permit,⟨x.mtch.l,rNodes⟩⟩
def line0(s:Str):Line:=⟨s,False,⟨[],[]⟩⟩
def ruleR(x:Rule):Rule:=⟨x.prio,⟨x.frm.l,rStrs⟩,⟨x.mtch.l,rNodes⟩,⟨x.sets.l,rSets⟩,⟨x.dst.l,rStrs⟩⟩
def rule0(n:Int):Rule:=⟨n,⟨[],[]⟩,⟨[],[]⟩,⟨[],[]⟩,⟨[],[]⟩⟩
theorem tk2{α:Type}(f:α->List D)(l:List α)(a b:α):((l++[a,b]).map f).take l.length=l.map f:=by simp
theorem dr2{α:Type}(f:α->List D)(l:List α)(a b:α):((l++[a,b]).map f).drop l.length=[f a,f b]:=by simp
set_option maxRecDepth 100000 in
set_option maxHeartbeats 4000000 in
theorem roomGuards_at(l:List Line){rl sl:List (List D)}(hl:l.length<=1048576)(hok:∀ x ∈ l,x.Ok)(h:rl=l.map Line.row):FSpec Tryz.prog T 93 [.lst 112 rl sl] (fun d rows=>rows=[some (112,(l.map lineR++[line0 mark1,line0 mark2]).map Line.row)]/\d = .own 0 l.length):=by
 subst h
 have hll:(l.map Line.row).length=l.length:=by simp
 refine FSpec.of_ok tok Tryz.func93 rfl Tryz.call93 (by simp) ?_
 (try (conv=>whnf));repeat' (first|refine Ok.seq ?_|(refine Ok.region tok ?_;conv=>whnf)|refine Ok.block ?_|((first|refine nI ?_|refine⟨_,_,rfl,rfl,?_⟩|refine aJ ?_|refine⟨_,rfl,?_⟩);conv=>whnf)|fail)
 refine Ok.loopU [0,3] [4] 1 0 (fun (k:Nat)=>[.i .i64 (k:Nat)]) (fun _ b=>b) (fun (k:Nat) (_:Vx.Rows)=>[some (112,((l.map lineR).take k++List.replicate (l.length+2 - k) (line0 [])).map Line.row)]) (fun (k:Nat)=>k<=l.length) (fun (k:Nat)=>l.length - k) (0) (Nat.zero_le _) ?_;(conv=>whnf);refine⟨by ((conv=>whnf);first|rfl|(simp[envCat, List.take_of_length_le, SI.row, Node.row, Pfx.row, Link.row, srow, Line.row, Rule.row, Box.row, Slc.row, Config.row, line0, rule0];done)|(simp[envCat, List.take_of_length_le, SI.row, Node.row, Pfx.row, Link.row, srow, Line.row, Rule.row, Box.row, Slc.row, Config.row, line0, rule0];rw[IntKind.wrap_i64];omega)),?_⟩
 rintro k hk
 have htl:(((l.map lineR).take k++List.replicate (l.length+2 - k) (line0 [])).map Line.row).length=l.length+2:=by simp;omega
 by_cases hkl:k<l.length
 . obtain⟨x,hx⟩:∃ x,l[k]? = some x:=⟨_,List.getElem?_eq_getElem hkl⟩
   have hxm:(l.map lineR)[k]? = some (lineR x):=by simp[hx]
   have hxo:=hok x (List.mem_of_getElem? hx)
   obtain⟨m,hm⟩:∃ m,l.length+2 - k=m+1:=⟨l.length+1 - k,by omega⟩
   rw[hm] at htl ⊢
   have hz:((l.map lineR).take k++List.replicate (m+1) (line0 []))[k]? = some (line0 []):=room_at (by simp;omega)
   have hs:=room_set (z:=line0 []) (m:=m) hxm
   have hz2:(((l.map lineR).take k++List.replicate (m+1) (line0 [])).set k x)[k]? = some x:=List.getElem?_set_self (by simp;omega)
   have hlen2:((((l.map lineR).take k++List.replicate (m+1) (line0 [])).set k x).map Line.row).length=l.length+2:=by simp;omega
   (conv=>whnf)
   (try (conv=>whnf));repeat' (first|refine Ok.seq ?_|((first|refine Ok.region tok ?_|refine Ok.cond ?_);conv=>whnf)|refine Ok.block ?_|((first|refine Ok.skip ?_|refine ix _ (by assumption) ?_);conv=>whnf)|(refine bI ?_ ?_<;>intro<;>(conv=>whnf)<;>(try (exfalso;omega)))|(refine aJ ?_;conv=>whnf)|fail)
   refine st x hz (by simp[Line.row]) (by simp[setCells,Line.row]) ?_
   (try (conv=>whnf));repeat' (first|((first|refine Ok.region tok ?_|refine ix _ (by assumption) ?_);conv=>whnf)|fail)
   right
   left
   (conv=>whnf)
   refine⟨_,roomNodes_at x.mtch.l hxo.mtch rfl,?_⟩
   rintro d rows ⟨rfl,rfl⟩
   (try (conv=>whnf));repeat' (first|(refine aJ ?_;conv=>whnf)|fail)
   refine st (lineR x) hz2 (by simp[Line.row]) (by rw[tk2,dr2];rfl) ?_
   (try (conv=>whnf));repeat' (first|((first|refine Ok.region tok ?_|refine nI ?_);conv=>whnf)|fail)
   refine⟨k+1,by omega,by omega,?_⟩
   rw[show l.length+2 - (k+1)=m by omega,<- hs]
   (conv=>whnf);simp[envCat]
 . obtain rfl:k=l.length:=by omega
   have hlm:(l.map lineR).length=l.length:=by simp
   rw[show l.length+2 - l.length=2 by omega,List.take_of_length_le (by omega)] at htl ⊢
   have h1:(l.map lineR++List.replicate 2 (line0 []))[l.length]? = some (line0 []):=by simp
   have h2:((l.map lineR++List.replicate 2 (line0 [])).set l.length (line0 mark1))[l.length+1]? = some (line0 []):=by
    rw[List.getElem?_set_ne (by omega)];simp
   have htl2:(((l.map lineR++List.replicate 2 (line0 [])).set l.length (line0 mark1)).map Line.row).length=l.length+2:=by simp
   have e1:((((l.map Line.row).length:Nat):Int)).toNat=l.length:=by omega
   have e2:((((l.map Line.row).length:Nat):Int)+1).toNat=l.length+1:=by omega
   have e3:=room_end (l:=l.map lineR) (z:=line0 []) (x:=line0 mark1) (y:=line0 mark2)
   rw[hlm] at e3
   (conv=>whnf)
   (try (conv=>whnf));repeat' (first|refine Ok.seq ?_|((first|refine Ok.region tok ?_|refine Ok.cond ?_|refine Ok.exit ?_);conv=>whnf)|(refine bI ?_ ?_<;>intro<;>(conv=>whnf)<;>(try (exfalso;omega)))|(refine aJ ?_;conv=>whnf)|fail)
   rw[e1]
   refine st (line0 mark1) h1 (by simp[Line.row]) (by simp[setCells,Line.row,line0,mark1]) ?_
   (try (conv=>whnf));repeat' (first|refine Ok.seq ?_|((first|refine Ok.region tok ?_|refine nI ?_|refine aJ ?_);conv=>whnf)|fail)
   rw[e2]
   refine st (line0 mark2) h2 (by simp[Line.row]) (by simp[setCells,Line.row,line0,mark2]) ?_
   rw[e3]
   (try (conv=>whnf));repeat' (first|refine Ok.seq ?_|(refine Ok.region tok ?_;conv=>whnf)|fail)
   refine⟨l.length,rfl,by show ((l.map Line.row).length:Int)=_;simp,by simp,?_⟩
   (conv=>whnf)
   (try (conv=>whnf));repeat' (first|(refine Ok.ret ?_;conv=>whnf)|fail)
   refine Or.inr (Or.inl ?_);(conv=>whnf)
   exact⟨rfl,rfl⟩
end Go.Proofs.YtcglkonooeddfaaGreatDoor
namespace Go.Proofs.YtcglkonooeddfaaGreatDoor
open Go Go.Vx
def slcR(x:Slc):Slc:=⟨x.name,⟨x.ports.l,rStrs⟩,⟨x.whr.l,rNodes⟩⟩
def slc0(s:Str):Slc:=⟨s,⟨[],[]⟩,⟨[],[]⟩⟩
def boxR(x:Box):Box:=⟨x.name,⟨x.ins.l,rStrs⟩,⟨x.outs.l,rStrs⟩,⟨x.guards.l.map lineR,[(line0 mark1).row,(line0 mark2).row]⟩,⟨x.rules.l.map ruleR,[(rule0 4711).row,(rule0 4712).row]⟩,⟨x.owns.l,rPfxs⟩,⟨x.routes.l,rPfxs⟩⟩
def box0(s:Str):Box:=⟨s,⟨[],[]⟩,⟨[],[]⟩,⟨[],[]⟩,⟨[],[]⟩,⟨[],[]⟩,⟨[],[]⟩⟩
theorem tk3{α β:Type}(f:α->List D)(g:β->α)(l:List β)(a b:α):((l.map g++[a,b]).map f).take l.length=(l.map g).map f:=by simp
theorem dr3{α β:Type}(f:α->List D)(g:β->α)(l:List β)(a b:α):((l.map g++[a,b]).map f).drop l.length=[f a,f b]:=by simp
set_option maxRecDepth 100000 in
set_option maxHeartbeats 4000000 in
theorem roomRules_at(l:List Rule){rl sl:List (List D)}(hl:l.length<=1048576)(hok:∀ x ∈ l,x.Ok)(h:rl=l.map Rule.row):FSpec Tryz.prog T 94 [.lst 115 rl sl] (fun d rows=>rows=[some (115,(l.map ruleR++[rule0 4711,rule0 4712]).map Rule.row)]/\d = .own 0 l.length):=by
 subst h
 have hll:(l.map Rule.row).length=l.length:=by simp
 refine FSpec.of_ok tok Tryz.func94 rfl Tryz.call94 (by simp) ?_
 (try (conv=>whnf));repeat' (first|refine Ok.seq ?_|(refine Ok.region tok ?_;conv=>whnf)|refine Ok.block ?_|((first|refine nI ?_|refine⟨_,_,rfl,rfl,?_⟩|refine aJ ?_|refine⟨_,rfl,?_⟩);conv=>whnf)|fail)
 refine Ok.loopU [0,3] [4] 1 0 (fun (k:Nat)=>[.i .i64 (k:Nat)]) (fun _ b=>b) (fun (k:Nat) (_:Vx.Rows)=>[some (115,((l.map ruleR).take k++List.replicate (l.length+2 - k) (rule0 0)).map Rule.row)]) (fun (k:Nat)=>k<=l.length) (fun (k:Nat)=>l.length - k) (0) (Nat.zero_le _) ?_;(conv=>whnf);refine⟨by ((conv=>whnf);first|rfl|(simp[envCat, List.take_of_length_le, SI.row, Node.row, Pfx.row, Link.row, srow, Line.row, Rule.row, Box.row, Slc.row, Config.row, line0, rule0, slc0, box0];done)|(simp[envCat, List.take_of_length_le, SI.row, Node.row, Pfx.row, Link.row, srow, Line.row, Rule.row, Box.row, Slc.row, Config.row, line0, rule0, slc0, box0];rw[IntKind.wrap_i64];omega)),?_⟩
 rintro k hk
 have htl:(((l.map ruleR).take k++List.replicate (l.length+2 - k) (rule0 0)).map Rule.row).length=l.length+2:=by simp;omega
 by_cases hkl:k<l.length
 . obtain⟨x,hx⟩:∃ x,l[k]? = some x:=⟨_,List.getElem?_eq_getElem hkl⟩
   have hxm:(l.map ruleR)[k]? = some (ruleR x):=by simp[hx]
   have hxo:=hok x (List.mem_of_getElem? hx)
   obtain⟨m,hm⟩:∃ m,l.length+2 - k=m+1:=⟨l.length+1 - k,by omega⟩
   rw[hm] at htl ⊢
   have hz:((l.map ruleR).take k++List.replicate (m+1) (rule0 0))[k]? = some (rule0 0):=room_at (by simp;omega)
   have hs:=room_set (z:=rule0 0) (m:=m) hxm
   generalize hLL:(l.map ruleR).take k++List.replicate (m+1) (rule0 0)=LL at htl hz hs ⊢
   have hLl:LL.length=l.length+2:=by simpa using htl
   have hset:∀ (M:List Rule) (y:Rule),M.length=l.length+2->(M.set k y)[k]? = some y:=fun M y h=>List.getElem?_set_self (by omega)
   have hlen:∀ (M:List Rule) (y:Rule),M.length=l.length+2->((M.set k y).map Rule.row).length=l.length+2:=fun M y h=>by simp[h]
   have hsl:∀ (M:List Rule) (y:Rule),M.length=l.length+2->(M.set k y).length=l.length+2:=fun M y h=>by simp[h]
   clear hLL
   (conv=>whnf)
   (try (conv=>whnf));repeat' (first|refine Ok.seq ?_|((first|refine Ok.region tok ?_|refine Ok.cond ?_);conv=>whnf)|refine Ok.block ?_|((first|refine Ok.skip ?_|refine ix _ (by assumption) ?_);conv=>whnf)|(refine bI ?_ ?_<;>intro<;>(conv=>whnf)<;>(try (exfalso;omega)))|(refine aJ ?_;conv=>whnf)|fail)
   have hA0:=hset LL x hLl
   have hB0:=hlen LL x hLl
   have hC0:=hsl LL x hLl
   refine st x hz (by simp[Rule.row]) (by simp[setCells,Rule.row,rule0]) ?_
   (try (conv=>whnf));repeat' (first|refine Ok.seq ?_|((first|refine Ok.region tok ?_|refine ix _ (by assumption) ?_);conv=>whnf)|fail)
   right
   left
   (conv=>whnf)
   refine⟨_,roomNames_at x.frm.l hxo.frm rfl,?_⟩
   rintro d rows ⟨rfl,rfl⟩
   (try (conv=>whnf));repeat' (first|(refine aJ ?_;conv=>whnf)|fail)
   have hA1:=hset (LL.set k x) ({ x with frm:=⟨x.frm.l,rStrs⟩ }:Rule) hC0
   have hB1:=hlen (LL.set k x) ({ x with frm:=⟨x.frm.l,rStrs⟩ }:Rule) hC0
   have hC1:=hsl (LL.set k x) ({ x with frm:=⟨x.frm.l,rStrs⟩ }:Rule) hC0
   refine st ({ x with frm:=⟨x.frm.l,rStrs⟩ }:Rule) hA0 (by simp[Rule.row]) (by rw[tk2,dr2];rfl) ?_
   (try (conv=>whnf));repeat' (first|refine Ok.seq ?_|((first|refine Ok.region tok ?_|refine ix _ (by assumption) ?_);conv=>whnf)|fail)
   right
   left
   (conv=>whnf)
   refine⟨_,roomNodes_at x.mtch.l hxo.mtch rfl,?_⟩
   rintro d rows ⟨rfl,rfl⟩
   (try (conv=>whnf));repeat' (first|(refine aJ ?_;conv=>whnf)|fail)
   have hA2:=hset ((LL.set k x).set k ({ x with frm:=⟨x.frm.l,rStrs⟩ }:Rule)) ({ x with frm:=⟨x.frm.l,rStrs⟩,mtch:=⟨x.mtch.l,rNodes⟩ }:Rule) hC1
   have hB2:=hlen ((LL.set k x).set k ({ x with frm:=⟨x.frm.l,rStrs⟩ }:Rule)) ({ x with frm:=⟨x.frm.l,rStrs⟩,mtch:=⟨x.mtch.l,rNodes⟩ }:Rule) hC1
   have hC2:=hsl ((LL.set k x).set k ({ x with frm:=⟨x.frm.l,rStrs⟩ }:Rule)) ({ x with frm:=⟨x.frm.l,rStrs⟩,mtch:=⟨x.mtch.l,rNodes⟩ }:Rule) hC1
   refine st ({ x with frm:=⟨x.frm.l,rStrs⟩,mtch:=⟨x.mtch.l,rNodes⟩ }:Rule) hA1 (by simp[Rule.row]) (by rw[tk2,dr2];rfl) ?_
   (try (conv=>whnf));repeat' (first|refine Ok.seq ?_|((first|refine Ok.region tok ?_|refine ix _ (by assumption) ?_);conv=>whnf)|fail)
   right
   left
   (conv=>whnf)
   refine⟨_,roomSets_at x.sets.l hxo.sets rfl,?_⟩
   rintro d rows ⟨rfl,rfl⟩
   (try (conv=>whnf));repeat' (first|(refine aJ ?_;conv=>whnf)|fail)
   have hA3:=hset (((LL.set k x).set k ({ x with frm:=⟨x.frm.l,rStrs⟩ }:Rule)).set k ({ x with frm:=⟨x.frm.l,rStrs⟩,mtch:=⟨x.mtch.l,rNodes⟩ }:Rule)) ({ x with frm:=⟨x.frm.l,rStrs⟩,mtch:=⟨x.mtch.l,rNodes⟩,sets:=⟨x.sets.l,rSets⟩ }:Rule) hC2
   have hB3:=hlen (((LL.set k x).set k ({ x with frm:=⟨x.frm.l,rStrs⟩ }:Rule)).set k ({ x with frm:=⟨x.frm.l,rStrs⟩,mtch:=⟨x.mtch.l,rNodes⟩ }:Rule)) ({ x with frm:=⟨x.frm.l,rStrs⟩,mtch:=⟨x.mtch.l,rNodes⟩,sets:=⟨x.sets.l,rSets⟩ }:Rule) hC2
   have hC3:=hsl (((LL.set k x).set k ({ x with frm:=⟨x.frm.l,rStrs⟩ }:Rule)).set k ({ x with frm:=⟨x.frm.l,rStrs⟩,mtch:=⟨x.mtch.l,rNodes⟩ }:Rule)) ({ x with frm:=⟨x.frm.l,rStrs⟩,mtch:=⟨x.mtch.l,rNodes⟩,sets:=⟨x.sets.l,rSets⟩ }:Rule) hC2
   refine st ({ x with frm:=⟨x.frm.l,rStrs⟩,mtch:=⟨x.mtch.l,rNodes⟩,sets:=⟨x.sets.l,rSets⟩ }:Rule) hA2 (by simp[Rule.row]) (by rw[tk2,dr2];rfl) ?_
   (try (conv=>whnf));repeat' (first|((first|refine Ok.region tok ?_|refine ix _ (by assumption) ?_);conv=>whnf)|fail)
   right
   left
   (conv=>whnf)
   refine⟨_,roomNames_at x.dst.l hxo.dst rfl,?_⟩
   rintro d rows ⟨rfl,rfl⟩
   (try (conv=>whnf));repeat' (first|(refine aJ ?_;conv=>whnf)|fail)
   have hA4:=hset ((((LL.set k x).set k ({ x with frm:=⟨x.frm.l,rStrs⟩ }:Rule)).set k ({ x with frm:=⟨x.frm.l,rStrs⟩,mtch:=⟨x.mtch.l,rNodes⟩ }:Rule)).set k ({ x with frm:=⟨x.frm.l,rStrs⟩,mtch:=⟨x.mtch.l,rNodes⟩,sets:=⟨x.sets.l,rSets⟩ }:Rule)) (ruleR x:Rule) hC3
   have hB4:=hlen ((((LL.set k x).set k ({ x with frm:=⟨x.frm.l,rStrs⟩ }:Rule)).set k ({ x with frm:=⟨x.frm.l,rStrs⟩,mtch:=⟨x.mtch.l,rNodes⟩ }:Rule)).set k ({ x with frm:=⟨x.frm.l,rStrs⟩,mtch:=⟨x.mtch.l,rNodes⟩,sets:=⟨x.sets.l,rSets⟩ }:Rule)) (ruleR x:Rule) hC3
   have hC4:=hsl ((((LL.set k x).set k ({ x with frm:=⟨x.frm.l,rStrs⟩ }:Rule)).set k ({ x with frm:=⟨x.frm.l,rStrs⟩,mtch:=⟨x.mtch.l,rNodes⟩ }:Rule)).set k ({ x with frm:=⟨x.frm.l,rStrs⟩,mtch:=⟨x.mtch.l,rNodes⟩,sets:=⟨x.sets.l,rSets⟩ }:Rule)) (ruleR x:Rule) hC3
   refine st (ruleR x:Rule) hA3 (by simp[Rule.row]) (by rw[tk2,dr2];rfl) ?_
   (try (conv=>whnf));repeat' (first|((first|refine Ok.region tok ?_|refine nI ?_);conv=>whnf)|fail)
   refine⟨k+1,by omega,by omega,?_⟩
   rw[show l.length+2 - (k+1)=m by omega,<- hs]
   (conv=>whnf);simp[envCat,List.set_set]
 . obtain rfl:k=l.length:=by omega
   have hlm:(l.map ruleR).length=l.length:=by simp
   rw[show l.length+2 - l.length=2 by omega,List.take_of_length_le (by omega)] at htl ⊢
   have h1:(l.map ruleR++List.replicate 2 (rule0 0))[l.length]? = some (rule0 0):=by simp
   have h2:((l.map ruleR++List.replicate 2 (rule0 0)).set l.length (rule0 4711))[l.length+1]? = some (rule0 0):=by
    rw[List.getElem?_set_ne (by omega)];simp
   have htl2:(((l.map ruleR++List.replicate 2 (rule0 0)).set l.length (rule0 4711)).map Rule.row).length=l.length+2:=by simp
   have e1:((((l.map Rule.row).length:Nat):Int)).toNat=l.length:=by omega
   have e2:((((l.map Rule.row).length:Nat):Int)+1).toNat=l.length+1:=by omega
   have e3:=room_end (l:=l.map ruleR) (z:=rule0 0) (x:=rule0 4711) (y:=rule0 4712)
   rw[hlm] at e3
   (conv=>whnf)
   (try (conv=>whnf));repeat' (first|refine Ok.seq ?_|((first|refine Ok.region tok ?_|refine Ok.cond ?_|refine Ok.exit ?_);conv=>whnf)|(refine bI ?_ ?_<;>intro<;>(conv=>whnf)<;>(try (exfalso;omega)))|(refine aJ ?_;conv=>whnf)|fail)
   rw[e1]
   refine st (rule0 4711) h1 (by simp[Rule.row]) (by simp[setCells,Rule.row,line0,rule0,slc0,box0,mark1]) ?_
   (try (conv=>whnf));repeat' (first|refine Ok.seq ?_|((first|refine Ok.region tok ?_|refine nI ?_|refine aJ ?_);conv=>whnf)|fail)
   rw[e2]
   refine st (rule0 4712) h2 (by simp[Rule.row]) (by simp[setCells,Rule.row,line0,rule0,slc0,box0,mark2]) ?_
   rw[e3]
   (try (conv=>whnf));repeat' (first|refine Ok.seq ?_|(refine Ok.region tok ?_;conv=>whnf)|fail)
   refine⟨l.length,rfl,by show ((l.map Rule.row).length:Int)=_;simp,by simp,?_⟩
   (conv=>whnf)
   (try (conv=>whnf));repeat' (first|(refine Ok.ret ?_;conv=>whnf)|fail)
   refine Or.inr (Or.inl ?_);(conv=>whnf)
   exact⟨rfl,rfl⟩
set_option maxRecDepth 100000 in
set_option maxHeartbeats 4000000 in
theorem roomSlices_at(l:List Slc){rl sl:List (List D)}(hl:l.length<=1048576)(hok:∀ x ∈ l,x.Ok)(h:rl=l.map Slc.row):FSpec Tryz.prog T 50 [.lst 54 rl sl] (fun d rows=>rows=[some (54,(l.map slcR++[slc0 mark1,slc0 mark2]).map Slc.row)]/\d = .own 0 l.length):=by
 subst h
 have hll:(l.map Slc.row).length=l.length:=by simp
 refine FSpec.of_ok tok Tryz.func50 rfl Tryz.call50 (by simp) ?_
 (try (conv=>whnf));repeat' (first|refine Ok.seq ?_|(refine Ok.region tok ?_;conv=>whnf)|refine Ok.block ?_|((first|refine nI ?_|refine⟨_,_,rfl,rfl,?_⟩|refine aJ ?_|refine⟨_,rfl,?_⟩);conv=>whnf)|fail)
 refine Ok.loopU [0,3] [4] 1 0 (fun (k:Nat)=>[.i .i64 (k:Nat)]) (fun _ b=>b) (fun (k:Nat) (_:Vx.Rows)=>[some (54,((l.map slcR).take k++List.replicate (l.length+2 - k) (slc0 [])).map Slc.row)]) (fun (k:Nat)=>k<=l.length) (fun (k:Nat)=>l.length - k) (0) (Nat.zero_le _) ?_;(conv=>whnf);refine⟨by ((conv=>whnf);first|rfl|(simp[envCat, List.take_of_length_le, SI.row, Node.row, Pfx.row, Link.row, srow, Line.row, Rule.row, Box.row, Slc.row, Config.row, line0, rule0, slc0, box0];done)|(simp[envCat, List.take_of_length_le, SI.row, Node.row, Pfx.row, Link.row, srow, Line.row, Rule.row, Box.row, Slc.row, Config.row, line0, rule0, slc0, box0];rw[IntKind.wrap_i64];omega)),?_⟩
 rintro k hk
 have htl:(((l.map slcR).take k++List.replicate (l.length+2 - k) (slc0 [])).map Slc.row).length=l.length+2:=by simp;omega
 by_cases hkl:k<l.length
 . obtain⟨x,hx⟩:∃ x,l[k]? = some x:=⟨_,List.getElem?_eq_getElem hkl⟩
   have hxm:(l.map slcR)[k]? = some (slcR x):=by simp[hx]
   have hxo:=hok x (List.mem_of_getElem? hx)
   obtain⟨m,hm⟩:∃ m,l.length+2 - k=m+1:=⟨l.length+1 - k,by omega⟩
   rw[hm] at htl ⊢
   have hz:((l.map slcR).take k++List.replicate (m+1) (slc0 []))[k]? = some (slc0 []):=room_at (by simp;omega)
   have hs:=room_set (z:=slc0 []) (m:=m) hxm
   generalize hLL:(l.map slcR).take k++List.replicate (m+1) (slc0 [])=LL at htl hz hs ⊢
   have hLl:LL.length=l.length+2:=by simpa using htl
   have hset:∀ (M:List Slc) (y:Slc),M.length=l.length+2->(M.set k y)[k]? = some y:=fun M y h=>List.getElem?_set_self (by omega)
   have hlen:∀ (M:List Slc) (y:Slc),M.length=l.length+2->((M.set k y).map Slc.row).length=l.length+2:=fun M y h=>by simp[h]
   have hsl:∀ (M:List Slc) (y:Slc),M.length=l.length+2->(M.set k y).length=l.length+2:=fun M y h=>by simp[h]
   clear hLL
   (conv=>whnf)
   (try (conv=>whnf));repeat' (first|refine Ok.seq ?_|((first|refine Ok.region tok ?_|refine Ok.region_plan (id:=5) tok follows [(11,12,[]),(11,18,[12]),(17,18,[]),(12,18,[]),(6,21,[]),(11,21,[]),(17,21,[]),(12,21,[]),(18,21,[])] [.q 0,.q 1,.q 2,.q 3,.q 4,.q 5,.q 6,.q 7,.q 8,.q 9,.q 10,.q 11,.q 13,.q 14,.q 15,.q 16,.q 17,.l 12,.l 18,.q 19,.q 20,.l 21] (by kernel_rfl) ?_|refine Ok.cond ?_);conv=>whnf)|refine Ok.block ?_|((first|refine Ok.skip ?_|refine ix _ (by assumption) ?_);conv=>whnf)|(refine bI ?_ ?_<;>intro<;>(conv=>whnf)<;>(try (exfalso;omega)))|fail)
   right
   left
   (conv=>whnf)
   refine⟨_,roomNames_at x.ports.l hxo.ports rfl,?_⟩
   rintro d rows ⟨rfl,rfl⟩
   (try (conv=>whnf));repeat' (first|fail)
   right
   left
   (conv=>whnf)
   refine⟨_,roomNodes_at x.whr.l hxo.whr rfl,?_⟩
   rintro d rows ⟨rfl,rfl⟩
   (try (conv=>whnf));repeat' (first|(refine aJ ?_;conv=>whnf)|fail)
   refine st (slcR x) hz (by simp[Slc.row]) (by rw[tk2,dr2,tk2,dr2];rfl) ?_
   (try (conv=>whnf));repeat' (first|((first|refine Ok.region tok ?_|refine nI ?_);conv=>whnf)|fail)
   refine⟨k+1,by omega,by omega,?_⟩
   rw[show l.length+2 - (k+1)=m by omega,<- hs]
   (conv=>whnf);simp[envCat,List.set_set]
 . obtain rfl:k=l.length:=by omega
   have hlm:(l.map slcR).length=l.length:=by simp
   rw[show l.length+2 - l.length=2 by omega,List.take_of_length_le (by omega)] at htl ⊢
   have h1:(l.map slcR++List.replicate 2 (slc0 []))[l.length]? = some (slc0 []):=by simp
   have h2:((l.map slcR++List.replicate 2 (slc0 [])).set l.length (slc0 mark1))[l.length+1]? = some (slc0 []):=by
    rw[List.getElem?_set_ne (by omega)];simp
   have htl2:(((l.map slcR++List.replicate 2 (slc0 [])).set l.length (slc0 mark1)).map Slc.row).length=l.length+2:=by simp
   have e1:((((l.map Slc.row).length:Nat):Int)).toNat=l.length:=by omega
   have e2:((((l.map Slc.row).length:Nat):Int)+1).toNat=l.length+1:=by omega
   have e3:=room_end (l:=l.map slcR) (z:=slc0 []) (x:=slc0 mark1) (y:=slc0 mark2)
   rw[hlm] at e3
   (conv=>whnf)
   (try (conv=>whnf));repeat' (first|refine Ok.seq ?_|((first|refine Ok.region tok ?_|refine Ok.cond ?_|refine Ok.exit ?_);conv=>whnf)|(refine bI ?_ ?_<;>intro<;>(conv=>whnf)<;>(try (exfalso;omega)))|(refine aJ ?_;conv=>whnf)|fail)
   rw[e1]
   refine st (slc0 mark1) h1 (by simp[Slc.row]) (by simp[setCells,Slc.row,line0,rule0,slc0,box0,mark1]) ?_
   (try (conv=>whnf));repeat' (first|refine Ok.seq ?_|((first|refine Ok.region tok ?_|refine nI ?_|refine aJ ?_);conv=>whnf)|fail)
   rw[e2]
   refine st (slc0 mark2) h2 (by simp[Slc.row]) (by simp[setCells,Slc.row,line0,rule0,slc0,box0,mark2]) ?_
   rw[e3]
   (try (conv=>whnf));repeat' (first|refine Ok.seq ?_|(refine Ok.region tok ?_;conv=>whnf)|fail)
   refine⟨l.length,rfl,by show ((l.map Slc.row).length:Int)=_;simp,by simp,?_⟩
   (conv=>whnf)
   (try (conv=>whnf));repeat' (first|(refine Ok.ret ?_;conv=>whnf)|fail)
   refine Or.inr (Or.inl ?_);(conv=>whnf)
   exact⟨rfl,rfl⟩
set_option maxRecDepth 100000 in
set_option maxHeartbeats 4000000 in
theorem roomBoxes_at(l:List Box){rl sl:List (List D)}(hl:l.length<=1048576)(hok:∀ x ∈ l,x.Ok)(h:rl=l.map Box.row):FSpec Tryz.prog T 48 [.lst 87 rl sl] (fun d rows=>rows=[some (87,(l.map boxR++[box0 mark1,box0 mark2]).map Box.row)]/\d = .own 0 l.length):=by
 subst h
 have hll:(l.map Box.row).length=l.length:=by simp
 refine FSpec.of_ok tok Tryz.func48 rfl Tryz.call48 (by simp) ?_
 (try (conv=>whnf));repeat' (first|refine Ok.seq ?_|(refine Ok.region tok ?_;conv=>whnf)|refine Ok.block ?_|((first|refine nI ?_|refine⟨_,_,rfl,rfl,?_⟩|refine aJ ?_|refine⟨_,rfl,?_⟩);conv=>whnf)|fail)
 refine Ok.loopU [0,3] [4] 1 0 (fun (k:Nat)=>[.i .i64 (k:Nat)]) (fun _ b=>b) (fun (k:Nat) (_:Vx.Rows)=>[some (87,((l.map boxR).take k++List.replicate (l.length+2 - k) (box0 [])).map Box.row)]) (fun (k:Nat)=>k<=l.length) (fun (k:Nat)=>l.length - k) (0) (Nat.zero_le _) ?_;(conv=>whnf);refine⟨by ((conv=>whnf);first|rfl|(simp[envCat, List.take_of_length_le, SI.row, Node.row, Pfx.row, Link.row, srow, Line.row, Rule.row, Box.row, Slc.row, Config.row, line0, rule0, slc0, box0];done)|(simp[envCat, List.take_of_length_le, SI.row, Node.row, Pfx.row, Link.row, srow, Line.row, Rule.row, Box.row, Slc.row, Config.row, line0, rule0, slc0, box0];rw[IntKind.wrap_i64];omega)),?_⟩
 rintro k hk
 have htl:(((l.map boxR).take k++List.replicate (l.length+2 - k) (box0 [])).map Box.row).length=l.length+2:=by simp;omega
 by_cases hkl:k<l.length
 . obtain⟨x,hx⟩:∃ x,l[k]? = some x:=⟨_,List.getElem?_eq_getElem hkl⟩
   have hxm:(l.map boxR)[k]? = some (boxR x):=by simp[hx]
   have hxo:=hok x (List.mem_of_getElem? hx)
   obtain⟨m,hm⟩:∃ m,l.length+2 - k=m+1:=⟨l.length+1 - k,by omega⟩
   rw[hm] at htl ⊢
   have hz:((l.map boxR).take k++List.replicate (m+1) (box0 []))[k]? = some (box0 []):=room_at (by simp;omega)
   have hs:=room_set (z:=box0 []) (m:=m) hxm
   generalize hLL:(l.map boxR).take k++List.replicate (m+1) (box0 [])=LL at htl hz hs ⊢
   have hLl:LL.length=l.length+2:=by simpa using htl
   have hset:∀ (M:List Box) (y:Box),M.length=l.length+2->(M.set k y)[k]? = some y:=fun M y h=>List.getElem?_set_self (by omega)
   have hlen:∀ (M:List Box) (y:Box),M.length=l.length+2->((M.set k y).map Box.row).length=l.length+2:=fun M y h=>by simp[h]
   have hsl:∀ (M:List Box) (y:Box),M.length=l.length+2->(M.set k y).length=l.length+2:=fun M y h=>by simp[h]
   clear hLL
   (conv=>whnf)
   (try (conv=>whnf));repeat' (first|refine Ok.seq ?_|((first|refine Ok.region tok ?_|refine Ok.region_plan (id:=6) tok follows [(5,6,[]),(5,9,[6]),(8,9,[]),(6,9,[]),(5,12,[9,6]),(8,12,[9]),(11,12,[]),(6,12,[9]),(9,12,[]),(5,15,[12,9,6]),(8,15,[12,9]),(11,15,[12]),(14,15,[]),(6,15,[12,9]),(9,15,[12]),(12,15,[]),(5,18,[15,12,9,6]),(8,18,[15,12,9]),(11,18,[15,12]),(14,18,[15]),(17,18,[]),(6,18,[15,12,9]),(9,18,[15,12]),(12,18,[15]),(15,18,[]),(5,21,[18,15,12,9,6]),(8,21,[18,15,12,9]),(11,21,[18,15,12]),(14,21,[18,15]),(17,21,[18]),(20,21,[]),(6,21,[18,15,12,9]),(9,21,[18,15,12]),(12,21,[18,15]),(15,21,[18]),(18,21,[]),(3,24,[]),(5,24,[]),(8,24,[]),(11,24,[]),(14,24,[]),(17,24,[]),(20,24,[]),(6,24,[]),(9,24,[]),(12,24,[]),(15,24,[]),(18,24,[]),(21,24,[])] [.q 0,.q 1,.q 2,.q 3,.q 4,.q 5,.q 7,.q 8,.q 10,.q 11,.q 13,.q 14,.q 16,.q 17,.q 19,.q 20,.l 6,.l 9,.l 12,.l 15,.l 18,.l 21,.q 22,.q 23,.l 24] (by kernel_rfl) ?_|refine Ok.cond ?_);conv=>whnf)|refine Ok.block ?_|((first|refine Ok.skip ?_|refine ix _ (by assumption) ?_);conv=>whnf)|(refine bI ?_ ?_<;>intro<;>(conv=>whnf)<;>(try (exfalso;omega)))|fail)
   right
   left
   (conv=>whnf)
   refine⟨_,roomNames_at x.ins.l hxo.ins rfl,?_⟩
   rintro d rows ⟨rfl,rfl⟩
   (try (conv=>whnf));repeat' (first|fail)
   right
   left
   (conv=>whnf)
   refine⟨_,roomNames_at x.outs.l hxo.outs rfl,?_⟩
   rintro d rows ⟨rfl,rfl⟩
   (try (conv=>whnf));repeat' (first|fail)
   right
   left
   (conv=>whnf)
   refine⟨_,roomGuards_at x.guards.l hxo.guards hxo.line rfl,?_⟩
   rintro d rows ⟨rfl,rfl⟩
   (try (conv=>whnf));repeat' (first|fail)
   right
   left
   (conv=>whnf)
   refine⟨_,roomRules_at x.rules.l hxo.rules hxo.rule rfl,?_⟩
   rintro d rows ⟨rfl,rfl⟩
   (try (conv=>whnf));repeat' (first|fail)
   right
   left
   (conv=>whnf)
   refine⟨_,roomPrefixes_at x.owns.l hxo.owns rfl,?_⟩
   rintro d rows ⟨rfl,rfl⟩
   (try (conv=>whnf));repeat' (first|fail)
   right
   left
   (conv=>whnf)
   refine⟨_,roomPrefixes_at x.routes.l hxo.routes rfl,?_⟩
   rintro d rows ⟨rfl,rfl⟩
   (try (conv=>whnf));repeat' (first|(refine aJ ?_;conv=>whnf)|fail)
   refine st (boxR x) hz (by simp[Box.row]) (by rw[tk2,dr2,tk2,dr2,tk3,dr3,tk3,dr3,tk2,dr2,tk2,dr2];rfl) ?_
   (try (conv=>whnf));repeat' (first|((first|refine Ok.region tok ?_|refine nI ?_);conv=>whnf)|fail)
   refine⟨k+1,by omega,by omega,?_⟩
   rw[show l.length+2 - (k+1)=m by omega,<- hs]
   (conv=>whnf);simp[envCat,List.set_set]
 . obtain rfl:k=l.length:=by omega
   have hlm:(l.map boxR).length=l.length:=by simp
   rw[show l.length+2 - l.length=2 by omega,List.take_of_length_le (by omega)] at htl ⊢
   have h1:(l.map boxR++List.replicate 2 (box0 []))[l.length]? = some (box0 []):=by simp
   have h2:((l.map boxR++List.replicate 2 (box0 [])).set l.length (box0 mark1))[l.length+1]? = some (box0 []):=by
    rw[List.getElem?_set_ne (by omega)];simp
   have htl2:(((l.map boxR++List.replicate 2 (box0 [])).set l.length (box0 mark1)).map Box.row).length=l.length+2:=by simp
   have e1:((((l.map Box.row).length:Nat):Int)).toNat=l.length:=by omega
   have e2:((((l.map Box.row).length:Nat):Int)+1).toNat=l.length+1:=by omega
   have e3:=room_end (l:=l.map boxR) (z:=box0 []) (x:=box0 mark1) (y:=box0 mark2)
   rw[hlm] at e3
   (conv=>whnf)
   (try (conv=>whnf));repeat' (first|refine Ok.seq ?_|((first|refine Ok.region tok ?_|refine Ok.cond ?_|refine Ok.exit ?_);conv=>whnf)|(refine bI ?_ ?_<;>intro<;>(conv=>whnf)<;>(try (exfalso;omega)))|(refine aJ ?_;conv=>whnf)|fail)
   rw[e1]
   refine st (box0 mark1) h1 (by simp[Box.row]) (by simp[setCells,Box.row,line0,rule0,slc0,box0,mark1]) ?_
   (try (conv=>whnf));repeat' (first|refine Ok.seq ?_|((first|refine Ok.region tok ?_|refine nI ?_|refine aJ ?_);conv=>whnf)|fail)
   rw[e2]
   refine st (box0 mark2) h2 (by simp[Box.row]) (by simp[setCells,Box.row,line0,rule0,slc0,box0,mark2]) ?_
   rw[e3]
   (try (conv=>whnf));repeat' (first|refine Ok.seq ?_|(refine Ok.region tok ?_;conv=>whnf)|fail)
   refine⟨l.length,rfl,by show ((l.map Box.row).length:Int)=_;simp,by simp,?_⟩
   (conv=>whnf)
   (try (conv=>whnf));repeat' (first|(refine Ok.ret ?_;conv=>whnf)|fail)
   refine Or.inr (Or.inl ?_);(conv=>whnf)
   exact⟨rfl,rfl⟩
end Go.Proofs.YtcglkonooeddfaaGreatDoor
namespace Go.Proofs.YtcglkonooeddfaaGreatDoor
open Go Go.Vx
theorem mk_at0{α β:Type}{l:List α}{f:α->β}{a b:α}:(l++[a,b])[(l.map f).length]? = some a:=by simp
theorem mk_at2{α β:Type}{l:List α}{f:α->β}{a b:α}:(l++[a,b])[(((l.map f).length:Nat)+1:Int).toNat]? = some b:=by
 rw[show (((l.map f).length:Nat)+1:Int).toNat=l.length+1 by rw[List.length_map];rfl]
 simp
theorem D.b_tt{p:Prop}(h:p):D.b p=D.b True:=by rw[eq_true h]
set_option maxRecDepth 100000 in
theorem markNames_at(l:List Str){rl sl:List (List D)}(h:rl=l.map srow)(hs:sl=rStrs):FSpec Tryz.prog T 99 [.lst 9 rl sl] (fun d _=>d = .b True):=by
 subst h hs
 refine FSpec.of_len Tryz.call99 0 rfl fun hlen=>?_
 have hll:(l.map srow).length=l.length:=by simp
 have hlen2:l.length+2<=9223372036854775807:=by simp only[rStrs,List.length_cons,List.length_nil] at hlen;omega
 refine FSpec.of_ok tok Tryz.func99 rfl Tryz.call99 (by simp) ?_
 (try (conv=>whnf));repeat' (first|refine Ok.seq ?_|((first|refine Ok.region tok ?_|refine nI ?_|refine⟨_,_,rfl,rfl,?_⟩|refine aJ ?_);conv=>whnf)|fail)
 refine⟨(by simp[rStrs]),(l++[mark1,mark2]).map srow,[],(by rw[List.drop_zero,List.take_of_length_le (by simp[rStrs])];simp[rStrs]),(by simp[rStrs]),?_⟩
 have hi0:(l++[mark1,mark2])[(l.map srow).length]? = some (mark1):=mk_at0
 have hi1:(l++[mark1,mark2])[(((l.map srow).length:Nat)+1:Int).toNat]? = some (mark2):=mk_at2
 (conv=>whnf)
 (try (conv=>whnf));repeat' (first|refine Ok.seq ?_|((first|refine Ok.region tok ?_|refine Ok.ret ?_|refine nI ?_|refine ix _ (by assumption) ?_);conv=>whnf)|(refine bI ?_ ?_<;>intro<;>(conv=>whnf)<;>(try (exfalso;omega)))|fail)
 all_goals try (exfalso;rename_i hx;exact hx (by first|rfl|simp[eqDs,eqD]))
 refine Or.inl ?_;(conv=>whnf)
 exact D.b_tt rfl
set_option maxRecDepth 100000 in
theorem markNodes_at(l:List Node){rl sl:List (List D)}(h:rl=l.map Node.row)(hs:sl=rNodes):FSpec Tryz.prog T 100 [.lst 219 rl sl] (fun d _=>d = .b True):=by
 subst h hs
 refine FSpec.of_len Tryz.call100 0 rfl fun hlen=>?_
 have hll:(l.map Node.row).length=l.length:=by simp
 have hlen2:l.length+2<=9223372036854775807:=by simp only[rNodes,List.length_cons,List.length_nil] at hlen;omega
 refine FSpec.of_ok tok Tryz.func100 rfl Tryz.call100 (by simp) ?_
 (try (conv=>whnf));repeat' (first|refine Ok.seq ?_|((first|refine Ok.region tok ?_|refine nI ?_|refine⟨_,_,rfl,rfl,?_⟩|refine aJ ?_);conv=>whnf)|fail)
 refine⟨(by simp[rNodes]),(l++[(⟨4711,[],0,0,0,0,0,[]⟩:Node),(⟨4712,[],0,0,0,0,0,[]⟩:Node)]).map Node.row,[],(by rw[List.drop_zero,List.take_of_length_le (by simp[rNodes])];simp[rNodes]),(by simp[rNodes]),?_⟩
 have hi0:(l++[(⟨4711,[],0,0,0,0,0,[]⟩:Node),(⟨4712,[],0,0,0,0,0,[]⟩:Node)])[(l.map Node.row).length]? = some ((⟨4711,[],0,0,0,0,0,[]⟩:Node)):=mk_at0
 have hi1:(l++[(⟨4711,[],0,0,0,0,0,[]⟩:Node),(⟨4712,[],0,0,0,0,0,[]⟩:Node)])[(((l.map Node.row).length:Nat)+1:Int).toNat]? = some ((⟨4712,[],0,0,0,0,0,[]⟩:Node)):=mk_at2
 (conv=>whnf)
 (try (conv=>whnf));repeat' (first|refine Ok.seq ?_|((first|refine Ok.region tok ?_|refine ix _ (by assumption) ?_);conv=>whnf)|fail)
 refine⟨_,eqNodC,by kernel_rfl,?_⟩
 (conv=>whnf)
 (try (conv=>whnf));repeat' (first|((first|refine Ok.ret ?_|refine nI ?_|refine ix _ (by assumption) ?_);conv=>whnf)|(refine bI ?_ ?_<;>intro<;>(conv=>whnf)<;>(try (exfalso;omega)))|fail)
 all_goals try (exfalso;rename_i hx;exact hx (by first|rfl|simp[eqDs,eqD]))
 . refine⟨_,eqNodC,by kernel_rfl,?_⟩
   (conv=>whnf)
   (try (conv=>whnf));repeat' (first|(refine Ok.ret ?_;conv=>whnf)|fail)
   refine Or.inl ?_;(conv=>whnf)
   exact D.b_tt (by simp[eqDs,eqD])
set_option maxRecDepth 100000 in
theorem markSets_at(l:List SI){rl sl:List (List D)}(h:rl=l.map SI.row)(hs:sl=rSets):FSpec Tryz.prog T 156 [.lst 243 rl sl] (fun d _=>d = .b True):=by
 subst h hs
 refine FSpec.of_len Tryz.call156 0 rfl fun hlen=>?_
 have hll:(l.map SI.row).length=l.length:=by simp
 have hlen2:l.length+2<=9223372036854775807:=by simp only[rSets,List.length_cons,List.length_nil] at hlen;omega
 refine FSpec.of_ok tok Tryz.func156 rfl Tryz.call156 (by simp) ?_
 (try (conv=>whnf));repeat' (first|refine Ok.seq ?_|((first|refine Ok.region tok ?_|refine nI ?_|refine⟨_,_,rfl,rfl,?_⟩|refine aJ ?_);conv=>whnf)|fail)
 refine⟨(by simp[rSets]),(l++[(⟨[],4711⟩:SI),(⟨[],4712⟩:SI)]).map SI.row,[],(by rw[List.drop_zero,List.take_of_length_le (by simp[rSets])];simp[rSets]),(by simp[rSets]),?_⟩
 have hi0:(l++[(⟨[],4711⟩:SI),(⟨[],4712⟩:SI)])[(l.map SI.row).length]? = some ((⟨[],4711⟩:SI)):=mk_at0
 have hi1:(l++[(⟨[],4711⟩:SI),(⟨[],4712⟩:SI)])[(((l.map SI.row).length:Nat)+1:Int).toNat]? = some ((⟨[],4712⟩:SI)):=mk_at2
 (conv=>whnf)
 (try (conv=>whnf));repeat' (first|refine Ok.seq ?_|((first|refine Ok.region tok ?_|refine ix _ (by assumption) ?_);conv=>whnf)|fail)
 refine⟨_,eqSI74,by kernel_rfl,?_⟩
 (conv=>whnf)
 (try (conv=>whnf));repeat' (first|((first|refine Ok.ret ?_|refine nI ?_|refine ix _ (by assumption) ?_);conv=>whnf)|(refine bI ?_ ?_<;>intro<;>(conv=>whnf)<;>(try (exfalso;omega)))|fail)
 all_goals try (exfalso;rename_i hx;exact hx (by first|rfl|simp[eqDs,eqD]))
 . refine⟨_,eqSI74,by kernel_rfl,?_⟩
   (conv=>whnf)
   (try (conv=>whnf));repeat' (first|(refine Ok.ret ?_;conv=>whnf)|fail)
   refine Or.inl ?_;(conv=>whnf)
   exact D.b_tt (by simp[eqDs,eqD])
set_option maxRecDepth 100000 in
theorem markPrefixes_at(l:List Pfx){rl sl:List (List D)}(h:rl=l.map Pfx.row)(hs:sl=rPfxs):FSpec Tryz.prog T 157 [.lst 246 rl sl] (fun d _=>d = .b True):=by
 subst h hs
 refine FSpec.of_len Tryz.call157 0 rfl fun hlen=>?_
 have hll:(l.map Pfx.row).length=l.length:=by simp
 have hlen2:l.length+2<=9223372036854775807:=by simp only[rPfxs,List.length_cons,List.length_nil] at hlen;omega
 refine FSpec.of_ok tok Tryz.func157 rfl Tryz.call157 (by simp) ?_
 (try (conv=>whnf));repeat' (first|refine Ok.seq ?_|((first|refine Ok.region tok ?_|refine nI ?_|refine⟨_,_,rfl,rfl,?_⟩|refine aJ ?_);conv=>whnf)|fail)
 refine⟨(by simp[rPfxs]),(l++[(⟨4711,0,[]⟩:Pfx),(⟨4712,0,[]⟩:Pfx)]).map Pfx.row,[],(by rw[List.drop_zero,List.take_of_length_le (by simp[rPfxs])];simp[rPfxs]),(by simp[rPfxs]),?_⟩
 have hi0:(l++[(⟨4711,0,[]⟩:Pfx),(⟨4712,0,[]⟩:Pfx)])[(l.map Pfx.row).length]? = some ((⟨4711,0,[]⟩:Pfx)):=mk_at0
 have hi1:(l++[(⟨4711,0,[]⟩:Pfx),(⟨4712,0,[]⟩:Pfx)])[(((l.map Pfx.row).length:Nat)+1:Int).toNat]? = some ((⟨4712,0,[]⟩:Pfx)):=mk_at2
 (conv=>whnf)
 (try (conv=>whnf));repeat' (first|refine Ok.seq ?_|((first|refine Ok.region tok ?_|refine ix _ (by assumption) ?_);conv=>whnf)|fail)
 refine⟨_,eqPfx,by kernel_rfl,?_⟩
 (conv=>whnf)
 (try (conv=>whnf));repeat' (first|((first|refine Ok.ret ?_|refine nI ?_|refine ix _ (by assumption) ?_);conv=>whnf)|(refine bI ?_ ?_<;>intro<;>(conv=>whnf)<;>(try (exfalso;omega)))|fail)
 all_goals try (exfalso;rename_i hx;exact hx (by first|rfl|simp[eqDs,eqD]))
 . refine⟨_,eqPfx,by kernel_rfl,?_⟩
   (conv=>whnf)
   (try (conv=>whnf));repeat' (first|(refine Ok.ret ?_;conv=>whnf)|fail)
   refine Or.inl ?_;(conv=>whnf)
   exact D.b_tt (by simp[eqDs,eqD])
end Go.Proofs.YtcglkonooeddfaaGreatDoor
namespace Go.Proofs.YtcglkonooeddfaaGreatDoor
open Go Go.Vx
structure BoxM(b:Box):Prop where
 glen:b.guards.l.length<=1048576
 rlen:b.rules.l.length<=1048576
 g:∀ x ∈ b.guards.l,x.mtch.room=rNodes
 frm:∀ x ∈ b.rules.l,x.frm.room=rStrs
 mtch:∀ x ∈ b.rules.l,x.mtch.room=rNodes
 sets:∀ x ∈ b.rules.l,x.sets.room=rSets
 dst:∀ x ∈ b.rules.l,x.dst.room=rStrs
 ins:b.ins.room=rStrs
 outs:b.outs.room=rStrs
 owns:b.owns.room=rPfxs
 routes:b.routes.room=rPfxs
def gMarks:List (List D):=[(line0 mark1).row,(line0 mark2).row]
def uMarks:List (List D):=[(rule0 4711).row,(rule0 4712).row]
def bMarks:List (List D):=[(box0 mark1).row,(box0 mark2).row]
def lMarks:List (List D):=[(⟨mark1,[],0⟩:Link).row,(⟨mark2,[],0⟩:Link).row]
def sMarks:List (List D):=[(slc0 mark1).row,(slc0 mark2).row]
def fMarks:List (List D):=[(⟨mark1,0⟩:SI).row,(⟨mark2,0⟩:SI).row]
set_option maxRecDepth 100000 in
theorem markBox_at(b:Box)(hb:BoxM b):FSpec Tryz.prog T 97 [.agg b.row] (fun d _=>d = .b True):=by
 have hgl:=hb.glen
 have hrl:=hb.rlen
 have hgm:(b.guards.l.map Line.row).length=b.guards.l.length:=by simp
 have hrm:(b.rules.l.map Rule.row).length=b.rules.l.length:=by simp
 refine FSpec.of_ok tok Tryz.func97 rfl Tryz.call97 (by simp) ?_
 (try (conv=>whnf));repeat' (first|refine Ok.seq ?_|(refine Ok.region tok ?_;conv=>whnf)|refine Ok.block ?_|fail)
 refine Ok.loopU [1] [3] 0 1 (fun (k:Nat)=>[.i .i64 (k:Nat)]) (fun _ b=>b) (fun _ r=>r) (fun (k:Nat)=>k<=b.guards.l.length) (fun (k:Nat)=>b.guards.l.length - k) (0) (Nat.zero_le _) ?_;(conv=>whnf);refine⟨by ((conv=>whnf);first|rfl|(simp[envCat, List.take_of_length_le, SI.row, Node.row, Pfx.row, Link.row, srow, Line.row, Rule.row, Box.row, Slc.row, Config.row];done)|(simp[envCat, List.take_of_length_le, SI.row, Node.row, Pfx.row, Link.row, srow, Line.row, Rule.row, Box.row, Slc.row, Config.row];rw[IntKind.wrap_i64];omega)),?_⟩
 rintro k hk
 by_cases hkl:k<b.guards.l.length
 . obtain⟨y,hy⟩:∃ y,b.guards.l[k]? = some y:=⟨_,List.getElem?_eq_getElem hkl⟩
   have hm:=List.mem_of_getElem? hy
   (try (conv=>whnf));repeat' (first|refine Ok.seq ?_|((first|refine Ok.region tok ?_|refine Ok.cond ?_);conv=>whnf)|refine Ok.block ?_|((first|refine Ok.skip ?_|refine Ok.ret ?_|refine nI ?_|refine ix _ (by assumption) ?_);conv=>whnf)|(refine Or.inl ?_;(conv=>whnf);(repeat (refine aI ?_;conv=>whnf));refine⟨_,markNodes_at y.mtch.l rfl (hb.g y hm),rfl,?_⟩;conv=>whnf)|(refine bI ?_ ?_<;>intro<;>(conv=>whnf)<;>(try (exfalso;omega)))|fail)
   . exfalso;rename_i hx;exact hx trivial
   . refine⟨k+1,by omega,by omega,?_⟩
     (conv=>whnf);(first|rfl|simp[envCat, List.take_of_length_le, SI.row, Node.row, Pfx.row, Link.row, srow, Line.row, Rule.row, Box.row, Slc.row, Config.row])
 obtain rfl:k=b.guards.l.length:=by omega
 (try (conv=>whnf));repeat' (first|refine Ok.seq ?_|((first|refine Ok.region tok ?_|refine Ok.cond ?_);conv=>whnf)|refine Ok.block ?_|(refine Ok.exit ?_;conv=>whnf)|(refine bI ?_ ?_<;>intro<;>(conv=>whnf)<;>(try (exfalso;omega)))|fail)
 refine Ok.loopU [1] [5] 0 1 (fun (k:Nat)=>[.i .i64 (k:Nat)]) (fun _ b=>b) (fun _ r=>r) (fun (k:Nat)=>k<=b.rules.l.length) (fun (k:Nat)=>b.rules.l.length - k) (0) (Nat.zero_le _) ?_;(conv=>whnf);refine⟨by ((conv=>whnf);first|rfl|(simp[envCat, List.take_of_length_le, SI.row, Node.row, Pfx.row, Link.row, srow, Line.row, Rule.row, Box.row, Slc.row, Config.row];done)|(simp[envCat, List.take_of_length_le, SI.row, Node.row, Pfx.row, Link.row, srow, Line.row, Rule.row, Box.row, Slc.row, Config.row];rw[IntKind.wrap_i64];omega)),?_⟩
 rintro k hk
 by_cases hkl:k<b.rules.l.length
 . obtain⟨y,hy⟩:∃ y,b.rules.l[k]? = some y:=⟨_,List.getElem?_eq_getElem hkl⟩
   have hm:=List.mem_of_getElem? hy
   (try (conv=>whnf));repeat' (first|refine Ok.seq ?_|((first|refine Ok.region tok ?_|refine Ok.cond ?_);conv=>whnf)|refine Ok.block ?_|((first|refine Ok.skip ?_|refine Ok.ret ?_|refine nI ?_|refine ix _ (by assumption) ?_);conv=>whnf)|(refine Or.inl ?_;(conv=>whnf);(repeat (refine aI ?_;conv=>whnf));refine⟨_,markNames_at y.frm.l rfl (hb.frm y hm),rfl,?_⟩;conv=>whnf)|(refine Or.inl ?_;(conv=>whnf);(repeat (refine aI ?_;conv=>whnf));refine⟨_,markNodes_at y.mtch.l rfl (hb.mtch y hm),rfl,?_⟩;conv=>whnf)|(refine Or.inl ?_;(conv=>whnf);(repeat (refine aI ?_;conv=>whnf));refine⟨_,markSets_at y.sets.l rfl (hb.sets y hm),rfl,?_⟩;conv=>whnf)|(refine Or.inl ?_;(conv=>whnf);(repeat (refine aI ?_;conv=>whnf));refine⟨_,markNames_at y.dst.l rfl (hb.dst y hm),rfl,?_⟩;conv=>whnf)|(refine bI ?_ ?_<;>intro<;>(conv=>whnf)<;>(try (exfalso;omega)))|fail)
   all_goals first
    | (exfalso;rename_i hx;exact hx trivial)
    | (exfalso;rename_i hx;exact hx not_false)
    | (refine⟨k+1,by omega,by omega,?_⟩;(conv=>whnf);(first|rfl|simp[envCat, List.take_of_length_le, SI.row, Node.row, Pfx.row, Link.row, srow, Line.row, Rule.row, Box.row, Slc.row, Config.row]))
 obtain rfl:k=b.rules.l.length:=by omega
 (try (conv=>whnf));repeat' (first|refine Ok.seq ?_|((first|refine Ok.region tok ?_|refine Ok.cond ?_|refine Ok.exit ?_|refine Ok.ret ?_);conv=>whnf)|(refine Or.inl ?_;(conv=>whnf);(repeat (refine aI ?_;conv=>whnf));refine⟨_,markNames_at b.ins.l rfl hb.ins,rfl,?_⟩;conv=>whnf)|(refine Or.inl ?_;(conv=>whnf);(repeat (refine aI ?_;conv=>whnf));refine⟨_,markNames_at b.outs.l rfl hb.outs,rfl,?_⟩;conv=>whnf)|(refine Or.inl ?_;(conv=>whnf);(repeat (refine aI ?_;conv=>whnf));refine⟨_,markPrefixes_at b.owns.l rfl hb.owns,rfl,?_⟩;conv=>whnf)|(refine Or.inl ?_;(conv=>whnf);(repeat (refine aI ?_;conv=>whnf));refine⟨_,markPrefixes_at b.routes.l rfl hb.routes,rfl,?_⟩;conv=>whnf)|(refine bI ?_ ?_<;>intro<;>(conv=>whnf)<;>(try (exfalso;omega)))|fail)
 all_goals first
  | (exfalso;rename_i hx;exact hx trivial)
  | (exfalso;rename_i hx;exact hx not_false)
  | (refine Or.inl ?_;(conv=>whnf);rfl)
set_option maxRecDepth 100000 in
theorem markLists_at(b:Box)(hg:b.guards.room=gMarks)(hr:b.rules.room=uMarks)(hgl:b.guards.l.length<=1048576)(hrl:b.rules.l.length<=1048576):FSpec Tryz.prog T 98 [.agg b.row] (fun d _=>d = .b True):=by
 have h0g:(b.guards.l++[line0 mark1,line0 mark2])[(b.guards.l.map Line.row).length]? = some (line0 mark1):=mk_at0
 have h1g:(b.guards.l++[line0 mark1,line0 mark2])[(((b.guards.l.map Line.row).length:Nat)+1:Int).toNat]? = some (line0 mark2):=mk_at2
 have hlg:(b.guards.l.map Line.row).length=b.guards.l.length:=by simp
 have h0r:(b.rules.l++[rule0 4711,rule0 4712])[(b.rules.l.map Rule.row).length]? = some (rule0 4711):=mk_at0
 have h1r:(b.rules.l++[rule0 4711,rule0 4712])[(((b.rules.l.map Rule.row).length:Nat)+1:Int).toNat]? = some (rule0 4712):=mk_at2
 have hlr:(b.rules.l.map Rule.row).length=b.rules.l.length:=by simp
 refine FSpec.of_ok tok Tryz.func98 rfl Tryz.call98 (by simp) ?_
 (try (conv=>whnf));repeat' (first|refine Ok.seq ?_|((first|refine Ok.region tok ?_|refine nI ?_|refine⟨_,_,rfl,rfl,?_⟩|refine aJ ?_);conv=>whnf)|fail)
 refine⟨(by rw[hg];simp[gMarks]),(b.guards.l++[line0 mark1,line0 mark2]).map Line.row,[],(by rw[hg,List.drop_zero,List.take_of_length_le (by simp[gMarks])];simp[gMarks]),(by rw[hg];simp[gMarks]),?_⟩
 (conv=>whnf)
 (try (conv=>whnf));repeat' (first|refine Ok.seq ?_|((first|refine Ok.region tok ?_|refine nI ?_|refine⟨_,_,rfl,rfl,?_⟩|refine aJ ?_);conv=>whnf)|fail)
 refine⟨(by rw[hr];simp[uMarks]),(b.rules.l++[rule0 4711,rule0 4712]).map Rule.row,[],(by rw[hr,List.drop_zero,List.take_of_length_le (by simp[uMarks])];simp[uMarks]),(by rw[hr];simp[uMarks]),?_⟩
 (conv=>whnf)
 (try (conv=>whnf));repeat' (first|refine Ok.seq ?_|((first|refine Ok.region tok ?_|refine Ok.ret ?_|refine nI ?_|refine ix _ (by assumption) ?_);conv=>whnf)|(refine bI ?_ ?_<;>intro<;>(conv=>whnf)<;>(try (exfalso;omega)))|fail)
 all_goals try (exfalso;rename_i hx;exact hx rfl)
 refine Or.inl ?_;(conv=>whnf)
 exact D.b_tt rfl
structure MarkOk(c k:Config):Prop where
 eq:equalP False c.b k.b
 cF:c.fields.l.length<=1048576
 cB:c.boxes.l.length<=1048576
 cL:c.links.l.length<=1048576
 cS:c.slices.l.length<=1048576
 box:∀ b ∈ k.boxes.l,BoxM b
 lists:∀ b ∈ c.boxes.l,b.guards.room=gMarks/\b.rules.room=uMarks/\b.guards.l.length<=1048576/\b.rules.l.length<=1048576
 slc:∀ s ∈ k.slices.l,s.ports.room=rStrs/\s.whr.room=rNodes
 rb:c.boxes.room=bMarks
 rl:c.links.room=lMarks
 rs:c.slices.room=sMarks
 rf:c.fields.room=fMarks
set_option maxRecDepth 100000 in
set_option maxHeartbeats 4000000 in
theorem Marked_at(c k:Config)(h:MarkOk c k):FSpec Tryz.prog T 52 [.agg c.row,.agg k.row] (fun d _=>d = .b True):=by
 obtain⟨he,hF,hB,hL,hS,hbox,hlists,hslc,hrb,hrl,hrs,hrf⟩:=h
 have hlb:c.boxes.l.length=k.boxes.l.length:=by have:=he.2.2.2.2.1.1;simpa[Config.b] using this
 have hls:c.slices.l.length=k.slices.l.length:=by have:=congrArg List.length ((eqL_ff _ _ _).1 he.2.2.2.2.2.2);simpa[Config.b] using this
 have hEq:=Equal_at c k hF hB
 rw[eq_true he] at hEq
 have hkm:(k.boxes.l.map Box.row).length=k.boxes.l.length:=by simp
 have hks:(k.slices.l.map Slc.row).length=k.slices.l.length:=by simp
 have h0b:(c.boxes.l++[box0 mark1,box0 mark2])[(c.boxes.l.map Box.row).length]? = some (box0 mark1):=mk_at0
 have h1b:(c.boxes.l++[box0 mark1,box0 mark2])[(((c.boxes.l.map Box.row).length:Nat)+1:Int).toNat]? = some (box0 mark2):=mk_at2
 have hlb:(c.boxes.l.map Box.row).length=c.boxes.l.length:=by simp
 have h0l:(c.links.l++[(⟨mark1,[],0⟩:Link),(⟨mark2,[],0⟩:Link)])[(c.links.l.map Link.row).length]? = some ((⟨mark1,[],0⟩:Link)):=mk_at0
 have h1l:(c.links.l++[(⟨mark1,[],0⟩:Link),(⟨mark2,[],0⟩:Link)])[(((c.links.l.map Link.row).length:Nat)+1:Int).toNat]? = some ((⟨mark2,[],0⟩:Link)):=mk_at2
 have hll:(c.links.l.map Link.row).length=c.links.l.length:=by simp
 have h0s:(c.slices.l++[slc0 mark1,slc0 mark2])[(c.slices.l.map Slc.row).length]? = some (slc0 mark1):=mk_at0
 have h1s:(c.slices.l++[slc0 mark1,slc0 mark2])[(((c.slices.l.map Slc.row).length:Nat)+1:Int).toNat]? = some (slc0 mark2):=mk_at2
 have hls:(c.slices.l.map Slc.row).length=c.slices.l.length:=by simp
 have h0f:(c.fields.l++[(⟨mark1,0⟩:SI),(⟨mark2,0⟩:SI)])[(c.fields.l.map SI.row).length]? = some ((⟨mark1,0⟩:SI)):=mk_at0
 have h1f:(c.fields.l++[(⟨mark1,0⟩:SI),(⟨mark2,0⟩:SI)])[(((c.fields.l.map SI.row).length:Nat)+1:Int).toNat]? = some ((⟨mark2,0⟩:SI)):=mk_at2
 have hlf:(c.fields.l.map SI.row).length=c.fields.l.length:=by simp
 refine FSpec.of_ok tok Tryz.func52 rfl Tryz.call52 (by simp) ?_
 (try (conv=>whnf));repeat' (first|refine Ok.seq ?_|((first|refine Ok.region tok ?_|refine Ok.cond ?_);conv=>whnf)|refine Ok.block ?_|((first|refine Ok.skip ?_|refine Ok.ret ?_);conv=>whnf)|(refine Or.inl ?_;(conv=>whnf);(repeat (refine aI ?_;conv=>whnf));refine⟨_,hEq,rfl,?_⟩;conv=>whnf)|(refine bI ?_ ?_<;>intro<;>(conv=>whnf)<;>(try (exfalso;omega)))|fail)
 . exfalso;rename_i hx;exact hx trivial
 refine Ok.loopU [2,3] [6] 0 2 (fun (j:Nat)=>[.i .i64 (j:Nat)]) (fun _ b=>b) (fun _ r=>r) (fun (j:Nat)=>j<=k.boxes.l.length) (fun (j:Nat)=>k.boxes.l.length - j) (0) (Nat.zero_le _) ?_;(conv=>whnf);refine⟨by ((conv=>whnf);first|rfl|(simp[envCat, List.take_of_length_le, SI.row, Node.row, Pfx.row, Link.row, srow, Line.row, Rule.row, Box.row, Slc.row, Config.row];done)|(simp[envCat, List.take_of_length_le, SI.row, Node.row, Pfx.row, Link.row, srow, Line.row, Rule.row, Box.row, Slc.row, Config.row];rw[IntKind.wrap_i64];omega)),?_⟩
 rintro j hj
 by_cases hjl:j<k.boxes.l.length
 . obtain⟨y,hy⟩:∃ y,k.boxes.l[j]? = some y:=⟨_,List.getElem?_eq_getElem hjl⟩
   obtain⟨x,hx⟩:∃ y,c.boxes.l[j]? = some y:=⟨_,List.getElem?_eq_getElem (by omega)⟩
   have hm:=hbox y (List.mem_of_getElem? hy)
   have hm2:=hlists x (List.mem_of_getElem? hx)
   (try (conv=>whnf));repeat' (first|refine Ok.seq ?_|((first|refine Ok.region tok ?_|refine Ok.cond ?_);conv=>whnf)|refine Ok.block ?_|((first|refine Ok.skip ?_|refine Ok.ret ?_|refine nI ?_|refine ix _ (by assumption) ?_);conv=>whnf)|(refine Or.inl ?_;(conv=>whnf);(repeat (refine aI ?_;conv=>whnf));refine⟨_,markBox_at y hm,rfl,?_⟩;conv=>whnf)|(refine Or.inl ?_;(conv=>whnf);(repeat (refine aI ?_;conv=>whnf));refine⟨_,markLists_at x hm2.1 hm2.2.1 hm2.2.2.1 hm2.2.2.2,rfl,?_⟩;conv=>whnf)|(refine bI ?_ ?_<;>intro<;>(conv=>whnf)<;>(try (exfalso;omega)))|fail)
   all_goals first
    | (exfalso;rename_i hx;exact hx trivial)
    | (exfalso;rename_i hx;exact hx not_false)
    | (refine⟨j+1,by omega,by omega,?_⟩;(conv=>whnf);(first|rfl|simp[envCat, List.take_of_length_le, SI.row, Node.row, Pfx.row, Link.row, srow, Line.row, Rule.row, Box.row, Slc.row, Config.row]))
 obtain rfl:j=k.boxes.l.length:=by omega
 (try (conv=>whnf));repeat' (first|refine Ok.seq ?_|((first|refine Ok.region tok ?_|refine Ok.cond ?_);conv=>whnf)|refine Ok.block ?_|(refine Ok.exit ?_;conv=>whnf)|(refine bI ?_ ?_<;>intro<;>(conv=>whnf)<;>(try (exfalso;omega)))|fail)
 refine Ok.loopU [2,3] [7] 0 2 (fun (j:Nat)=>[.i .i64 (j:Nat)]) (fun _ b=>b) (fun _ r=>r) (fun (j:Nat)=>j<=k.slices.l.length) (fun (j:Nat)=>k.slices.l.length - j) (0) (Nat.zero_le _) ?_;(conv=>whnf);refine⟨by ((conv=>whnf);first|rfl|(simp[envCat, List.take_of_length_le, SI.row, Node.row, Pfx.row, Link.row, srow, Line.row, Rule.row, Box.row, Slc.row, Config.row];done)|(simp[envCat, List.take_of_length_le, SI.row, Node.row, Pfx.row, Link.row, srow, Line.row, Rule.row, Box.row, Slc.row, Config.row];rw[IntKind.wrap_i64];omega)),?_⟩
 rintro j hj
 by_cases hjl:j<k.slices.l.length
 . obtain⟨y,hy⟩:∃ y,k.slices.l[j]? = some y:=⟨_,List.getElem?_eq_getElem hjl⟩
   have hm:=hslc y (List.mem_of_getElem? hy)
   (try (conv=>whnf));repeat' (first|refine Ok.seq ?_|((first|refine Ok.region tok ?_|refine Ok.cond ?_);conv=>whnf)|refine Ok.block ?_|((first|refine Ok.skip ?_|refine Ok.ret ?_|refine nI ?_|refine ix _ (by assumption) ?_);conv=>whnf)|(refine Or.inl ?_;(conv=>whnf);(repeat (refine aI ?_;conv=>whnf));refine⟨_,markNames_at y.ports.l rfl hm.1,rfl,?_⟩;conv=>whnf)|(refine Or.inl ?_;(conv=>whnf);(repeat (refine aI ?_;conv=>whnf));refine⟨_,markNodes_at y.whr.l rfl hm.2,rfl,?_⟩;conv=>whnf)|(refine bI ?_ ?_<;>intro<;>(conv=>whnf)<;>(try (exfalso;omega)))|fail)
   all_goals first
    | (exfalso;rename_i hx;exact hx trivial)
    | (exfalso;rename_i hx;exact hx not_false)
    | (refine⟨j+1,by omega,by omega,?_⟩;(conv=>whnf);(first|rfl|simp[envCat, List.take_of_length_le, SI.row, Node.row, Pfx.row, Link.row, srow, Line.row, Rule.row, Box.row, Slc.row, Config.row]))
 obtain rfl:j=k.slices.l.length:=by omega
 (try (conv=>whnf));repeat' (first|refine Ok.seq ?_|((first|refine Ok.region tok ?_|refine Ok.cond ?_|refine Ok.exit ?_|refine nI ?_|refine⟨_,_,rfl,rfl,?_⟩);conv=>whnf)|(refine bI ?_ ?_<;>intro<;>(conv=>whnf)<;>(try (exfalso;omega)))|(refine aJ ?_;conv=>whnf)|fail)
 refine⟨(by rw[hrb];simp[bMarks]),(c.boxes.l++[box0 mark1,box0 mark2]).map Box.row,[],(by rw[hrb,List.drop_zero,List.take_of_length_le (by simp[bMarks])];simp[bMarks]),(by rw[hrb];simp[bMarks]),?_⟩
 (conv=>whnf)
 (try (conv=>whnf));repeat' (first|refine Ok.seq ?_|((first|refine Ok.region tok ?_|refine nI ?_|refine⟨_,_,rfl,rfl,?_⟩|refine aJ ?_);conv=>whnf)|fail)
 refine⟨(by rw[hrl];simp[lMarks]),(c.links.l++[(⟨mark1,[],0⟩:Link),(⟨mark2,[],0⟩:Link)]).map Link.row,[],(by rw[hrl,List.drop_zero,List.take_of_length_le (by simp[lMarks])];simp[lMarks]),(by rw[hrl];simp[lMarks]),?_⟩
 (conv=>whnf)
 (try (conv=>whnf));repeat' (first|refine Ok.seq ?_|((first|refine Ok.region tok ?_|refine nI ?_|refine⟨_,_,rfl,rfl,?_⟩|refine aJ ?_);conv=>whnf)|fail)
 refine⟨(by rw[hrs];simp[sMarks]),(c.slices.l++[slc0 mark1,slc0 mark2]).map Slc.row,[],(by rw[hrs,List.drop_zero,List.take_of_length_le (by simp[sMarks])];simp[sMarks]),(by rw[hrs];simp[sMarks]),?_⟩
 (conv=>whnf)
 (try (conv=>whnf));repeat' (first|refine Ok.seq ?_|((first|refine Ok.region tok ?_|refine nI ?_|refine⟨_,_,rfl,rfl,?_⟩|refine aJ ?_);conv=>whnf)|fail)
 refine⟨(by rw[hrf];simp[fMarks]),(c.fields.l++[(⟨mark1,0⟩:SI),(⟨mark2,0⟩:SI)]).map SI.row,[],(by rw[hrf,List.drop_zero,List.take_of_length_le (by simp[fMarks])];simp[fMarks]),(by rw[hrf];simp[fMarks]),?_⟩
 (conv=>whnf)
 (try (conv=>whnf));repeat' (first|refine Ok.seq ?_|((first|refine Ok.region tok ?_|refine Ok.ret ?_|refine nI ?_|refine ix _ (by assumption) ?_);conv=>whnf)|(refine bI ?_ ?_<;>intro<;>(conv=>whnf)<;>(try (exfalso;omega)))|fail)
 all_goals try (exfalso;rename_i hx;exact hx rfl)
 refine Or.inl ?_;(conv=>whnf)
 exact D.b_tt rfl
end Go.Proofs.YtcglkonooeddfaaGreatDoor
namespace Go.Proofs.YtcglkonooeddfaaGreatDoor
open Go Go.Vx
def boxK(x:Box):Box:=⟨x.name,⟨x.ins.l,rStrs⟩,⟨x.outs.l,rStrs⟩,⟨x.guards.l.map lineR,[]⟩,⟨x.rules.l.map ruleR,[]⟩,⟨x.owns.l,rPfxs⟩,⟨x.routes.l,rPfxs⟩⟩
def configR(c:Config):Config:=⟨c.title,⟨c.fields.l,fMarks⟩,c.routing,c.slim,⟨c.boxes.l.map boxR,bMarks⟩,⟨c.links.l,lMarks⟩,⟨c.slices.l.map slcR,sMarks⟩⟩
def configK(c:Config):Config:=⟨c.title,⟨c.fields.l,fMarks⟩,c.routing,c.slim,⟨c.boxes.l.map boxK,[]⟩,⟨c.links.l,lMarks⟩,⟨c.slices.l.map slcR,[]⟩⟩
set_option maxRecDepth 100000 in
set_option maxHeartbeats 8000000 in
theorem Roomy_at(c:Config)(hc:c.Ok):FSpec Tryz.prog T 15 [.agg c.row] (fun d rows=>rows=[]/\d = .tup [.agg (configR c).row,.agg (configK c).row]):=by
 have hF:=hc.fields
 have hB:=hc.boxes
 have hL:=hc.links
 have hS:=hc.slices
 refine FSpec.of_ok tok Tryz.func15 rfl Tryz.call15 (by simp) ?_
 refine Ok.seq ?_
 refine Ok.region tok ?_
 (conv=>whnf)
 refine Ok.seqK [1,2,3,4] 4 4 (fun _:Unit=>⟨[(1,.bp 0 0),(2,.bp 1 0),(3,.bp 2 0),(4,.bp 3 0)],[c.row,[.s [],.nilS,.s [],.ff,.nilS,.nilS,.nilS],[.s [],.nilS,.s [],.ff,.nilS,.nilS,.nilS],[.s c.title,.own 0 c.fields.l.length,.s c.routing,.b c.slim,.own 1 c.boxes.l.length,.own 2 c.links.l.length,.own 3 c.slices.l.length]],
  [some (127,(c.fields.l++[(⟨mark1,0⟩:SI),⟨mark2,0⟩]).map SI.row),some (87,(c.boxes.l.map boxR++[box0 mark1,box0 mark2]).map Box.row),some (91,(c.links.l++[(⟨mark1,[],0⟩:Link),⟨mark2,[],0⟩]).map Link.row),some (54,(c.slices.l.map slcR++[slc0 mark1,slc0 mark2]).map Slc.row)],108⟩) (fun _=>True) ?_ ?_
 . (try (conv=>whnf));repeat' (first|(refine Ok.region_tree (id:=1) tok follows [(7,8,[]),(7,11,[8]),(8,11,[]),(10,11,[]),(7,14,[11,8]),(8,14,[11]),(10,14,[11]),(11,14,[]),(13,14,[]),(7,17,[14,11,8]),(8,17,[14,11]),(10,17,[14,11]),(11,17,[14]),(13,17,[14]),(14,17,[]),(16,17,[]),(1,20,[]),(3,20,[]),(5,20,[]),(7,20,[]),(8,20,[]),(10,20,[]),(11,20,[]),(13,20,[]),(14,20,[]),(16,20,[]),(17,20,[]),(19,20,[])] (.q 0 (.q 1 (.q 2 (.q 3 (.q 4 (.q 5 (.q 6 (.q 7 (.q 9 (.q 10 (.q 12 (.q 13 (.q 15 (.q 16 (.alt 8 (.alt 11 (.alt 14 (.alt 17 (.q 18 (.l 19 (.l 20 .nil))) (.alt 19 (.l 17 (.q 18 (.l 20 .nil))) .nil)) (.alt 19 (.l 14 (.l 17 (.q 18 (.l 20 .nil)))) .nil)) (.alt 19 (.l 11 (.l 14 (.l 17 (.q 18 (.l 20 .nil))))) .nil)) (.alt 19 (.l 8 (.l 11 (.l 14 (.l 17 (.q 18 (.l 20 .nil)))))) .nil)))))))))))))))) (by kernel_rfl) ?_;conv=>whnf)|(refine Or.inr (Or.inl ?_);(conv=>whnf);(repeat (refine aI ?_;conv=>whnf));refine⟨_,roomFields_at c.fields.l hF rfl,?_⟩;rintro _ _ ⟨rfl,rfl⟩;conv=>whnf)|(refine Or.inr (Or.inl ?_);(conv=>whnf);(repeat (refine aI ?_;conv=>whnf));refine⟨_,roomBoxes_at c.boxes.l hB hc.box rfl,?_⟩;rintro _ _ ⟨rfl,rfl⟩;conv=>whnf)|(refine Or.inr (Or.inl ?_);(conv=>whnf);(repeat (refine aI ?_;conv=>whnf));refine⟨_,roomLinks_at c.links.l hL rfl,?_⟩;rintro _ _ ⟨rfl,rfl⟩;conv=>whnf)|(refine Or.inr (Or.inl ?_);(conv=>whnf);(repeat (refine aI ?_;conv=>whnf));refine⟨_,roomSlices_at c.slices.l hS hc.slc rfl,?_⟩;rintro _ _ ⟨rfl,rfl⟩;conv=>whnf)|(exact True.intro)|(refine And.intro ?_ ?_<;>(conv=>whnf))|fail)
   all_goals
    refine⟨(),trivial,?_⟩
    (conv=>whnf)
    rfl
 rintro _ _
 have hbl:(c.boxes.l.map boxR).length=c.boxes.l.length:=by simp
 have hsl:(c.slices.l.map slcR).length=c.slices.l.length:=by simp
 have hb2:((c.boxes.l.map boxR++[box0 mark1,box0 mark2]).map Box.row).length=c.boxes.l.length+2:=by simp
 have hs2:((c.slices.l.map slcR++[slc0 mark1,slc0 mark2]).map Slc.row).length=c.slices.l.length+2:=by simp
 (try (conv=>whnf));repeat' (first|refine Ok.seq ?_|(refine Ok.region tok ?_;conv=>whnf)|refine Ok.block ?_|fail)
 refine Ok.ghostB 4 4 87 rfl rfl ?_
 (conv=>whnf)
 refine Ok.loopU [2,3,4,5] [6] 5 5 (fun (k:Nat)=>[.i .i64 (k:Nat)]) (fun (k:Nat) (_:List (List D))=>[c.row,[.s [],.nilS,.s [],.ff,.nilS,.nilS,.nilS],[.s [],.nilS,.s [],.ff,.nilS,.nilS,.nilS],[.s c.title,.own 0 c.fields.l.length,.s c.routing,.b c.slim,.own 1 c.boxes.l.length,.own 2 c.links.l.length,.own 3 c.slices.l.length],[.s c.title,.own 0 c.fields.l.length,.s c.routing,.b c.slim,.own 4 k,.own 2 c.links.l.length,.own 3 c.slices.l.length]]) (fun (k:Nat) (_:Vx.Rows)=>[some (127,(c.fields.l++[(⟨mark1,0⟩:SI),⟨mark2,0⟩]).map SI.row),some (87,(c.boxes.l.map boxR++[box0 mark1,box0 mark2]).map Box.row),some (91,(c.links.l++[(⟨mark1,[],0⟩:Link),⟨mark2,[],0⟩]).map Link.row),some (54,(c.slices.l.map slcR++[slc0 mark1,slc0 mark2]).map Slc.row),some (87,((c.boxes.l.take k).map boxK).map Box.row)]) (fun (k:Nat)=>k<=c.boxes.l.length) (fun (k:Nat)=>c.boxes.l.length - k) (0) (Nat.zero_le _) ?_;(conv=>whnf);refine⟨by ((conv=>whnf);first|rfl|(simp[envCat, List.take_of_length_le, SI.row, Node.row, Pfx.row, Link.row, srow, Line.row, Rule.row, Box.row, Slc.row, Config.row];done)|(simp[envCat, List.take_of_length_le, SI.row, Node.row, Pfx.row, Link.row, srow, Line.row, Rule.row, Box.row, Slc.row, Config.row];rw[IntKind.wrap_i64];omega)),?_⟩
 rintro k hk
 have htl:(((c.boxes.l.take k).map boxK).map Box.row).length=k:=by simp;omega
 by_cases hkl:k<c.boxes.l.length
 . obtain⟨x,hx⟩:∃ x,c.boxes.l[k]? = some x:=⟨_,List.getElem?_eq_getElem hkl⟩
   have hxm:(c.boxes.l.map boxR++[box0 mark1,box0 mark2])[k]? = some (boxR x):=by rw[List.getElem?_append_left (by omega)];simp[hx]
   have hxo:=hc.box x (List.mem_of_getElem? hx)
   have hxg:=hxo.guards
   have hxr:=hxo.rules
   have hgl:((x.guards.l.map lineR).map Line.row).length=x.guards.l.length:=by simp
   have hrl:((x.rules.l.map ruleR).map Rule.row).length=x.rules.l.length:=by simp
   have hgl2:((boxR x).guards.l.map Line.row).length=x.guards.l.length:=by simp[boxR]
   have hrl2:((boxR x).rules.l.map Rule.row).length=x.rules.l.length:=by simp[boxR]
   have htk:c.boxes.l.take (k+1)=c.boxes.l.take k++[x]:=by rw[List.take_add_one,hx];rfl
   (try (conv=>whnf));repeat' (first|refine Ok.seq ?_|((first|refine Ok.region tok ?_|refine Ok.cond ?_);conv=>whnf)|refine Ok.block ?_|((first|refine Ok.skip ?_|refine rd rfl (by assumption) ?_);conv=>whnf)|(refine bI ?_ ?_<;>intro<;>(conv=>whnf)<;>(try (exfalso;omega)))|(refine aJ ?_;conv=>whnf)|fail)
   refine Ok.ghostB 6 3 112 rfl rfl ?_
   (conv=>whnf)
   refine Ok.loopU [2,3,4,5,6,7,8] [9] 6 7 (fun (j:Nat)=>[.i .i64 (j:Nat)]) (fun (j:Nat) (_:List (List D))=>[c.row,[.s [],.nilS,.s [],.ff,.nilS,.nilS,.nilS],[.s [],.nilS,.s [],.ff,.nilS,.nilS,.nilS],[.s c.title,.own 0 c.fields.l.length,.s c.routing,.b c.slim,.own 1 c.boxes.l.length,.own 2 c.links.l.length,.own 3 c.slices.l.length],[.s c.title,.own 0 c.fields.l.length,.s c.routing,.b c.slim,.own 4 k,.own 2 c.links.l.length,.own 3 c.slices.l.length],(boxR x).row,[.s x.name,.lst 9 (x.ins.l.map srow) rStrs,.lst 9 (x.outs.l.map srow) rStrs,.own 5 j,.lst 115 ((x.rules.l.map ruleR).map Rule.row) uMarks,.lst 246 (x.owns.l.map Pfx.row) rPfxs,.lst 246 (x.routes.l.map Pfx.row) rPfxs]]) (fun (j:Nat) (_:Vx.Rows)=>[some (127,(c.fields.l++[(⟨mark1,0⟩:SI),⟨mark2,0⟩]).map SI.row),some (87,(c.boxes.l.map boxR++[box0 mark1,box0 mark2]).map Box.row),some (91,(c.links.l++[(⟨mark1,[],0⟩:Link),⟨mark2,[],0⟩]).map Link.row),some (54,(c.slices.l.map slcR++[slc0 mark1,slc0 mark2]).map Slc.row),some (87,((c.boxes.l.take k).map boxK).map Box.row),some (112,((x.guards.l.take j).map lineR).map Line.row)]) (fun (j:Nat)=>j<=x.guards.l.length) (fun (j:Nat)=>x.guards.l.length - j) (0) (Nat.zero_le _) ?_;(conv=>whnf);refine⟨by ((conv=>whnf);first|rfl|(simp[envCat, List.take_of_length_le, SI.row, Node.row, Pfx.row, Link.row, srow, Line.row, Rule.row, Box.row, Slc.row, Config.row];done)|(simp[envCat, List.take_of_length_le, SI.row, Node.row, Pfx.row, Link.row, srow, Line.row, Rule.row, Box.row, Slc.row, Config.row];rw[IntKind.wrap_i64];omega)),?_⟩
   rintro j hj
   have htj:(((x.guards.l.take j).map lineR).map Line.row).length=j:=by simp;omega
   by_cases hjl:j<x.guards.l.length
   . obtain⟨g,hg⟩:∃ g,x.guards.l[j]? = some g:=⟨_,List.getElem?_eq_getElem hjl⟩
     have hgm:(x.guards.l.map lineR)[j]? = some (lineR g):=by simp[hg]
     have htg:x.guards.l.take (j+1)=x.guards.l.take j++[g]:=by rw[List.take_add_one,hg];rfl
     (try (conv=>whnf));repeat' (first|refine Ok.seq ?_|((first|refine Ok.region tok ?_|refine Ok.region_plan (id:=13) tok follows [(3,7,[6,5]),(6,7,[]),(1,8,[]),(3,8,[7,6,5]),(6,8,[7]),(7,8,[]),(1,10,[]),(3,10,[]),(6,10,[]),(7,10,[]),(8,10,[])] [.q 0,.q 1,.q 2,.q 3,.q 4,.q 5,.q 6,.l 7,.l 8,.q 9,.l 10] (by kernel_rfl) ?_|refine Ok.cond ?_);conv=>whnf)|refine Ok.block ?_|((first|refine Ok.skip ?_|refine nI ?_|refine ix _ (by assumption) ?_|refine Alt2.l (aI ?_)|refine⟨_,.inl ⟨rfl,rfl⟩,?_⟩|refine⟨_,_,rfl,rfl,?_⟩);conv=>whnf)|(refine bI ?_ ?_<;>intro<;>(conv=>whnf)<;>(try (exfalso;omega)))|(refine aJ ?_;conv=>whnf)|fail)
     refine⟨j+1,by omega,by omega,?_⟩
     rw[htg]
     (conv=>whnf);simp[envCat,Config.row,Line.row,Box.row,boxR,gMarks];omega
   obtain rfl:j=x.guards.l.length:=by omega
   rw[List.take_length]
   (conv=>whnf)
   (try (conv=>whnf));repeat' (first|refine Ok.seq ?_|((first|refine Ok.region tok ?_|refine Ok.cond ?_);conv=>whnf)|refine Ok.block ?_|(refine Ok.exit ?_;conv=>whnf)|(refine bI ?_ ?_<;>intro<;>(conv=>whnf)<;>(try (exfalso;omega)))|fail)
   refine Ok.ghostB 6 4 115 rfl rfl ?_
   (conv=>whnf)
   refine Ok.loopU [2,3,4,5,6,7,8] [10] 7 7 (fun (j:Nat)=>[.i .i64 (j:Nat)]) (fun (j:Nat) (_:List (List D))=>[c.row,[.s [],.nilS,.s [],.ff,.nilS,.nilS,.nilS],[.s [],.nilS,.s [],.ff,.nilS,.nilS,.nilS],[.s c.title,.own 0 c.fields.l.length,.s c.routing,.b c.slim,.own 1 c.boxes.l.length,.own 2 c.links.l.length,.own 3 c.slices.l.length],[.s c.title,.own 0 c.fields.l.length,.s c.routing,.b c.slim,.own 4 k,.own 2 c.links.l.length,.own 3 c.slices.l.length],(boxR x).row,[.s x.name,.lst 9 (x.ins.l.map srow) rStrs,.lst 9 (x.outs.l.map srow) rStrs,.own 5 x.guards.l.length,.own 6 j,.lst 246 (x.owns.l.map Pfx.row) rPfxs,.lst 246 (x.routes.l.map Pfx.row) rPfxs]]) (fun (j:Nat) (_:Vx.Rows)=>[some (127,(c.fields.l++[(⟨mark1,0⟩:SI),⟨mark2,0⟩]).map SI.row),some (87,(c.boxes.l.map boxR++[box0 mark1,box0 mark2]).map Box.row),some (91,(c.links.l++[(⟨mark1,[],0⟩:Link),⟨mark2,[],0⟩]).map Link.row),some (54,(c.slices.l.map slcR++[slc0 mark1,slc0 mark2]).map Slc.row),some (87,((c.boxes.l.take k).map boxK).map Box.row),some (112,(x.guards.l.map lineR).map Line.row),some (115,((x.rules.l.take j).map ruleR).map Rule.row)]) (fun (j:Nat)=>j<=x.rules.l.length) (fun (j:Nat)=>x.rules.l.length - j) (0) (Nat.zero_le _) ?_;(conv=>whnf);refine⟨by ((conv=>whnf);first|rfl|(simp[envCat, List.take_of_length_le, SI.row, Node.row, Pfx.row, Link.row, srow, Line.row, Rule.row, Box.row, Slc.row, Config.row];done)|(simp[envCat, List.take_of_length_le, SI.row, Node.row, Pfx.row, Link.row, srow, Line.row, Rule.row, Box.row, Slc.row, Config.row];rw[IntKind.wrap_i64];omega)),?_⟩
   rintro j hj
   have htj2:(((x.rules.l.take j).map ruleR).map Rule.row).length=j:=by simp;omega
   by_cases hjl:j<x.rules.l.length
   . obtain⟨g,hg⟩:∃ g,x.rules.l[j]? = some g:=⟨_,List.getElem?_eq_getElem hjl⟩
     have hgm:(x.rules.l.map ruleR)[j]? = some (ruleR g):=by simp[hg]
     have htg:x.rules.l.take (j+1)=x.rules.l.take j++[g]:=by rw[List.take_add_one,hg];rfl
     (try (conv=>whnf));repeat' (first|refine Ok.seq ?_|((first|refine Ok.region tok ?_|refine Ok.region_plan (id:=18) tok follows [(3,7,[6,5]),(6,7,[]),(1,8,[]),(3,8,[7,6,5]),(6,8,[7]),(7,8,[]),(1,10,[]),(3,10,[]),(6,10,[]),(7,10,[]),(8,10,[])] [.q 0,.q 1,.q 2,.q 3,.q 4,.q 5,.q 6,.l 7,.l 8,.q 9,.l 10] (by kernel_rfl) ?_|refine Ok.cond ?_);conv=>whnf)|refine Ok.block ?_|((first|refine Ok.skip ?_|refine nI ?_|refine ix _ (by assumption) ?_|refine Alt2.l (aI ?_)|refine⟨_,.inl ⟨rfl,rfl⟩,?_⟩|refine⟨_,_,rfl,rfl,?_⟩);conv=>whnf)|(refine bI ?_ ?_<;>intro<;>(conv=>whnf)<;>(try (exfalso;omega)))|(refine aJ ?_;conv=>whnf)|fail)
     refine⟨j+1,by omega,by omega,?_⟩
     rw[htg]
     (conv=>whnf);simp[envCat,Config.row,Rule.row,Box.row,boxR,uMarks];omega
   obtain rfl:j=x.rules.l.length:=by omega
   rw[List.take_length]
   (conv=>whnf)
   (try (conv=>whnf));repeat' (first|refine Ok.seq ?_|((first|refine Ok.region tok ?_|refine Ok.cond ?_|refine Ok.exit ?_|refine nI ?_|refine Alt2.l (aI ?_)|refine⟨_,.inl ⟨rfl,rfl⟩,?_⟩|refine⟨_,_,rfl,rfl,?_⟩);conv=>whnf)|(refine bI ?_ ?_<;>intro<;>(conv=>whnf)<;>(try (exfalso;omega)))|(refine aJ ?_;conv=>whnf)|fail)
   refine⟨k+1,by omega,by omega,?_⟩
   rw[htk]
   (conv=>whnf);simp[envCat,Config.row,boxK,boxR,Box.row,take_all,drop_all];omega
 obtain rfl:k=c.boxes.l.length:=by omega
 clear htl
 rw[List.take_length]
 (conv=>whnf)
 (try (conv=>whnf));repeat' (first|refine Ok.seq ?_|((first|refine Ok.region tok ?_|refine Ok.cond ?_);conv=>whnf)|refine Ok.block ?_|(refine Ok.exit ?_;conv=>whnf)|(refine bI ?_ ?_<;>intro<;>(conv=>whnf)<;>(try (exfalso;omega)))|fail)
 refine Ok.ghostB 4 6 54 rfl rfl ?_
 (conv=>whnf)
 refine Ok.loopU [2,3,4,5] [11] 6 5 (fun (k:Nat)=>[.i .i64 (k:Nat)]) (fun (k:Nat) (_:List (List D))=>[c.row,[.s [],.nilS,.s [],.ff,.nilS,.nilS,.nilS],[.s [],.nilS,.s [],.ff,.nilS,.nilS,.nilS],[.s c.title,.own 0 c.fields.l.length,.s c.routing,.b c.slim,.own 1 c.boxes.l.length,.own 2 c.links.l.length,.own 3 c.slices.l.length],[.s c.title,.own 0 c.fields.l.length,.s c.routing,.b c.slim,.own 4 c.boxes.l.length,.own 2 c.links.l.length,.own 5 k]]) (fun (k:Nat) (_:Vx.Rows)=>[some (127,(c.fields.l++[(⟨mark1,0⟩:SI),⟨mark2,0⟩]).map SI.row),some (87,(c.boxes.l.map boxR++[box0 mark1,box0 mark2]).map Box.row),some (91,(c.links.l++[(⟨mark1,[],0⟩:Link),⟨mark2,[],0⟩]).map Link.row),some (54,(c.slices.l.map slcR++[slc0 mark1,slc0 mark2]).map Slc.row),some (87,(c.boxes.l.map boxK).map Box.row),some (54,((c.slices.l.take k).map slcR).map Slc.row)]) (fun (k:Nat)=>k<=c.slices.l.length) (fun (k:Nat)=>c.slices.l.length - k) (0) (Nat.zero_le _) ?_;(conv=>whnf);refine⟨by ((conv=>whnf);first|rfl|(simp[envCat, List.take_of_length_le, SI.row, Node.row, Pfx.row, Link.row, srow, Line.row, Rule.row, Box.row, Slc.row, Config.row];done)|(simp[envCat, List.take_of_length_le, SI.row, Node.row, Pfx.row, Link.row, srow, Line.row, Rule.row, Box.row, Slc.row, Config.row];rw[IntKind.wrap_i64];omega)),?_⟩
 rintro k hk
 have htl:(((c.slices.l.take k).map slcR).map Slc.row).length=k:=by simp;omega
 by_cases hkl:k<c.slices.l.length
 . obtain⟨x,hx⟩:∃ x,c.slices.l[k]? = some x:=⟨_,List.getElem?_eq_getElem hkl⟩
   have hxm:(c.slices.l.map slcR++[slc0 mark1,slc0 mark2])[k]? = some (slcR x):=by rw[List.getElem?_append_left (by omega)];simp[hx]
   have htk:c.slices.l.take (k+1)=c.slices.l.take k++[x]:=by rw[List.take_add_one,hx];rfl
   (try (conv=>whnf));repeat' (first|refine Ok.seq ?_|((first|refine Ok.region tok ?_|refine Ok.region_plan (id:=24) tok follows [(3,7,[6,5]),(6,7,[]),(1,8,[]),(3,8,[7,6,5]),(6,8,[7]),(7,8,[]),(1,10,[]),(3,10,[]),(6,10,[]),(7,10,[]),(8,10,[])] [.q 0,.q 1,.q 2,.q 3,.q 4,.q 5,.q 6,.l 7,.l 8,.q 9,.l 10] (by kernel_rfl) ?_|refine Ok.cond ?_);conv=>whnf)|refine Ok.block ?_|((first|refine Ok.skip ?_|refine nI ?_|refine Alt2.l (aI ?_)|refine rd rfl (by assumption) ?_|refine⟨_,.inl ⟨rfl,rfl⟩,?_⟩|refine⟨_,_,rfl,rfl,?_⟩);conv=>whnf)|(refine bI ?_ ?_<;>intro<;>(conv=>whnf)<;>(try (exfalso;omega)))|(refine aJ ?_;conv=>whnf)|fail)
   refine⟨k+1,by omega,by omega,?_⟩
   rw[htk]
   (conv=>whnf);simp[envCat,Config.row,Slc.row];omega
 obtain rfl:k=c.slices.l.length:=by omega
 clear htl
 rw[List.take_length]
 (conv=>whnf)
 (try (conv=>whnf));repeat' (first|refine Ok.seq ?_|((first|refine Ok.region tok ?_|refine Ok.region_plan (id:=25) tok follows [(0,2,[]),(0,3,[]),(1,3,[]),(2,3,[])] [.q 0,.q 1,.l 2,.l 3] (by kernel_rfl) ?_|refine Ok.cond ?_|refine Ok.exit ?_|refine Ok.ret ?_);conv=>whnf)|(refine bI ?_ ?_<;>intro<;>(conv=>whnf)<;>(try (exfalso;omega)))|fail)
 all_goals
  refine Or.inl ?_;(conv=>whnf)
  refine⟨rfl,?_⟩
  refine congrArg oneD (a₂:=[.agg (configR c).row,.agg (configK c).row]) ?_
  simp[configR,configK,Config.row,fMarks,bMarks,lMarks,sMarks,List.take_of_length_le,List.drop_of_length_le]
end Go.Proofs.YtcglkonooeddfaaGreatDoor
namespace Go.Proofs.YtcglkonooeddfaaGreatDoor
open Go Go.Vx
theorem lineR_b(x:Line):(lineR x).b=x.b:=rfl
theorem ruleR_b(x:Rule):(ruleR x).b=x.b:=rfl
theorem slcR_b(x:Slc):(slcR x).b=x.b:=rfl
theorem boxR_b(x:Box):(boxR x).b=x.b:=by simp[boxR,Box.b,Function.comp_def,lineR_b,ruleR_b]
theorem boxK_b(x:Box):(boxK x).b=x.b:=by simp[boxK,Box.b,Function.comp_def,lineR_b,ruleR_b]
theorem configR_b(c:Config):(configR c).b=c.b:=by simp[configR,Config.b,Function.comp_def,boxR_b,slcR_b]
theorem configK_b(c:Config):(configK c).b=c.b:=by simp[configK,Config.b,Function.comp_def,boxK_b,slcR_b]
theorem asOf_refl{α:Type}(R:α->α->Prop)(u:List α):asOf R u u:=⟨rfl,fun _ _=>rfl⟩
theorem eqL_refl{α:Type}(p:Prop)(R:α->α->Prop)(u:List α):eqL p R u u:=⟨fun _=>asOf_refl R u,fun _=>rfl⟩
theorem equalP_refl(p:Prop)(c:ConfigB):equalP p c c:=
 ⟨rfl,rfl,Iff.rfl,rfl,⟨rfl,fun i x y hx hy=>by
  rw[hx] at hy
  cases hy
  exact⟨rfl,rfl,rfl,rfl,eqL_refl _ _ _,eqL_refl _ _ _,eqL_refl _ _ _⟩⟩,eqL_refl _ _ _,eqL_refl _ _ _⟩
theorem mark_ok(c:Config)(hc:c.Ok):MarkOk (configR c) (configK c) where
 eq:=by rw[configR_b,configK_b];exact equalP_refl _ _
 cF:=hc.fields
 cB:=by simpa[configR] using hc.boxes
 cL:=hc.links
 cS:=by simpa[configR] using hc.slices
 box:=by
  intro b hb
  obtain⟨x,hx,rfl⟩:=List.mem_map.1 hb
  have h:=hc.box x hx
  refine⟨by simpa[boxK] using h.guards,by simpa[boxK] using h.rules,?_,?_,?_,?_,?_,rfl,rfl,rfl,rfl⟩ <;>
  . intro y hy
    obtain⟨z,hz,rfl⟩:=List.mem_map.1 hy
    rfl
 lists:=by
  intro b hb
  obtain⟨x,hx,rfl⟩:=List.mem_map.1 hb
  have h:=hc.box x hx
  exact⟨rfl,rfl,by simpa[boxR] using h.guards,by simpa[boxR] using h.rules⟩
 slc:=by
  intro b hb
  obtain⟨x,hx,rfl⟩:=List.mem_map.1 hb
  exact⟨rfl,rfl⟩
 rb:=rfl
 rl:=rfl
 rs:=rfl
 rf:=rfl
end Go.Proofs.YtcglkonooeddfaaGreatDoor
namespace Go.Proofs.YtcglkonooeddfaaGreatDoor
open Go Go.Vx
def SOk(s:Str):Prop:=s.length<=1048576
def IOk(n:Int):Prop:=-9223372036854775808<=n/\n<=9223372036854775807
structure SI.Tx(a:SI):Prop where
 s:SOk a.s
 n:IOk a.n
structure Node.Tx(a:Node):Prop where
 kind:IOk a.kind
 field:SOk a.field
 op:IOk a.op
 form:IOk a.form
 lo:IOk a.lo
 hi:IOk a.hi
 len:IOk a.len
 pat:SOk a.pat
structure Pfx.Tx(a:Pfx):Prop where
 value:IOk a.value
 len:IOk a.len
 dst:SOk a.dst
structure Link.Tx(a:Link):Prop where
 frm:SOk a.frm
 dst:SOk a.dst
 cost:IOk a.cost
structure Line.Tx(a:Line):Prop where
 port:SOk a.port
 mtch:∀ x ∈ a.mtch.l,x.Tx
structure Rule.Tx(a:Rule):Prop where
 prio:IOk a.prio
 frm:∀ x ∈ a.frm.l,SOk x
 mtch:∀ x ∈ a.mtch.l,x.Tx
 sets:∀ x ∈ a.sets.l,x.Tx
 dst:∀ x ∈ a.dst.l,SOk x
structure Box.Tx(a:Box):Prop where
 name:SOk a.name
 ins:∀ x ∈ a.ins.l,SOk x
 outs:∀ x ∈ a.outs.l,SOk x
 guards:∀ x ∈ a.guards.l,x.Tx
 rules:∀ x ∈ a.rules.l,x.Tx
 owns:∀ x ∈ a.owns.l,x.Tx
 routes:∀ x ∈ a.routes.l,x.Tx
structure Slc.Tx(a:Slc):Prop where
 name:SOk a.name
 ports:∀ x ∈ a.ports.l,SOk x
 whr:∀ x ∈ a.whr.l,x.Tx
structure Config.Tx(a:Config):Prop where
 title:SOk a.title
 fields:∀ x ∈ a.fields.l,x.Tx
 routing:SOk a.routing
 boxes:∀ x ∈ a.boxes.l,x.Tx
 links:∀ x ∈ a.links.l,x.Tx
 slices:∀ x ∈ a.slices.l,x.Tx
theorem ls_of{B:Nat}{α:Type}{f:α->List D}{p:α->Prop}{e:TypeId}{l:List Shp}{x:D}(h:TySs B [.slice e l] [x])(hf:∀ {r},TySs B l r->∃ a,r=f a/\p a) :
    ∃ L:Ls α,x = .lst e (L.l.map f) L.room/\L.l.length<=B/\∀ a ∈ L.l,p a:=by
 obtain⟨us,room,rfl,hl,h1,_⟩:=lst_of h fun r hr=>hf hr
 exact⟨⟨us,room.map f⟩,rfl,by simp only;omega,h1⟩
theorem str_row_of{r:List D}(h:TySs 1048576 [.str] r):∃ a:Str,r=srow a/\SOk a:=by
 obtain⟨x0,r,rfl,h0,h⟩:=ss_cons h
 obtain rfl:=ss_nil h
 obtain⟨v0,rfl,hv⟩:=str_of h0
 exact⟨v0,rfl,hv⟩
theorem si_of{r:List D}(h:TySs 1048576 [.str,.int .i64] r):∃ a:SI,r=a.row/\a.Tx:=by
 obtain⟨x0,r,rfl,h0,h⟩:=ss_cons h
 obtain⟨x1,r,rfl,h1,h⟩:=ss_cons h
 obtain rfl:=ss_nil h
 obtain⟨v0,rfl,t0⟩:=str_of h0
 obtain⟨v1,rfl,w1⟩:=int_of h1
 exact⟨⟨v0,v1⟩,rfl,⟨t0,wf64 w1⟩⟩
theorem node_of{r:List D}(h:TySs 1048576 [.int .i64,.str,.int .i64,.int .i64,.int .i64,.int .i64,.int .i64,.str] r):∃ a:Node,r=a.row/\a.Tx:=by
 obtain⟨x0,r,rfl,h0,h⟩:=ss_cons h
 obtain⟨x1,r,rfl,h1,h⟩:=ss_cons h
 obtain⟨x2,r,rfl,h2,h⟩:=ss_cons h
 obtain⟨x3,r,rfl,h3,h⟩:=ss_cons h
 obtain⟨x4,r,rfl,h4,h⟩:=ss_cons h
 obtain⟨x5,r,rfl,h5,h⟩:=ss_cons h
 obtain⟨x6,r,rfl,h6,h⟩:=ss_cons h
 obtain⟨x7,r,rfl,h7,h⟩:=ss_cons h
 obtain rfl:=ss_nil h
 obtain⟨v0,rfl,w0⟩:=int_of h0
 obtain⟨v1,rfl,t1⟩:=str_of h1
 obtain⟨v2,rfl,w2⟩:=int_of h2
 obtain⟨v3,rfl,w3⟩:=int_of h3
 obtain⟨v4,rfl,w4⟩:=int_of h4
 obtain⟨v5,rfl,w5⟩:=int_of h5
 obtain⟨v6,rfl,w6⟩:=int_of h6
 obtain⟨v7,rfl,t7⟩:=str_of h7
 exact⟨⟨v0,v1,v2,v3,v4,v5,v6,v7⟩,rfl,⟨wf64 w0,t1,wf64 w2,wf64 w3,wf64 w4,wf64 w5,wf64 w6,t7⟩⟩
theorem pfx_of{r:List D}(h:TySs 1048576 [.int .i64,.int .i64,.str] r):∃ a:Pfx,r=a.row/\a.Tx:=by
 obtain⟨x0,r,rfl,h0,h⟩:=ss_cons h
 obtain⟨x1,r,rfl,h1,h⟩:=ss_cons h
 obtain⟨x2,r,rfl,h2,h⟩:=ss_cons h
 obtain rfl:=ss_nil h
 obtain⟨v0,rfl,w0⟩:=int_of h0
 obtain⟨v1,rfl,w1⟩:=int_of h1
 obtain⟨v2,rfl,t2⟩:=str_of h2
 exact⟨⟨v0,v1,v2⟩,rfl,⟨wf64 w0,wf64 w1,t2⟩⟩
theorem link_of{r:List D}(h:TySs 1048576 [.str,.str,.int .i64] r):∃ a:Link,r=a.row/\a.Tx:=by
 obtain⟨x0,r,rfl,h0,h⟩:=ss_cons h
 obtain⟨x1,r,rfl,h1,h⟩:=ss_cons h
 obtain⟨x2,r,rfl,h2,h⟩:=ss_cons h
 obtain rfl:=ss_nil h
 obtain⟨v0,rfl,t0⟩:=str_of h0
 obtain⟨v1,rfl,t1⟩:=str_of h1
 obtain⟨v2,rfl,w2⟩:=int_of h2
 exact⟨⟨v0,v1,v2⟩,rfl,⟨t0,t1,wf64 w2⟩⟩
theorem line_of{r:List D}(h:TySs 1048576 [.str,.bool,.slice 219 [.int .i64,.str,.int .i64,.int .i64,.int .i64,.int .i64,.int .i64,.str]] r):∃ a:Line,r=a.row/\a.Ok/\a.Tx:=by
 obtain⟨x0,r,rfl,h0,h⟩:=ss_cons h
 obtain⟨x1,r,rfl,h1,h⟩:=ss_cons h
 obtain⟨x2,r,rfl,h2,h⟩:=ss_cons h
 obtain rfl:=ss_nil h
 obtain⟨v0,rfl,t0⟩:=str_of h0
 obtain⟨v1,rfl⟩:=bool_of h1
 obtain⟨v2,rfl,l2,q2⟩:=ls_of h2 node_of
 exact⟨⟨v0,v1,v2⟩,rfl,⟨l2⟩,⟨t0,q2⟩⟩
theorem rule_of{r:List D}(h:TySs 1048576 [.int .i64,.slice 9 [.str],.slice 219 [.int .i64,.str,.int .i64,.int .i64,.int .i64,.int .i64,.int .i64,.str],.slice 243 [.str,.int .i64],.slice 9 [.str]] r):∃ a:Rule,r=a.row/\a.Ok/\a.Tx:=by
 obtain⟨x0,r,rfl,h0,h⟩:=ss_cons h
 obtain⟨x1,r,rfl,h1,h⟩:=ss_cons h
 obtain⟨x2,r,rfl,h2,h⟩:=ss_cons h
 obtain⟨x3,r,rfl,h3,h⟩:=ss_cons h
 obtain⟨x4,r,rfl,h4,h⟩:=ss_cons h
 obtain rfl:=ss_nil h
 obtain⟨v0,rfl,w0⟩:=int_of h0
 obtain⟨v1,rfl,l1,q1⟩:=ls_of h1 str_row_of
 obtain⟨v2,rfl,l2,q2⟩:=ls_of h2 node_of
 obtain⟨v3,rfl,l3,q3⟩:=ls_of h3 si_of
 obtain⟨v4,rfl,l4,q4⟩:=ls_of h4 str_row_of
 exact⟨⟨v0,v1,v2,v3,v4⟩,rfl,⟨l1,l2,l3,l4⟩,⟨wf64 w0,q1,q2,q3,q4⟩⟩
theorem box_of{r:List D}(h:TySs 1048576 [.str,.slice 9 [.str],.slice 9 [.str],.slice 112 [.str,.bool,.slice 219 [.int .i64,.str,.int .i64,.int .i64,.int .i64,.int .i64,.int .i64,.str]],.slice 115 [.int .i64,.slice 9 [.str],.slice 219 [.int .i64,.str,.int .i64,.int .i64,.int .i64,.int .i64,.int .i64,.str],.slice 243 [.str,.int .i64],.slice 9 [.str]],.slice 246 [.int .i64,.int .i64,.str],.slice 246 [.int .i64,.int .i64,.str]] r):∃ a:Box,r=a.row/\a.Ok/\a.Tx:=by
 obtain⟨x0,r,rfl,h0,h⟩:=ss_cons h
 obtain⟨x1,r,rfl,h1,h⟩:=ss_cons h
 obtain⟨x2,r,rfl,h2,h⟩:=ss_cons h
 obtain⟨x3,r,rfl,h3,h⟩:=ss_cons h
 obtain⟨x4,r,rfl,h4,h⟩:=ss_cons h
 obtain⟨x5,r,rfl,h5,h⟩:=ss_cons h
 obtain⟨x6,r,rfl,h6,h⟩:=ss_cons h
 obtain rfl:=ss_nil h
 obtain⟨v0,rfl,t0⟩:=str_of h0
 obtain⟨v1,rfl,l1,q1⟩:=ls_of h1 str_row_of
 obtain⟨v2,rfl,l2,q2⟩:=ls_of h2 str_row_of
 obtain⟨v3,rfl,l3,q3⟩:=ls_of h3 line_of
 obtain⟨v4,rfl,l4,q4⟩:=ls_of h4 rule_of
 obtain⟨v5,rfl,l5,q5⟩:=ls_of h5 pfx_of
 obtain⟨v6,rfl,l6,q6⟩:=ls_of h6 pfx_of
 exact⟨⟨v0,v1,v2,v3,v4,v5,v6⟩,rfl,⟨l1,l2,l3,l4,l5,l6,fun x hx=>(q3 x hx).1,fun x hx=>(q4 x hx).1⟩,⟨t0,q1,q2,fun x hx=>(q3 x hx).2,fun x hx=>(q4 x hx).2,q5,q6⟩⟩
theorem slc_of{r:List D}(h:TySs 1048576 [.str,.slice 9 [.str],.slice 219 [.int .i64,.str,.int .i64,.int .i64,.int .i64,.int .i64,.int .i64,.str]] r):∃ a:Slc,r=a.row/\a.Ok/\a.Tx:=by
 obtain⟨x0,r,rfl,h0,h⟩:=ss_cons h
 obtain⟨x1,r,rfl,h1,h⟩:=ss_cons h
 obtain⟨x2,r,rfl,h2,h⟩:=ss_cons h
 obtain rfl:=ss_nil h
 obtain⟨v0,rfl,t0⟩:=str_of h0
 obtain⟨v1,rfl,l1,q1⟩:=ls_of h1 str_row_of
 obtain⟨v2,rfl,l2,q2⟩:=ls_of h2 node_of
 exact⟨⟨v0,v1,v2⟩,rfl,⟨l1,l2⟩,⟨t0,q1,q2⟩⟩
theorem config_of{r:List D}(h:TySs 1048576 [.str,.slice 127 [.str,.int .i64],.str,.bool,.slice 87 [.str,.slice 9 [.str],.slice 9 [.str],.slice 112 [.str,.bool,.slice 219 [.int .i64,.str,.int .i64,.int .i64,.int .i64,.int .i64,.int .i64,.str]],.slice 115 [.int .i64,.slice 9 [.str],.slice 219 [.int .i64,.str,.int .i64,.int .i64,.int .i64,.int .i64,.int .i64,.str],.slice 243 [.str,.int .i64],.slice 9 [.str]],.slice 246 [.int .i64,.int .i64,.str],.slice 246 [.int .i64,.int .i64,.str]],.slice 91 [.str,.str,.int .i64],.slice 54 [.str,.slice 9 [.str],.slice 219 [.int .i64,.str,.int .i64,.int .i64,.int .i64,.int .i64,.int .i64,.str]]] r):∃ a:Config,r=a.row/\a.Ok/\a.Tx:=by
 obtain⟨x0,r,rfl,h0,h⟩:=ss_cons h
 obtain⟨x1,r,rfl,h1,h⟩:=ss_cons h
 obtain⟨x2,r,rfl,h2,h⟩:=ss_cons h
 obtain⟨x3,r,rfl,h3,h⟩:=ss_cons h
 obtain⟨x4,r,rfl,h4,h⟩:=ss_cons h
 obtain⟨x5,r,rfl,h5,h⟩:=ss_cons h
 obtain⟨x6,r,rfl,h6,h⟩:=ss_cons h
 obtain rfl:=ss_nil h
 obtain⟨v0,rfl,t0⟩:=str_of h0
 obtain⟨v1,rfl,l1,q1⟩:=ls_of h1 si_of
 obtain⟨v2,rfl,t2⟩:=str_of h2
 obtain⟨v3,rfl⟩:=bool_of h3
 obtain⟨v4,rfl,l4,q4⟩:=ls_of h4 box_of
 obtain⟨v5,rfl,l5,q5⟩:=ls_of h5 link_of
 obtain⟨v6,rfl,l6,q6⟩:=ls_of h6 slc_of
 exact⟨⟨v0,v1,v2,v3,v4,v5,v6⟩,rfl,⟨l1,l4,l5,l6,fun x hx=>(q4 x hx).1,fun x hx=>(q6 x hx).1⟩,⟨t0,q1,t2,fun x hx=>(q4 x hx).2,q5,fun x hx=>(q6 x hx).2⟩⟩
end Go.Proofs.YtcglkonooeddfaaGreatDoor
namespace Go.Proofs.YtcglkonooeddfaaGreatDoor
open Go Go.Vx
open Classical
def SI.fd(x:SI):Fd:=⟨x.s,x.n⟩
def Node.nd(x:Node):Nd:=⟨x.kind,⟨x.field,x.op,x.form,x.lo,x.hi,x.len,x.pat⟩⟩
def fds(l:List SI):List Fd:=l.map SI.fd
def nds(l:List Node):List Nd:=l.map Node.nd
theorem fds_row(l:List SI):(fds l).map frow=l.map SI.row:=by simp[fds,Function.comp_def,SI.fd,SI.row]
theorem nds_row(l:List Node):(nds l).map nrow=l.map Node.row:=by simp[nds,Function.comp_def,Node.nd,Node.row]
abbrev Er:=Int × Str
noncomputable def orE(a b:Er):Er:=if a.1 ≠ 0 then a else b
theorem orE_l{a:Er}(b:Er)(h:a.1 ≠ 0):orE a b=a:=if_pos h
theorem orE_r{a:Er}(b:Er)(h:a.1=0):orE a b=b:=if_neg (fun x=>x h)
noncomputable def firstE{α:Type}(f:List α->α->Er)(pre:List α):List α->Er
 | []=>(0,[])
 | x :: l=>if (f pre x).1 ≠ 0 then f pre x else firstE f (pre++[x]) l
section
variable {α : Type} {f : List α → α → Er} {l : List α} {k : Nat} {x : α}
theorem firstE_split(hx:l[k]? = some x):firstE f (l.take k) (l.drop k)=if (f (l.take k) x).1 ≠ 0 then f (l.take k) x else firstE f (l.take (k+1)) (l.drop (k+1)):=by
 rw[fdrop_at hx,List.take_add_one,hx]
 rfl
theorem firstE_bad(hx:l[k]? = some x)(h:(f (l.take k) x).1 ≠ 0):firstE f (l.take k) (l.drop k)=f (l.take k) x:=by rw[firstE_split hx,if_pos h]
theorem firstE_ok(hx:l[k]? = some x)(h:(f (l.take k) x).1=0):firstE f (l.take k) (l.drop k)=firstE f (l.take (k+1)) (l.drop (k+1)):=by rw[firstE_split hx,if_neg (fun g=>g h)]
theorem firstE_nil(h:l.length<=k):firstE f (l.take k) (l.drop k)=(0,[]):=by rw[List.drop_eq_nil_of_le h];rfl
theorem firstE_zero:(firstE f [] l).1=0->∀ (k:Nat) x,l[k]? = some x->(f (l.take k) x).1=0:=by
 have key:∀ (r pre:List α),(firstE f pre r).1=0->∀ (k:Nat) x,r[k]? = some x->(f (pre++r.take k) x).1=0:=by
  intro r
  induction r with
  | nil=>intro pre _ k x h;simp at h
  | cons y r ih=>
   intro pre h k x hx
   unfold firstE at h
   split at h
   . rename_i h1;exact absurd h h1
   . rename_i h1
     cases k with
     | zero=>simp at hx;subst hx;simpa using Classical.not_not.1 h1
     | succ k=>
      have:=ih _ h k x (by simpa using hx)
      simpa using this
 intro h k x hx
 simpa using key l [] h k x hx
theorem firstE_emp:(firstE f [] l).1=0->firstE f [] l=(0,[]):=by
 have key:∀ (r pre:List α),(firstE f pre r).1=0->firstE f pre r=(0,[]):=by
  intro r
  induction r with
  | nil=>intro pre _;rfl
  | cons y r ih=>
   intro pre h
   unfold firstE at h ⊢
   split at h
   . rename_i h1;exact absurd h h1
   . rename_i h1
     rw[if_neg h1]
     exact ih _ h
 exact key l []
end
def resvL:List Str:=[[110,101,116,119,111,114,107],[104,101,97,100,101,114],[114,111,117,116,105,110,103],[115,108,105,109],[98,111,120],[105,110],[111,117,116],[103,117,97,114,100],[112,101,114,109,105,116],[100,101,110,121],[114,117,108,101],[102,114,111,109],[109,97,116,99,104],[115,101,116],[116,111],[100,114,111,112],[111,119,110],[114,111,117,116,101],[108,105,110,107],[99,111,115,116],[115,108,105,99,101],[119,104,101,114,101],[97,110,121],[110,111,110,101],[97,116],[110,111]]
def Rsv(s:Str):Prop:=s ∈ resvL
def MName(s:Str):Prop:=NameP s/\¬ Rsv s
noncomputable def resvE(_:List SI)(f:SI):Er:=if Rsv f.s then (70,f.s) else (0,[])
noncomputable def headO(c:ConfigB):Er:=
 if 256<c.title.length then (71,[110,101,116,119,111,114,107]) else
 if (chkO (fds c.fields)).1=2\/c.fields=[] then (70,[]) else
 if (chkO (fds c.fields)).1 ≠ 0 then (70,((c.fields[(chkO (fds c.fields)).2.toNat]?).getD ⟨[],0⟩).s) else
 orE (firstE resvE [] c.fields) (if (c.routing ≠ []/\¬ ∃ f ∈ c.fields,f.s=c.routing)\/(c.slim/\c.routing=[]) then (73,c.routing) else (0,[]))
def nPorts(l:List BoxB):Nat:=(l.map fun b=>b.ins.length+b.outs.length).sum
def nLines(l:List BoxB):Nat:=(l.map fun b=>b.guards.length).sum
def nRules(l:List BoxB):Nat:=(l.map fun b=>b.rules.length).sum
def nRoutes(l:List BoxB):Nat:=(l.map fun b=>b.owns.length+b.routes.length).sum
def cntL(c:ConfigB):List (Nat × Nat × Str):=
 [(c.boxes.length,16,[98,111,120,101,115]),(nPorts c.boxes,48,[112,111,114,116,115]),(nLines c.boxes,64,[103,117,97,114,100,115]),(nRules c.boxes,64,[114,117,108,101,115]),(nRoutes c.boxes,64,[114,111,117,116,101,115]),(c.links.length,48,[108,105,110,107,115]),(c.slices.length,8,[115,108,105,99,101,115])]
def cntE(_:List (Nat × Nat × Str))(x:Nat × Nat × Str):Er:=if x.2.1<x.1 then (71,x.2.2) else (0,[])
noncomputable def countO(c:ConfigB):Er:=firstE cntE [] (cntL c)
def dot(n p:Str):Str:=n++[46]++p
noncomputable def portE(n:Str)(pre:List Str)(p:Str):Er:=if ¬ MName p then (36,dot n p) else if p ∈ pre then (72,dot n p) else (0,[])
noncomputable def boxE(pre:List BoxB)(b:BoxB):Er:=
 if ¬ MName b.name then (36,b.name) else if ∃ x ∈ pre,x.name=b.name then (72,b.name) else firstE (portE b.name) [] (b.ins++b.outs)
noncomputable def nameO(c:ConfigB):Er:=firstE boxE [] c.boxes
noncomputable def sideE(want other:List Str)(pre:List Str)(s:Str):Er:=if s ∉ want then (if s ∉ other then (73,[]) else (74,[])) else if s ∈ pre then (72,[]) else (0,[])
theorem sideE_unk{want other pre:List Str}{s:Str}(h:s ∉ want)(h2:s ∉ other):sideE want other pre s=(73,[]):=by unfold sideE;rw[if_pos h,if_pos h2]
theorem sideE_side{want other pre:List Str}{s:Str}(h:s ∉ want)(h2:s ∈ other):sideE want other pre s=(74,[]):=by unfold sideE;rw[if_pos h,if_neg (fun g=>g h2)]
theorem sideE_dbl{want other pre:List Str}{s:Str}(h:s ∈ want)(h2:s ∈ pre):sideE want other pre s=(72,[]):=by unfold sideE;rw[if_neg (fun g=>g h),if_pos h2]
theorem sideE_ok{want other pre:List Str}{s:Str}(h:s ∈ want)(h2:s ∉ pre):sideE want other pre s=(0,[]):=by unfold sideE;rw[if_neg (fun g=>g h),if_neg h2]
noncomputable def sidesI(l want other:List Str):Int:=(firstE (sideE want other) [] l).1
noncomputable def setE(fs:List Fd)(pre:List SI)(s:SI):Er:=
 if findI s.s fs 0<0 then (41,[]) else if ∃ t ∈ pre,t.s=s.s then (45,[]) else
 if s.n<0\/(tw ((fs[(findI s.s fs 0).toNat]?).getD ⟨[],0⟩).bits.toNat:Int) - 1<s.n then (42,[]) else (0,[])
noncomputable def wordI(fs:List Fd)(l:List SI):Int:=if 12<l.length then 2 else if (chkO fs).1 ≠ 0 then (chkO fs).1 else (firstE (setE fs) [] l).1
noncomputable def ruleI(c:ConfigB)(b:BoxB)(pre:List RuleB)(r:RuleB):Int:=
 if r.prio<0\/65535<r.prio then 76 else if ∃ s ∈ pre,s.prio=r.prio then 76 else
 if sidesI r.frm b.ins b.outs ≠ 0 then sidesI r.frm b.ins b.outs else
 if chkE (fds c.fields) (nds r.mtch) ≠ 0 then 77 else if wordI (fds c.fields) r.sets ≠ 0 then 79 else
 if 4<r.dst.length then 71 else sidesI r.dst b.outs b.ins
def rbits(c:ConfigB):Int:=if c.routing=[] then 0 else if findI c.routing (fds c.fields) 0<0 then 0 else (((fds c.fields)[(findI c.routing (fds c.fields) 0).toNat]?).getD ⟨[],0⟩).bits
noncomputable def prefI(c:ConfigB)(b:BoxB)(pre:List Pfx)(p:Pfx):Int:=
 if rbits c=0\/p.len<0\/rbits c<p.len\/p.value<0\/(tw (rbits c).toNat:Int)<=p.value then 78 else
 if p.value % (tw (rbits c - p.len).toNat:Int) ≠ 0 then 78 else
 if ∃ q ∈ pre,q.value=p.value/\q.len=p.len then 78 else sidesI [p.dst] b.outs b.ins
noncomputable def told(e:Int)(t:Str):Er:=if e ≠ 0 then (e,t) else (0,[])
noncomputable def guardE(c:ConfigB)(b:BoxB)(_:List LineB)(g:LineB):Er:=
 if g.port ∉ b.ins++b.outs then (73,b.name++[32,103,117,97,114,100,32]++g.port) else if chkE (fds c.fields) (nds g.mtch) ≠ 0 then (77,b.name++[32,103,117,97,114,100,32]++g.port) else (0,[])
noncomputable def ruleE(c:ConfigB)(b:BoxB)(pre:List RuleB)(r:RuleB):Er:=told (ruleI c b pre r) (b.name++[32,114,117,108,101,32]++Lib.itoa r.prio)
noncomputable def ownE(c:ConfigB)(b:BoxB)(pre:List Pfx)(p:Pfx):Er:=told (prefI c b pre p) (b.name++[32,111,119,110])
noncomputable def routE(c:ConfigB)(b:BoxB)(pre:List Pfx)(p:Pfx):Er:=told (prefI c b pre p) (b.name++[32,114,111,117,116,101])
noncomputable def doesE(c:ConfigB)(_:List BoxB)(b:BoxB):Er:=
 orE (firstE (guardE c b) [] b.guards) (orE (firstE (ruleE c b) [] b.rules) (orE (firstE (ownE c b) [] b.owns) (firstE (routE c b) [] b.routes)))
noncomputable def deedO(c:ConfigB):Er:=firstE (doesE c) [] c.boxes
def fullsB(b:BoxB):List Str:=(b.ins++b.outs).map (dot b.name)
def fullIn(c:ConfigB):List Str:=c.boxes.flatMap fun b=>b.ins.map (dot b.name)
def fullOut(c:ConfigB):List Str:=c.boxes.flatMap fun b=>b.outs.map (dot b.name)
noncomputable def linkE(c:ConfigB)(pre:List Link)(x:Link):Er:=
 if sidesI [x.frm] (fullOut c) (fullIn c) ≠ 0 then (sidesI [x.frm] (fullOut c) (fullIn c),x.frm) else
 if sidesI [x.dst] (fullIn c) (fullOut c) ≠ 0 then (sidesI [x.dst] (fullIn c) (fullOut c),x.dst) else
 if x.cost<1\/9999<x.cost then (71,x.frm) else if ∃ y ∈ pre,y.frm=x.frm then (75,x.frm) else (0,[])
noncomputable def linkO(c:ConfigB):Er:=firstE (linkE c) [] c.links
noncomputable def sportE(c:ConfigB)(pre:List Str)(p:Str):Er:=if p ∉ fullIn c/\p ∉ fullOut c then (73,p) else if p ∈ pre then (72,p) else (0,[])
noncomputable def sliceE(c:ConfigB)(pre:List SlcB)(s:SlcB):Er:=
 if ¬ MName s.name then (36,s.name) else if ∃ x ∈ pre,x.name=s.name then (72,s.name) else
 orE (firstE (sportE c) [] s.ports) (if chkE (fds c.fields) (nds s.whr) ≠ 0 then (77,s.name) else (0,[]))
noncomputable def sliceO(c:ConfigB):Er:=firstE (sliceE c) [] c.slices
noncomputable def checkO(c:ConfigB):Er:=orE (headO c) (orE (countO c) (orE (nameO c) (orE (deedO c) (orE (linkO c) (sliceO c)))))
end Go.Proofs.YtcglkonooeddfaaGreatDoor
namespace Go.Proofs.YtcglkonooeddfaaGreatDoor
open Go Go.Vx
def plcF(s:Str):List Str->Nat->Int
 | [],_=>-1
 | x :: l,k=>if x=s then (k:Int) else plcF s l (k+1)
def plc(l:List Str)(s:Str):Int:=plcF s l 0
theorem plcF_all(s:Str):∀ (l:List Str) (k:Nat),(plcF s l k<0 ↔ s ∉ l)/\-1<=plcF s l k/\(s ∈ l->(k:Int)<=plcF s l k)/\plcF s l k<(k+l.length:Nat)/\(s ∈ l->l[(plcF s l k).toNat - k]? = some s)/\∀ i:Nat,plcF s l k<(k+i:Nat) ↔ s ∉ l\/s ∈ l.take i
 | [],k=>⟨by simp[plcF],by simp[plcF],by simp,by simp[plcF];omega,by simp,fun i=>by simp[plcF];omega⟩
 | x :: l,k=>by
  unfold plcF
  split
  . rename_i h
    subst h
    refine⟨⟨fun h=>absurd h (by omega),fun h=>absurd (List.mem_cons_self) h⟩,by omega,fun _=>by omega,by simp;omega,fun _=>by simp,fun i=>?_⟩
    cases i with
    | zero=>simp
    | succ i=>
     simp
     omega
  . rename_i h
    obtain⟨h1,h2,h3,h4,h5,h6⟩:=plcF_all s l (k+1)
    have hne:¬ s=x:=fun e=>h e.symm
    refine⟨by rw[h1];simp[hne],h2,fun hm=>?_,by simp at h4 ⊢;omega,fun hm=>?_,fun i=>?_⟩
    . have:=h3 (by simpa[hne] using hm)
      omega
    . have hm':s ∈ l:=by simpa[hne] using hm
      have:=h3 hm'
      have h7:=h5 hm'
      rw[show (plcF s l (k+1)).toNat - k=((plcF s l (k+1)).toNat - (k+1))+1 by omega,List.getElem?_cons_succ]
      exact h7
    . cases i with
      | zero=>
       simp only[List.take_zero,List.not_mem_nil,or_false,Nat.add_zero,List.mem_cons,not_or]
       constructor
       . intro hx
         refine⟨hne,fun hm=>?_⟩
         have:=h3 hm
         omega
       . rintro⟨_,hm⟩
         have:=h1.2 hm
         omega
      | succ i=>
       rw[show k+(i+1)=k+1+i by omega,h6 i]
       simp[hne]
theorem plc_neg(l:List Str)(s:Str):plc l s<0 ↔ s ∉ l:=(plcF_all s l 0).1
theorem plc_lt(l:List Str)(s:Str):plc l s<l.length:=by
 have:=(plcF_all s l 0).2.2.2.1
 rw[Nat.zero_add] at this
 exact this
theorem plc_at{l:List Str}{s:Str}(h:s ∈ l):0<=plc l s/\l[(plc l s).toNat]? = some s:=by
 have h1:=(plcF_all s l 0).2.2.1 h
 have h2:=(plcF_all s l 0).2.2.2.2.1 h
 rw[Nat.sub_zero] at h2
 exact⟨h1,h2⟩
theorem plc_take{l:List Str}{s:Str}{i:Nat}(h:s ∈ l):plc l s<i ↔ s ∈ l.take i:=by
 have:=(plcF_all s l 0).2.2.2.2.2 i
 rw[Nat.zero_add] at this
 show plcF s l 0<i ↔ _
 rw[this]
 exact⟨fun x=>x.resolve_left fun g=>g h,.inr⟩
set_option maxHeartbeats 4000000 in
theorem place_at(l:List Str)(s:Str){rl r:List (List D)}(h:rl=l.map srow):FSpec Tryz.prog T 129 [.lst 9 rl r,.s s] (fun d _=>d = .i .i64 (plc l s)):=by
 subst h
 refine FSpec.of_len Tryz.call129 0 rfl fun hlen=>?_
 have h1:(l.map srow).length=l.length:=by simp
 refine FSpec.of_ok tok Tryz.func129 rfl Tryz.call129 (by simp) ?_
 (try (conv=>whnf));repeat' (first|refine Ok.seq ?_|(refine Ok.region tok ?_;conv=>whnf)|refine Ok.block ?_|fail)
 refine Ok.loopU [0,1] [5] 0 0 (fun (i:Nat)=>[.i .i64 (i:Nat)]) (fun _ b=>b) (fun _ r=>r) (fun (i:Nat)=>i<=l.length/\plc l s=plcF s (l.drop i) i) (fun (i:Nat)=>l.length - i) (0) (⟨Nat.zero_le _,rfl⟩) ?_;(conv=>whnf);refine⟨by ((conv=>whnf);first|rfl|(simp[envCat, List.take_of_length_le, SI.row, Node.row, Pfx.row, Link.row, srow, Line.row, Rule.row, Box.row, Slc.row, Config.row];done)|(simp[envCat, List.take_of_length_le, SI.row, Node.row, Pfx.row, Link.row, srow, Line.row, Rule.row, Box.row, Slc.row, Config.row];rw[IntKind.wrap_i64];omega)),?_⟩
 rintro i ⟨hi,hf⟩
 (conv=>whnf)
 by_cases hil:i<l.length
 . obtain⟨c,hc⟩:∃ c,l[i]? = some c:=⟨_,List.getElem?_eq_getElem hil⟩
   have hcI:l[((i:Nat):Int).toNat]? = some c:=hc
   rw[fdrop_at hc] at hf
   (try (conv=>whnf));repeat' (first|refine Ok.seq ?_|((first|refine Ok.region tok ?_|refine Ok.cond ?_);conv=>whnf)|refine Ok.block ?_|((first|refine Ok.skip ?_|refine Ok.ret ?_|refine nI ?_|refine ix _ (by assumption) ?_);conv=>whnf)|(refine bI ?_ ?_<;>intro<;>(conv=>whnf)<;>(try (exfalso;omega)))|fail)
   all_goals first
    | (exfalso;omega)
    | (rename_i h
       refine Or.inl ?_;(conv=>whnf)
       rw[hf]
       unfold plcF
       rw[if_pos h]
       rfl)
    | (rename_i h
       refine⟨i+1,by omega,⟨by omega,?_⟩,?_⟩
       . rw[hf]
         conv=>lhs;unfold plcF
         rw[if_neg h]
       . (conv=>whnf)
         rfl)
 . have hie:i=l.length:=by omega
   subst hie
   rw[List.drop_length] at hf
   (try (conv=>whnf));repeat' (first|refine Ok.seq ?_|((first|refine Ok.region tok ?_|refine Ok.cond ?_|refine Ok.exit ?_|refine Ok.ret ?_);conv=>whnf)|(refine bI ?_ ?_<;>intro<;>(conv=>whnf)<;>(try (exfalso;omega)))|fail)
   all_goals first
    | (exfalso;omega)
    | (refine Or.inl ?_;(conv=>whnf)
       rw[hf]
       rfl)
set_option maxHeartbeats 8000000 in
theorem sides_at(l want other:List Str){rl rw_ ro r1 r2 r3:List (List D)}(h1:rl=l.map srow)(h2:rw_=want.map srow)(h3:ro=other.map srow) :
    FSpec Tryz.prog T 135 [.lst 9 rl r1,.lst 9 rw_ r2,.lst 9 ro r3] (fun d _=>d = .i .i64 (sidesI l want other)):=by
 subst h1 h2 h3
 refine FSpec.of_len Tryz.call135 0 rfl fun hlen=>?_
 have hll:(l.map srow).length=l.length:=by simp
 refine FSpec.of_ok tok Tryz.func135 rfl Tryz.call135 (by simp) ?_
 (try (conv=>whnf));repeat' (first|refine Ok.seq ?_|(refine Ok.region tok ?_;conv=>whnf)|refine Ok.block ?_|fail)
 refine Ok.loopU [0,1,2] [7] 0 0 (fun (i:Nat)=>[.i .i64 (i:Nat)]) (fun _ b=>b) (fun _ r=>r) (fun (i:Nat)=>i<=l.length/\sidesI l want other=(firstE (sideE want other) (l.take i) (l.drop i)).1) (fun (i:Nat)=>l.length - i) (0) (⟨Nat.zero_le _,rfl⟩) ?_;(conv=>whnf);refine⟨by ((conv=>whnf);first|rfl|(simp[envCat, List.take_of_length_le, SI.row, Node.row, Pfx.row, Link.row, srow, Line.row, Rule.row, Box.row, Slc.row, Config.row];done)|(simp[envCat, List.take_of_length_le, SI.row, Node.row, Pfx.row, Link.row, srow, Line.row, Rule.row, Box.row, Slc.row, Config.row];rw[IntKind.wrap_i64];omega)),?_⟩
 rintro i ⟨hi,hf⟩
 (conv=>whnf)
 by_cases hil:i<l.length
 . obtain⟨c,hc⟩:∃ c,l[i]? = some c:=⟨_,List.getElem?_eq_getElem hil⟩
   have hcI:l[((i:Nat):Int).toNat]? = some c:=hc
   have hcl:c ∈ l:=List.mem_of_getElem? hc
   have hw:=plc_neg want c
   have ho:=plc_neg other c
   have hp:=plc_take (i:=i) hcl
   rw[firstE_split hc] at hf
   (try (conv=>whnf));repeat' (first|refine Ok.seq ?_|((first|refine Ok.region tok ?_|refine Ok.cond ?_);conv=>whnf)|refine Ok.block ?_|((first|refine Ok.skip ?_|refine Ok.ret ?_|refine nI ?_|refine ix _ (by assumption) ?_);conv=>whnf)|(refine Or.inl ?_;(conv=>whnf);(repeat (refine aI ?_;conv=>whnf));refine⟨_,place_at want c rfl,rfl,?_⟩;conv=>whnf)|(refine Or.inl ?_;(conv=>whnf);(repeat (refine aI ?_;conv=>whnf));refine⟨_,place_at other c rfl,rfl,?_⟩;conv=>whnf)|(refine Or.inl ?_;(conv=>whnf);(repeat (refine aI ?_;conv=>whnf));refine⟨_,place_at l c rfl,rfl,?_⟩;conv=>whnf)|(refine bI ?_ ?_<;>intro<;>(conv=>whnf)<;>(try (exfalso;omega)))|fail)
   all_goals first
    | (exfalso;omega)
    | (refine Or.inl ?_;(conv=>whnf)
       rw[hf]
       first
        | (rw[sideE_unk (hw.1 (by assumption)) (ho.1 (by assumption))];rfl)
        | (rw[sideE_side (hw.1 (by assumption)) (Classical.not_not.1 fun g=>absurd (ho.2 g) (by assumption))];rfl)
        | (rw[sideE_dbl (Classical.not_not.1 fun g=>absurd (hw.2 g) (by assumption)) (hp.1 (by assumption))];rfl))
    | (refine⟨i+1,by omega,⟨by omega,?_⟩,?_⟩
       . rw[hf,sideE_ok (Classical.not_not.1 fun g=>absurd (hw.2 g) (by assumption)) (fun g=>absurd (hp.2 g) (by assumption))]
         rfl
       . (conv=>whnf)
         rfl)
 . have hie:i=l.length:=by omega
   subst hie
   rw[firstE_nil (Nat.le_refl _)] at hf
   (try (conv=>whnf));repeat' (first|refine Ok.seq ?_|((first|refine Ok.region tok ?_|refine Ok.cond ?_|refine Ok.exit ?_|refine Ok.ret ?_);conv=>whnf)|(refine bI ?_ ?_<;>intro<;>(conv=>whnf)<;>(try (exfalso;omega)))|fail)
   all_goals first
    | (exfalso;omega)
    | (refine Or.inl ?_;(conv=>whnf)
       rw[hf]
       rfl)
set_option maxRecDepth 100000 in
set_option maxHeartbeats 4000000 in
theorem both_at(b:Box)(hi:b.ins.l.length<=1048576)(ho:b.outs.l.length<=1048576):FSpec Tryz.prog T 128 [.agg b.row] (fun d rows=>rows=[some (9,(b.ins.l++b.outs.l).map srow)]/\d = .own 0 (b.ins.l++b.outs.l).length):=by
 have h1:(b.ins.l.map srow).length=b.ins.l.length:=by simp
 have h2:(b.outs.l.map srow).length=b.outs.l.length:=by simp
 refine FSpec.of_ok tok Tryz.func128 rfl Tryz.call128 (by simp) ?_
 (try (conv=>whnf));repeat' (first|refine Ok.seq ?_|(refine Ok.region tok ?_;conv=>whnf)|refine Ok.block ?_|fail)
 refine Ok.ghost 3 9 rfl ?_
 (conv=>whnf)
 refine Ok.loopU [1] [3,4] 1 1 (fun (k:Nat)=>[.own 0 k,.i .i64 (k:Nat)]) (fun _ b=>b) (fun (k:Nat) (_:Vx.Rows)=>[some (9,(b.ins.l.take k).map srow)]) (fun (k:Nat)=>k<=b.ins.l.length) (fun (k:Nat)=>b.ins.l.length - k) (0) (Nat.zero_le _) ?_;(conv=>whnf);refine⟨by ((conv=>whnf);first|rfl|(simp[envCat, List.take_of_length_le, SI.row, Node.row, Pfx.row, Link.row, srow, Line.row, Rule.row, Box.row, Slc.row, Config.row];done)|(simp[envCat, List.take_of_length_le, SI.row, Node.row, Pfx.row, Link.row, srow, Line.row, Rule.row, Box.row, Slc.row, Config.row];rw[IntKind.wrap_i64];omega)),?_⟩
 rintro k hk
 have htl:((b.ins.l.take k).map srow).length=k:=by simp;omega
 by_cases hkl:k<b.ins.l.length
 . obtain⟨x,hx⟩:∃ x,b.ins.l[k]? = some x:=⟨_,List.getElem?_eq_getElem hkl⟩
   have htk:b.ins.l.take (k+1)=b.ins.l.take k++[x]:=by rw[List.take_add_one,hx];rfl
   (try (conv=>whnf));repeat' (first|refine Ok.seq ?_|((first|refine Ok.region tok ?_|refine Ok.cond ?_);conv=>whnf)|refine Ok.block ?_|((first|refine Ok.skip ?_|refine nI ?_|refine ix _ (by assumption) ?_|refine Alt2.l (aI ?_)|refine⟨_,.inl ⟨rfl,rfl⟩,?_⟩|refine⟨_,_,rfl,rfl,?_⟩);conv=>whnf)|(refine bI ?_ ?_<;>intro<;>(conv=>whnf)<;>(try (exfalso;omega)))|(refine aJ ?_;conv=>whnf)|fail)
   refine⟨k+1,by omega,by omega,?_⟩
   rw[htk]
   (conv=>whnf);simp[envCat,srow];omega
 obtain rfl:k=b.ins.l.length:=by omega
 rw[List.take_length]
 (conv=>whnf)
 (try (conv=>whnf));repeat' (first|refine Ok.seq ?_|((first|refine Ok.region tok ?_|refine Ok.cond ?_);conv=>whnf)|refine Ok.block ?_|(refine Ok.exit ?_;conv=>whnf)|(refine bI ?_ ?_<;>intro<;>(conv=>whnf)<;>(try (exfalso;omega)))|fail)
 refine Ok.loopU [1] [3,5] 1 1 (fun (k:Nat)=>[.own 0 (b.ins.l.length+k),.i .i64 (k:Nat)]) (fun _ b=>b) (fun (k:Nat) (_:Vx.Rows)=>[some (9,(b.ins.l++b.outs.l.take k).map srow)]) (fun (k:Nat)=>k<=b.outs.l.length) (fun (k:Nat)=>b.outs.l.length - k) (0) (Nat.zero_le _) ?_;(conv=>whnf);refine⟨by ((conv=>whnf);first|rfl|(simp[envCat, List.take_of_length_le, SI.row, Node.row, Pfx.row, Link.row, srow, Line.row, Rule.row, Box.row, Slc.row, Config.row];done)|(simp[envCat, List.take_of_length_le, SI.row, Node.row, Pfx.row, Link.row, srow, Line.row, Rule.row, Box.row, Slc.row, Config.row];rw[IntKind.wrap_i64];omega)),?_⟩
 rintro k hk
 have htl:((b.ins.l++b.outs.l.take k).map srow).length=b.ins.l.length+k:=by simp;omega
 by_cases hkl:k<b.outs.l.length
 . obtain⟨x,hx⟩:∃ x,b.outs.l[k]? = some x:=⟨_,List.getElem?_eq_getElem hkl⟩
   have htk:b.outs.l.take (k+1)=b.outs.l.take k++[x]:=by rw[List.take_add_one,hx];rfl
   (try (conv=>whnf));repeat' (first|refine Ok.seq ?_|((first|refine Ok.region tok ?_|refine Ok.cond ?_);conv=>whnf)|refine Ok.block ?_|((first|refine Ok.skip ?_|refine nI ?_|refine ix _ (by assumption) ?_|refine Alt2.l (aI ?_)|refine⟨_,.inl ⟨rfl,rfl⟩,?_⟩|refine⟨_,_,rfl,rfl,?_⟩);conv=>whnf)|(refine bI ?_ ?_<;>intro<;>(conv=>whnf)<;>(try (exfalso;omega)))|(refine aJ ?_;conv=>whnf)|fail)
   refine⟨k+1,by omega,by omega,?_⟩
   rw[htk]
   (conv=>whnf);simp[envCat,srow];omega
 obtain rfl:k=b.outs.l.length:=by omega
 rw[List.take_length]
 (conv=>whnf)
 (try (conv=>whnf));repeat' (first|refine Ok.seq ?_|((first|refine Ok.region tok ?_|refine Ok.cond ?_|refine Ok.exit ?_|refine Ok.ret ?_);conv=>whnf)|(refine bI ?_ ?_<;>intro<;>(conv=>whnf)<;>(try (exfalso;omega)))|fail)
 refine Or.inr (Or.inl ?_);(conv=>whnf)
 exact⟨rfl,by simp[oneD]⟩
end Go.Proofs.YtcglkonooeddfaaGreatDoor
namespace Go.Proofs.YtcglkonooeddfaaGreatDoor
open Go Go.Vx
def fI(o:Option Int):D:=.i .i64 (o.getD 0)
theorem mtSI:MTy Tryz.prog 120 D.s fI:=by
 refine⟨⟨9,3,Tryz.underlying120,keyS Tryz.underlying9,fun w=>?_⟩,fun o=>rfl⟩
 kernel_rfl
def deskD(x:D)(b:Box)(g:Nat):D:=.agg (x :: b.row++[.mv (some g)])
def PMap(l:List (Str × Int × Nat))(ps:List Str):Prop:=(∀ s,s ∉ ps->lk l s=none)/\∀ (k:Nat) s,ps[k]? = some s->lk l s=some (k:Int)
set_option maxRecDepth 100000 in
theorem port_at(b:Box)(hi:b.ins.l.length<=1048576)(ho:b.outs.l.length<=1048576)(k:Nat)(x:Str)(hx:(b.ins.l++b.outs.l)[k]? = some x)(kk:Int)(hk:kk=k):FSpec Tryz.prog T 139 [.agg b.row,.i .i64 kk] (fun d _=>d = .s x):=by
 subst hk
 have h1:(b.ins.l.map srow).length=b.ins.l.length:=by simp
 have h2:(b.outs.l.map srow).length=b.outs.l.length:=by simp
 refine FSpec.of_ok tok Tryz.func139 rfl Tryz.call139 (by simp) ?_
 by_cases hkl:k<b.ins.l.length
 . rw[List.getElem?_append_left hkl] at hx
   have hx2:(b.ins.l.map srow)[k]? = some [.s x]:=by simp[hx,srow]
   (try (conv=>whnf));repeat' (first|refine Ok.seq ?_|((first|refine Ok.region tok ?_|refine Ok.cond ?_|refine Ok.ret ?_|refine ix _ (by assumption) ?_);conv=>whnf)|(refine bI ?_ ?_<;>intro<;>(conv=>whnf)<;>(try (exfalso;omega)))|fail)
   refine Or.inl ?_;(conv=>whnf)
   rfl
 . rw[List.getElem?_append_right (by omega)] at hx
   have hxl:=(List.getElem?_eq_some_iff.1 hx).1
   have hx2:(b.outs.l.map srow)[k - b.ins.l.length]? = some [.s x]:=by simp[hx,srow]
   have e1:((k:Int) - b.ins.l.length).toNat=k - b.ins.l.length:=by omega
   (try (conv=>whnf));repeat' (first|refine Ok.seq ?_|((first|refine Ok.region tok ?_|refine Ok.cond ?_|refine Ok.skip ?_|refine Ok.ret ?_|refine nI ?_|refine ixI_new (by omega) (by omega) fun _ _=>?_);conv=>whnf)|(refine bI ?_ ?_<;>intro<;>(conv=>whnf)<;>(try (exfalso;omega)))|fail)
   all_goals
    rename_i y hy
    rw[h1,e1,hx] at hy
    cases hy
    refine Or.inl ?_;(conv=>whnf)
    rfl
open Classical in
/-- The side that is wanted. -/
noncomputable def wantL(p:Prop)(b:BoxB):List Str:=if p then b.ins else b.outs
theorem wantL_tt(b:BoxB):wantL True b=b.ins:=if_pos trivial
theorem wantL_ff(b:BoxB):wantL False b=b.outs:=if_neg id
theorem wantL_y{p:Prop}(h:p)(b:BoxB):wantL p b=b.ins:=if_pos h
theorem wantL_n{p:Prop}(h:¬ p)(b:BoxB):wantL p b=b.outs:=if_neg h
noncomputable def deskH(g:Nat)(l:List (Str × Int × Nat))(c:Nat):Objs:=[(g,mObj D.s fI l c)]
noncomputable def sideV(b:BoxB)(p:Prop)(s:Str):Int:=(sideE (wantL p b) (wantL (¬ p) b) [] s).1
section
variable {l : List (Str × Int × Nat)} {u v : List Str} {s : Str}
theorem PMap.some_iff(hl:PMap l (u++v)):(lk l s).isSome=true ↔ s ∈ u++v:=by
 constructor
 . intro h
   refine Classical.byContradiction fun hn=>?_
   rw[hl.1 s hn] at h
   cases h
 . intro h
   obtain⟨k,hk⟩:=List.getElem?_of_mem h
   rw[hl.2 k s hk]
   rfl
theorem PMap.left(hl:PMap l (u++v))(h:s ∈ u):∃ k:Nat,lk l s=some (k:Int)/\k<u.length:=by
 obtain⟨k,hk⟩:=List.getElem?_of_mem h
 have hku:=(List.getElem?_eq_some_iff.1 hk).1
 exact⟨k,hl.2 k s (by rw[List.getElem?_append_left hku];exact hk),hku⟩
theorem PMap.right(hl:PMap l (u++v))(h:s ∈ v):∃ k:Nat,lk l s=some ((u.length+k:Nat):Int):=by
 obtain⟨k,hk⟩:=List.getElem?_of_mem h
 exact⟨k,hl.2 _ s (by rw[List.getElem?_append_right (by omega),Nat.add_sub_cancel_left];exact hk)⟩
theorem PMap.lt_iff(hl:PMap l (u++v))(h:s ∈ u++v):(lk l s).getD 0<u.length ↔ s ∈ u:=by
 constructor
 . intro hk
   refine Classical.byContradiction fun hn=>?_
   obtain⟨k,e⟩:=hl.right ((List.mem_append.1 h).resolve_left hn)
   rw[e] at hk
   simp at hk
   omega
 . intro hu
   obtain⟨k,e,hk⟩:=hl.left hu
   rw[e]
   simp
   omega
theorem PMap.not_both(hl:PMap l (u++v))(h:s ∈ u):s ∉ v:=by
 intro hv
 obtain⟨k,e,hk⟩:=hl.left h
 obtain⟨k2,e2⟩:=hl.right hv
 rw[e] at e2
 simp at e2
 omega
end
set_option maxRecDepth 100000 in
set_option maxHeartbeats 4000000 in
theorem side_at(cf:Config)(b:Box)(g:Nat)(l:List (Str × Int × Nat))(ck:Nat)(hl:PMap l (b.ins.l++b.outs.l))(s:Str)(p:Prop) :
    FSpecH Tryz.prog T (deskH g l ck) 259 [deskD (.ep cf.row) b g,.s s,.b p] (fun d rows M=>(d = .i .i64 (sideV b.b p s)/\rows=[])/\M=[]):=by
 refine FSpecH.of_ok0 tok Tryz.func259 rfl Tryz.call259 (by simp) ?_
 have h1:(b.ins.l.map srow).length=b.ins.l.length:=by simp
 have hs:=hl.some_iff (s:=s)
 have hlt:=hl.lt_iff (s:=s)
 have hnb:=hl.not_both (s:=s)
 (try (conv=>whnf));repeat' (first|(refine⟨_,_,_,_,_,_,_,_,mtSI,(by first|exact .head _|exact .tail _ (.head _)|exact .tail _ (.tail _ (.head _))|exact .tail _ (.tail _ (.tail _ (.head _)))|exact List.mem_append_left _ (by assumption)),rfl,?_⟩;conv=>whnf)|refine OkM.seq ?_|((first|refine OkM.region tok ?_|refine OkM.cond ?_|refine OkM.skip ?_|refine OkM.ret ?_);conv=>whnf)|(refine bI ?_ ?_<;>intro<;>(conv=>whnf)<;>(try (exfalso;omega)))|fail)
 all_goals
  refine Or.inl ?_;(conv=>whnf)
  refine⟨?_,rfl⟩
  show D.i _ _=_
  congr 1
  unfold sideV
  rename_i hx
 . have hn:s ∉ b.ins.l++b.outs.l:=fun h=>hx (hs.2 h)
   have h2:∀ q,s ∉ wantL q b.b:=fun q h=>by
    by_cases hq:q
    . rw[wantL_y hq] at h;exact hn (List.mem_append_left _ h)
    . rw[wantL_n hq] at h;exact hn (List.mem_append_right _ h)
   rw[sideE_unk (h2 _) (h2 _)]
 . rename_i hy
   have hm:=hs.1 (Classical.not_not.1 hy)
   have hlt:=hlt hm
   rw[h1] at hx
   have h2:s ∉ wantL p b.b/\s ∈ wantL (¬ p) b.b:=by
    by_cases hq:p
    . rw[wantL_y hq,wantL_n (fun g=>g hq)]
      have hnu:s ∉ b.ins.l:=fun h=>hx ⟨fun _=>hq,fun _=>hlt.2 h⟩
      exact⟨hnu,(List.mem_append.1 hm).resolve_left hnu⟩
    . rw[wantL_n hq,wantL_y hq]
      have hu:s ∈ b.ins.l:=Classical.byContradiction fun h=>hx ⟨fun g=>absurd (hlt.1 g) h,fun g=>absurd g hq⟩
      exact⟨hnb hu,hu⟩
   rw[sideE_side h2.1 h2.2]
 . rename_i hy
   have hm:=hs.1 (Classical.not_not.1 hy)
   have hlt:=hlt hm
   rw[h1] at hx
   have hx:=Classical.not_not.1 hx
   have h2:s ∈ wantL p b.b:=by
    by_cases hq:p
    . rw[wantL_y hq];exact hlt.1 (hx.2 hq)
    . rw[wantL_n hq]
      exact (List.mem_append.1 hm).resolve_left fun h=>hq (hx.1 (hlt.2 h))
   rw[sideE_ok h2 (by simp)]
def KMap(l:List (Str × Int × Nat))(ps:List Str):Prop:=∀ s,(lk l s).isSome=true ↔ s ∈ ps
theorem KMap.nil:KMap [] []:=fun s=>by simp[lk_nil]
theorem KMap.put{l:List (Str × Int × Nat)}{ps:List Str}(h:KMap l ps)(c:Nat)(s:Str)(a:Int):KMap (mput l c s a).1 (ps++[s]):=fun t=>by
 rw[mput_lk]
 by_cases ht:t=s
 . simp[ht]
 . rw[if_neg ht,h t]
   simp[ht]
theorem sidesI_zero{want other:List Str}{l:List Str}{i:Nat}{s:Str}(h:l[i]? = some s)(hs:(sideE want other [] s).1 ≠ 0):firstE (sideE want other) (l.take i) (l.drop i)=sideE want other [] s:=by
 have hw:s ∉ want:=fun hw=>hs (by rw[sideE_ok hw (by simp)])
 have:sideE want other (l.take i) s=sideE want other [] s:=by
  by_cases ho:s ∈ other
  . rw[sideE_side hw ho,sideE_side hw ho]
  . rw[sideE_unk hw ho,sideE_unk hw ho]
 rw[firstE_bad h (by rw[this];exact hs),this]
theorem sideE_want{want other pre:List Str}{s:Str}(hs:(sideE want other pre s).1=0):s ∈ want:=by
 refine Classical.byContradiction fun h=>?_
 by_cases ho:s ∈ other
 . rw[sideE_side h ho] at hs;cases hs
 . rw[sideE_unk h ho] at hs;cases hs
set_option maxRecDepth 100000 in
set_option maxHeartbeats 4000000 in
theorem msides_at(cf:Config)(b:Box)(g:Nat)(l:List (Str × Int × Nat))(ck:Nat)(hl:PMap l (b.ins.l++b.outs.l))(names:List Str){rl sl:List (List D)}(hr:rl=names.map srow)(hn:names.length<=1048576)(p:Prop) :
    FSpecH Tryz.prog T (deskH g l ck) 256 [deskD (.ep cf.row) b g,.lst 9 rl sl,.b p] (fun d rows M=>(d = .i .i64 (sidesI names (wantL p b.b) (wantL (¬ p) b.b))/\rows=[])/\M=[]):=by
 subst hr
 refine FSpecH.of_ok0 tok Tryz.func256 rfl Tryz.call256 (by simp) ?_
 have h1:(names.map srow).length=names.length:=by simp
 (try (conv=>whnf));repeat' (first|(refine⟨_,_,_,_,_,mtSI,fun _ _=>?_⟩;conv=>whnf)|refine OkM.seq ?_|(refine OkM.region tok ?_;conv=>whnf)|refine OkM.block ?_|fail)
 rename_i gc hgc
 refine OkM.loopU [2,3,7,14,15] [16] 0 1 (fun (x:Nat × List (Str × Int × Nat) × Nat)=>[.i .i64 (x.1:Nat)]) (fun _ b=>b) (fun _ r=>r) (fun (x:Nat × List (Str × Int × Nat) × Nat)=>[(gc,mObj D.s fI x.2.1 x.2.2)]) (fun (x:Nat × List (Str × Int × Nat) × Nat)=>x.1<=names.length/\KMap x.2.1 (names.take x.1)/\sidesI names (wantL p b.b) (wantL (¬ p) b.b)=(firstE (sideE (wantL p b.b) (wantL (¬ p) b.b)) (names.take x.1) (names.drop x.1)).1) (fun (x:Nat × List (Str × Int × Nat) × Nat)=>names.length - x.1) ((0,[],0)) (⟨Nat.zero_le _,KMap.nil,rfl⟩) (by first|exact .refl _|exact .cons _ (.refl _)|exact List.nil_sublist _) ?_;(conv=>whnf);refine⟨by ((conv=>whnf);first|rfl|(simp[envCat, List.take_of_length_le, SI.row, Node.row, Pfx.row, Link.row, srow, Line.row, Rule.row, Box.row, Slc.row, Config.row];done)|(simp[envCat, List.take_of_length_le, SI.row, Node.row, Pfx.row, Link.row, srow, Line.row, Rule.row, Box.row, Slc.row, Config.row];rw[IntKind.wrap_i64];omega)),?_⟩
 rintro⟨i,lc,cc⟩ ⟨hi,hkm,hfe⟩
 dsimp only at hi hkm hfe ⊢
 (conv=>whnf)
 by_cases hil:i<names.length
 . obtain⟨s,hsi⟩:∃ s,names[i]? = some s:=⟨_,List.getElem?_eq_getElem hil⟩
   have hsI:names[((i:Nat):Int).toNat]? = some s:=hsi
   have htk:names.take (i+1)=names.take i++[s]:=by rw[List.take_add_one,hsi];rfl
   (try (conv=>whnf));repeat' (first|((first|refine⟨_,_,_,_,_,_,_,_,mtSI,(by first|exact .head _|exact .tail _ (.head _)|exact .tail _ (.tail _ (.head _))|exact .tail _ (.tail _ (.tail _ (.head _)))|exact List.mem_append_left _ (by assumption)),rfl,?_⟩|refine⟨_,_,_,_,_,_,_,0,_,_,mtSI,rfl,rfl,rfl,?_⟩);conv=>whnf)|(refine Or.inr (Or.inl ?_);(conv=>whnf);(repeat (refine aI ?_;conv=>whnf));refine⟨_,(side_at cf b g l ck hl s p).more (fun x hx=>List.mem_append_left _ hx),?_⟩;rintro _ _ _ ⟨⟨rfl,rfl⟩,rfl⟩<;>(conv=>whnf))|refine OkM.seq ?_|((first|refine OkM.region tok ?_|refine OkM.cond ?_);conv=>whnf)|refine OkM.block ?_|((first|refine OkM.skip ?_|refine OkM.ret ?_|refine nI ?_|refine ix _ (by assumption) ?_);conv=>whnf)|(refine bI ?_ ?_<;>intro<;>(conv=>whnf)<;>(try (exfalso;omega)))|fail)
   . rename_i hx
     refine Or.inl ?_;(conv=>whnf)
     refine⟨?_,rfl⟩
     rw[hfe,sidesI_zero hsi hx]
     rfl
   . rename_i hx hy
     have hw:=sideE_want (Classical.not_not.1 hx)
     have hp:=(hkm s).1 hy
     refine Or.inl ?_;(conv=>whnf)
     refine⟨?_,rfl⟩
     rw[hfe,firstE_bad hsi (by rw[sideE_dbl hw hp];decide),sideE_dbl hw hp]
     rfl
   . rename_i hx hy
     have hw:=sideE_want (Classical.not_not.1 hx)
     have hp:s ∉ names.take i:=fun h=>hy ((hkm s).2 h)
     refine⟨(i+1,(mput lc cc s i).1,(mput lc cc s i).2),by dsimp only;omega,⟨by dsimp only;omega,by dsimp only;rw[htk];exact hkm.put cc s i,?_⟩,.refl _,?_⟩
     . rw[hfe,firstE_ok hsi (by rw[sideE_ok hw hp])]
     . (conv=>whnf)
       rfl
 . obtain rfl:i=names.length:=by omega
   rw[firstE_nil (Nat.le_refl _)] at hfe
   (try (conv=>whnf));repeat' (first|refine OkM.seq ?_|((first|refine OkM.region tok ?_|refine OkM.cond ?_|refine OkM.exit ?_|refine OkM.ret ?_);conv=>whnf)|(refine bI ?_ ?_<;>intro<;>(conv=>whnf)<;>(try (exfalso;omega)))|fail)
   all_goals first
    | (exfalso;omega)
    | (refine Or.inl ?_;(conv=>whnf)
       exact⟨by rw[hfe];rfl,rfl⟩)
end Go.Proofs.YtcglkonooeddfaaGreatDoor
namespace Go.Proofs.YtcglkonooeddfaaGreatDoor
open Go Go.Vx
def plRow(x:Nat × Prop):List D:=[.i .i64 (x.1:Nat),.b x.2]
def plcs(bs:List BoxB):List (Nat × Prop):=bs.zipIdx.flatMap fun x=>(x.1.ins.map fun _=>(x.2,True))++x.1.outs.map fun _=>(x.2,False)
def fullsL(bs:List BoxB):List Str:=bs.flatMap fullsB
def NMap(l:List (Str × Int × Nat))(ps:List Str):Prop:=∀ s,(s ∉ ps->lk l s=none)/\(s ∈ ps->lk l s=some (plc ps s))
theorem plcF_app(s:Str)(t:List Str):∀ (l:List Str) (k:Nat),s ∈ l->plcF s (l++t) k=plcF s l k
 | [],_,h=>by cases h
 | x :: l,k,h=>by
  simp only[List.cons_append,plcF]
  split
  . rfl
  . rename_i hx
    refine plcF_app s t l (k+1) ?_
    rcases List.mem_cons.1 h with rfl|h
    . exact absurd rfl hx
    . exact h
theorem plcF_new(s:Str):∀ (l:List Str) (k:Nat),s ∉ l->plcF s (l++[s]) k=(k+l.length:Nat)
 | [],k,_=>by simp[plcF]
 | x :: l,k,h=>by
  simp only[List.cons_append,plcF]
  rw[if_neg fun e=>h (by rw[e];simp)]
  rw[plcF_new s l (k+1) fun g=>h (by simp[g])]
  simp only[List.length_cons]
  omega
theorem NMap.nil:NMap [] []:=fun s=>⟨fun _=>rfl,fun h=>by cases h⟩
theorem NMap.old{l:List (Str × Int × Nat)}{ps:List Str}(h:NMap l ps){s:Str}(hs:s ∈ ps):NMap l (ps++[s]):=fun t=>by
 by_cases ht:t ∈ ps
 . refine⟨fun g=>absurd (List.mem_append_left _ ht) g,fun _=>?_⟩
   rw[(h t).2 ht]
   congr 1
   exact (plcF_app t [s] ps 0 ht).symm
 . refine⟨fun _=>(h t).1 ht,fun g=>?_⟩
   rcases List.mem_append.1 g with g|g
   . exact absurd g ht
   . simp at g;subst g;exact absurd hs ht
theorem NMap.new{l:List (Str × Int × Nat)}{ps:List Str}(h:NMap l ps){s:Str}(hs:s ∉ ps)(c:Nat)(a:Int)(ha:a=(ps.length:Nat)):NMap (mput l c s a).1 (ps++[s]):=fun t=>by
 subst ha
 rw[mput_lk]
 by_cases hts:t=s
 . subst hts
   rw[if_pos rfl]
   refine⟨fun g=>absurd (List.mem_append_right _ (by simp)) g,fun _=>?_⟩
   congr 1
   have:=plcF_new t ps 0 hs
   rw[Nat.zero_add] at this
   exact this.symm
 . rw[if_neg hts]
   by_cases ht:t ∈ ps
   . refine⟨fun g=>absurd (List.mem_append_left _ ht) g,fun _=>?_⟩
     rw[(h t).2 ht]
     congr 1
     exact (plcF_app t [s] ps 0 ht).symm
   . refine⟨fun _=>(h t).1 ht,fun g=>?_⟩
     rcases List.mem_append.1 g with g|g
     . exact absurd g ht
     . simp at g;exact absurd g hts
theorem fullsL_take{bs:List BoxB}{i:Nat}{b:BoxB}(h:bs[i]? = some b):fullsL (bs.take (i+1))=fullsL (bs.take i)++b.ins.map (dot b.name)++b.outs.map (dot b.name):=by
 unfold fullsL
 rw[List.take_add_one,h,List.flatMap_append]
 simp[fullsB]
theorem plcs_take{bs:List BoxB}{i:Nat}{b:BoxB}(h:bs[i]? = some b):plcs (bs.take (i+1))=plcs (bs.take i)++(b.ins.map fun _=>(i,True))++b.outs.map fun _=>(i,False):=by
 have hi:=(List.getElem?_eq_some_iff.1 h).1
 unfold plcs
 rw[List.take_add_one,h,List.zipIdx_append,List.flatMap_append]
 simp[Nat.min_eq_left (Nat.le_of_lt hi)]
theorem plcs_len(bs:List BoxB):(plcs bs).length=(fullsL bs).length:=by
 have key:∀ (l:List BoxB) (k:Nat),((l.zipIdx k).flatMap fun x=>(x.1.ins.map fun _=>(x.2,True))++x.1.outs.map fun _=>(x.2,False)).length=(fullsL l).length:=by
  intro l
  induction l with
  | nil=>intro k;rfl
  | cons b l ih=>
   intro k
   simp only[List.zipIdx_cons,List.flatMap_cons,List.length_append,ih,fullsL,fullsB,List.length_map]
 exact key bs 0
theorem fullsL_le(bs:List BoxB){i:Nat}{b:BoxB}(h:bs[i]? = some b):(fullsL (bs.take i)).length+b.ins.length+b.outs.length<=(fullsL bs).length:=by
 have e:fullsL bs=fullsL (bs.take (i+1))++fullsL (bs.drop (i+1)):=by
  unfold fullsL
  rw[<- List.flatMap_append,List.take_append_drop]
 rw[e,fullsL_take h]
 simp only[List.length_append,List.length_map]
 omega
set_option maxRecDepth 100000 in
set_option maxHeartbeats 8000000 in
theorem numbered_at(c:Config)(hc:c.Ok)(htx:∀ b ∈ c.boxes.l,b.name.length<=1048576/\(∀ s ∈ b.ins.l,s.length<=1048576)/\∀ s ∈ b.outs.l,s.length<=1048576)(hpn:(fullsL c.b.boxes).length<=1000) :
    FSpecH Tryz.prog T [] 55 [.agg c.row] (fun d rows M=>∃ g lst ck,d = .tup [.own 0 (plcs c.b.boxes).length,.mv (some g)]/\rows=[some (160,(plcs c.b.boxes).map plRow)]/\M=[(g,mObj D.s fI lst ck)]/\NMap lst (fullsL c.b.boxes)/\mWf lst ck/\mKeys lst):=by
 have hcb:=hc.boxes
 have hbl:(c.boxes.l.map Box.row).length=c.boxes.l.length:=by simp
 refine FSpecH.of_ok tok Tryz.func55 rfl Tryz.call55 (by simp) ?_
 (try (conv=>whnf));repeat' (first|(refine⟨_,_,_,_,_,mtSI,fun _ _=>?_⟩;conv=>whnf)|refine OkM.seq ?_|(refine OkM.region tok ?_;conv=>whnf)|fail)
 rename_i g hg
 refine Or.inr ?_
 (conv=>whnf)
 (try (conv=>whnf));repeat' (first|refine OkM.seq ?_|(refine OkM.region tok ?_;conv=>whnf)|refine OkM.block ?_|fail)
 refine OkM.ghostB 1 0 160 rfl rfl ?_
 (conv=>whnf)
 refine OkM.loopU [4,5,6,12,13] [14] 1 3 (fun (x:Nat × List (Str × Int × Nat) × Nat)=>[.i .i64 (x.1:Nat)]) (fun (x:Nat × List (Str × Int × Nat) × Nat) (_:List (List D))=>[c.row,[.own 0 (plcs (c.b.boxes.take x.1)).length],[.mv (some g)]]) (fun (x:Nat × List (Str × Int × Nat) × Nat) (_:Vx.Rows)=>[some (160,(plcs (c.b.boxes.take x.1)).map plRow)]) (fun (x:Nat × List (Str × Int × Nat) × Nat)=>[(g,mObj D.s fI x.2.1 x.2.2)]) (fun (x:Nat × List (Str × Int × Nat) × Nat)=>x.1<=c.boxes.l.length/\NMap x.2.1 (fullsL (c.b.boxes.take x.1))/\mWf x.2.1 x.2.2/\mKeys x.2.1) (fun (x:Nat × List (Str × Int × Nat) × Nat)=>c.boxes.l.length - x.1) ((0,[],0)) (⟨Nat.zero_le _,NMap.nil,mWf.nil,List.nodup_nil⟩) (by first|exact .refl _|exact .cons _ (.refl _)|exact List.nil_sublist _) ?_;(conv=>whnf);refine⟨by ((conv=>whnf);first|rfl|(simp[envCat, List.take_of_length_le, SI.row, Node.row, Pfx.row, Link.row, srow, Line.row, Rule.row, Box.row, Slc.row, Config.row, plRow];done)|(simp[envCat, List.take_of_length_le, SI.row, Node.row, Pfx.row, Link.row, srow, Line.row, Rule.row, Box.row, Slc.row, Config.row, plRow];rw[IntKind.wrap_i64];omega)),?_⟩
 rintro⟨i,lst,ck⟩ ⟨hi,hnm,hwf,hky⟩
 dsimp only at hi hnm hwf hky ⊢
 (conv=>whnf)
 by_cases hil:i<c.boxes.l.length
 . obtain⟨b,hb⟩:∃ b,c.boxes.l[i]? = some b:=⟨_,List.getElem?_eq_getElem hil⟩
   have hbI:c.boxes.l[((i:Nat):Int).toNat]? = some b:=hb
   have hbb:c.b.boxes[i]? = some b.b:=by simp[Config.b,hb]
   -- both calls
   have hbx:=hc.box b (List.mem_of_getElem? hb)
   have hbi:=hbx.ins
   have hbo:=hbx.outs
   obtain⟨hbn,hbins,hbouts⟩:=htx b (List.mem_of_getElem? hb)
   have hPL:=plcs_len (c.b.boxes.take i)
   have hcap:(fullsL (c.b.boxes.take i)).length+b.ins.l.length+b.outs.l.length<=(fullsL c.b.boxes).length:=fullsL_le c.b.boxes hbb
   (try (conv=>whnf));repeat' (first|refine OkM.seq ?_|((first|refine OkM.region tok ?_|refine OkM.cond ?_);conv=>whnf)|refine OkM.block ?_|((first|refine OkM.skip ?_|refine ix _ (by assumption) ?_);conv=>whnf)|(refine bI ?_ ?_<;>intro<;>(conv=>whnf)<;>(try (exfalso;omega)))|fail)
   refine Or.inr ?_;(conv=>whnf);refine⟨_,_,Tryz.func102,rfl,Tryz.call102,?_⟩;(conv=>whnf)
   (try (conv=>whnf));repeat' (first|refine OkM.seq ?_|(refine OkM.region tok ?_;conv=>whnf)|refine OkM.block ?_|fail)
   refine OkM.loopU [0,2,3,4,5,14,15,52,53,54,55,56,60,61,62] [16] 1 4 (fun (y:Nat × List (Str × Int × Nat) × Nat)=>[.i .i64 (y.1:Nat)]) (fun (y:Nat × List (Str × Int × Nat) × Nat) (_:List (List D))=>[c.row,[.own 0 ((plcs (c.b.boxes.take i)).length+y.1)],[.mv (some g)],b.row]) (fun (y:Nat × List (Str × Int × Nat) × Nat) (_:Vx.Rows)=>[some (160,(plcs (c.b.boxes.take i)++(b.ins.l.take y.1).map fun _=>(i,True)).map plRow)]) (fun (y:Nat × List (Str × Int × Nat) × Nat)=>[(g,mObj D.s fI y.2.1 y.2.2)]) (fun (y:Nat × List (Str × Int × Nat) × Nat)=>y.1<=b.ins.l.length/\NMap y.2.1 (fullsL (c.b.boxes.take i)++(b.ins.l.take y.1).map (dot b.name))/\mWf y.2.1 y.2.2/\mKeys y.2.1) (fun (y:Nat × List (Str × Int × Nat) × Nat)=>b.ins.l.length - y.1) ((0,lst,ck)) (⟨Nat.zero_le _,by simpa using hnm,hwf,hky⟩) (by first|exact .refl _|exact .cons _ (.refl _)|exact List.nil_sublist _) ?_;(conv=>whnf);refine⟨by ((conv=>whnf);first|rfl|(simp[envCat, List.take_of_length_le, SI.row, Node.row, Pfx.row, Link.row, srow, Line.row, Rule.row, Box.row, Slc.row, Config.row, plRow];done)|(simp[envCat, List.take_of_length_le, SI.row, Node.row, Pfx.row, Link.row, srow, Line.row, Rule.row, Box.row, Slc.row, Config.row, plRow];rw[IntKind.wrap_i64];omega)),?_⟩
   rintro⟨j,l0,c0⟩ ⟨hj,hnm0a,hwf0a,hky0a⟩
   dsimp only at hj hnm0a hwf0a hky0a ⊢
   (conv=>whnf)
   have hnl0:(b.ins.l.map srow).length=b.ins.l.length:=by simp
   have hpl0:((plcs (c.b.boxes.take i)++(b.ins.l.take j).map fun _=>(i,True)).map plRow).length=(plcs (c.b.boxes.take i)).length+j:=by simp;omega
   by_cases hjl:j<b.ins.l.length
   . obtain⟨s,hs⟩:∃ s,b.ins.l[j]? = some s:=⟨_,List.getElem?_eq_getElem hjl⟩
     have hsI:b.ins.l[((j:Nat):Int).toNat]? = some s:=hs
     have htk:b.ins.l.take (j+1)=b.ins.l.take j++[s]:=by rw[List.take_add_one,hs];rfl
     have hsl:=hbins s (List.mem_of_getElem? hs)
     have hcI:(c.boxes.l.map Box.row)[i]? = some b.row:=by simp[hb]
     (try (conv=>whnf));repeat' (first|((first|refine⟨_,_,_,_,_,_,_,_,mtSI,(by first|exact .head _|exact .tail _ (.head _)|exact .tail _ (.tail _ (.head _))|exact .tail _ (.tail _ (.tail _ (.head _)))|exact List.mem_append_left _ (by assumption)),rfl,?_⟩|refine⟨_,_,_,_,_,_,_,0,_,_,mtSI,rfl,rfl,rfl,?_⟩);conv=>whnf)|refine OkM.seq ?_|((first|refine OkM.region tok ?_|refine OkM.cond ?_);conv=>whnf)|refine OkM.block ?_|((first|refine OkM.skip ?_|refine nI ?_|refine ix _ (by assumption) ?_|refine Alt2.l (aI ?_)|refine⟨_,.inl ⟨rfl,rfl⟩,?_⟩|refine⟨_,_,rfl,rfl,?_⟩);conv=>whnf)|(refine bI ?_ ?_<;>intro<;>(conv=>whnf)<;>(try (exfalso;omega)))|(refine aJ ?_;conv=>whnf)|fail)
     . rename_i hx
       have hq:dot b.name s ∉ fullsL (c.b.boxes.take i)++(b.ins.l.take j).map (dot b.name):=fun h=>hx (by show (lk _ (dot b.name s)).isSome=true;rw[(hnm0a _).2 h];rfl)
       refine⟨(j+1,(mput l0 c0 (dot b.name s) (((plcs (c.b.boxes.take i)).length+j:Nat):Int)).1,(mput l0 c0 (dot b.name s) (((plcs (c.b.boxes.take i)).length+j:Nat):Int)).2),by dsimp only;omega,⟨by dsimp only;omega,?_,mput_born hwf0a _ _,mput_keys hky0a _ _⟩,.refl _,?_⟩
       . dsimp only
         rw[htk,List.map_append,<- List.append_assoc]
         exact hnm0a.new hq _ _ (by simp only[List.length_append,List.length_map,List.length_take,hPL];omega)
       . rw[htk]
         (conv=>whnf);simp[envCat,plRow];exact⟨rfl,by omega,rfl⟩
     . rename_i hx
       have hq:dot b.name s ∈ fullsL (c.b.boxes.take i)++(b.ins.l.take j).map (dot b.name):=Classical.byContradiction fun h=>hx (by show ¬ (lk _ (dot b.name s)).isSome=true;rw[(hnm0a _).1 h];simp)
       refine⟨(j+1,l0,c0),by dsimp only;omega,⟨by dsimp only;omega,?_,hwf0a,hky0a⟩,.refl _,?_⟩
       . dsimp only
         rw[htk,List.map_append,<- List.append_assoc]
         exact hnm0a.old hq
       . rw[htk]
         (conv=>whnf);simp[envCat,plRow];exact⟨rfl,by omega,rfl⟩
   obtain rfl:j=b.ins.l.length:=by omega
   rw[List.take_length] at hnm0a ⊢
   (conv=>whnf)
   (try (conv=>whnf));repeat' (first|refine OkM.seq ?_|((first|refine OkM.region tok ?_|refine OkM.cond ?_|refine OkM.exit ?_);conv=>whnf)|(refine bI ?_ ?_<;>intro<;>(conv=>whnf)<;>(try (exfalso;omega)))|fail)
   refine Or.inr ?_;(conv=>whnf);refine⟨_,_,Tryz.func102,rfl,Tryz.call102,?_⟩;(conv=>whnf)
   (try (conv=>whnf));repeat' (first|refine OkM.seq ?_|(refine OkM.region tok ?_;conv=>whnf)|refine OkM.block ?_|fail)
   refine OkM.loopU [0,2,3,4,5,14,15,52,53,54,60,61,62] [16] 1 4 (fun (y:Nat × List (Str × Int × Nat) × Nat)=>[.i .i64 (y.1:Nat)]) (fun (y:Nat × List (Str × Int × Nat) × Nat) (_:List (List D))=>[c.row,[.own 0 (((plcs (c.b.boxes.take i)++b.ins.l.map fun _=>(i,True))).length+y.1)],[.mv (some g)],b.row]) (fun (y:Nat × List (Str × Int × Nat) × Nat) (_:Vx.Rows)=>[some (160,((plcs (c.b.boxes.take i)++b.ins.l.map fun _=>(i,True))++(b.outs.l.take y.1).map fun _=>(i,False)).map plRow)]) (fun (y:Nat × List (Str × Int × Nat) × Nat)=>[(g,mObj D.s fI y.2.1 y.2.2)]) (fun (y:Nat × List (Str × Int × Nat) × Nat)=>y.1<=b.outs.l.length/\NMap y.2.1 ((fullsL (c.b.boxes.take i)++b.ins.l.map (dot b.name))++(b.outs.l.take y.1).map (dot b.name))/\mWf y.2.1 y.2.2/\mKeys y.2.1) (fun (y:Nat × List (Str × Int × Nat) × Nat)=>b.outs.l.length - y.1) ((0,l0,c0)) (⟨Nat.zero_le _,by simpa using hnm0a,hwf0a,hky0a⟩) (by first|exact .refl _|exact .cons _ (.refl _)|exact List.nil_sublist _) ?_;(conv=>whnf);refine⟨by ((conv=>whnf);first|rfl|(simp[envCat, List.take_of_length_le, SI.row, Node.row, Pfx.row, Link.row, srow, Line.row, Rule.row, Box.row, Slc.row, Config.row, plRow];done)|(simp[envCat, List.take_of_length_le, SI.row, Node.row, Pfx.row, Link.row, srow, Line.row, Rule.row, Box.row, Slc.row, Config.row, plRow];rw[IntKind.wrap_i64];omega)),?_⟩
   rintro⟨j,l1,c1⟩ ⟨hj,hnm1a,hwf1a,hky1a⟩
   dsimp only at hj hnm1a hwf1a hky1a ⊢
   (conv=>whnf)
   have hnl1:(b.outs.l.map srow).length=b.outs.l.length:=by simp
   have hpl1:(((plcs (c.b.boxes.take i)++b.ins.l.map fun _=>(i,True))++(b.outs.l.take j).map fun _=>(i,False)).map plRow).length=((plcs (c.b.boxes.take i)++b.ins.l.map fun _=>(i,True))).length+j:=by simp;omega
   by_cases hjl:j<b.outs.l.length
   . obtain⟨s,hs⟩:∃ s,b.outs.l[j]? = some s:=⟨_,List.getElem?_eq_getElem hjl⟩
     have hsI:b.outs.l[((j:Nat):Int).toNat]? = some s:=hs
     have htk:b.outs.l.take (j+1)=b.outs.l.take j++[s]:=by rw[List.take_add_one,hs];rfl
     have hsl:=hbouts s (List.mem_of_getElem? hs)
     have hcI:(c.boxes.l.map Box.row)[i]? = some b.row:=by simp[hb]
     (try (conv=>whnf));repeat' (first|((first|refine⟨_,_,_,_,_,_,_,_,mtSI,(by first|exact .head _|exact .tail _ (.head _)|exact .tail _ (.tail _ (.head _))|exact .tail _ (.tail _ (.tail _ (.head _)))|exact List.mem_append_left _ (by assumption)),rfl,?_⟩|refine⟨_,_,_,_,_,_,_,0,_,_,mtSI,rfl,rfl,rfl,?_⟩);conv=>whnf)|refine OkM.seq ?_|((first|refine OkM.region tok ?_|refine OkM.cond ?_);conv=>whnf)|refine OkM.block ?_|((first|refine OkM.skip ?_|refine nI ?_|refine ix _ (by assumption) ?_|refine Alt2.l (aI ?_)|refine⟨_,.inl ⟨rfl,rfl⟩,?_⟩|refine⟨_,_,rfl,rfl,?_⟩);conv=>whnf)|(refine bI ?_ ?_<;>intro<;>(conv=>whnf)<;>(try (exfalso;omega)))|(refine aJ ?_;conv=>whnf)|fail)
     . rename_i hx
       have hq:dot b.name s ∉ (fullsL (c.b.boxes.take i)++b.ins.l.map (dot b.name))++(b.outs.l.take j).map (dot b.name):=fun h=>hx (by show (lk _ (dot b.name s)).isSome=true;rw[(hnm1a _).2 h];rfl)
       refine⟨(j+1,(mput l1 c1 (dot b.name s) ((((plcs (c.b.boxes.take i)++b.ins.l.map fun _=>(i,True))).length+j:Nat):Int)).1,(mput l1 c1 (dot b.name s) ((((plcs (c.b.boxes.take i)++b.ins.l.map fun _=>(i,True))).length+j:Nat):Int)).2),by dsimp only;omega,⟨by dsimp only;omega,?_,mput_born hwf1a _ _,mput_keys hky1a _ _⟩,.refl _,?_⟩
       . dsimp only
         rw[htk,List.map_append,<- List.append_assoc]
         exact hnm1a.new hq _ _ (by simp only[List.length_append,List.length_map,List.length_take,hPL];omega)
       . rw[htk]
         (conv=>whnf);simp[envCat,plRow];exact⟨rfl,by omega,rfl⟩
     . rename_i hx
       have hq:dot b.name s ∈ (fullsL (c.b.boxes.take i)++b.ins.l.map (dot b.name))++(b.outs.l.take j).map (dot b.name):=Classical.byContradiction fun h=>hx (by show ¬ (lk _ (dot b.name s)).isSome=true;rw[(hnm1a _).1 h];simp)
       refine⟨(j+1,l1,c1),by dsimp only;omega,⟨by dsimp only;omega,?_,hwf1a,hky1a⟩,.refl _,?_⟩
       . dsimp only
         rw[htk,List.map_append,<- List.append_assoc]
         exact hnm1a.old hq
       . rw[htk]
         (conv=>whnf);simp[envCat,plRow];exact⟨rfl,by omega,rfl⟩
   obtain rfl:j=b.outs.l.length:=by omega
   rw[List.take_length] at hnm1a ⊢
   (conv=>whnf)
   (try (conv=>whnf));repeat' (first|refine OkM.seq ?_|((first|refine OkM.region tok ?_|refine OkM.cond ?_|refine OkM.exit ?_|refine nI ?_);conv=>whnf)|(refine bI ?_ ?_<;>intro<;>(conv=>whnf)<;>(try (exfalso;omega)))|fail)
   refine⟨(i+1,l1,c1),by dsimp only;omega,⟨by dsimp only;omega,?_,hwf1a,hky1a⟩,.refl _,?_⟩
   . dsimp only
     rw[fullsL_take hbb]
     exact hnm1a
   . rw[plcs_take hbb]
     (conv=>whnf);simp[envCat,plRow];exact⟨Nat.add_assoc _ _ _,rfl⟩
 . obtain rfl:i=c.boxes.l.length:=by omega
   have htl:c.b.boxes.take c.boxes.l.length=c.b.boxes:=List.take_of_length_le (by simp[Config.b])
   rw[htl] at hnm ⊢
   (conv=>whnf)
   (try (conv=>whnf));repeat' (first|refine OkM.seq ?_|((first|refine OkM.region tok ?_|refine OkM.of_ok (Ok.region_draw tok follows (by kernel_rfl) ?_)|refine OkM.cond ?_|refine OkM.exit ?_|refine OkM.ret ?_);conv=>whnf)|(refine bI ?_ ?_<;>intro<;>(conv=>whnf)<;>(try (exfalso;omega)))|fail)
   first
    | (refine Or.inr (Or.inl ?_);(conv=>whnf)
       exact⟨g,lst,ck,rfl,rfl,rfl,hnm,hwf,hky⟩)
    | (refine Or.inl ?_;(conv=>whnf)
       exact⟨g,lst,ck,rfl,rfl,rfl,hnm,hwf,hky⟩)
end Go.Proofs.YtcglkonooeddfaaGreatDoor
namespace Go.Proofs.YtcglkonooeddfaaGreatDoor
open Go Go.Vx
theorem portE_bad{n p:Str}{pre:List Str}(h:¬ MName p):portE n pre p=(36,dot n p):=if_pos h
theorem portE_dbl{n p:Str}{pre:List Str}(h:MName p)(h2:p ∈ pre):portE n pre p=(72,dot n p):=by unfold portE;rw[if_neg fun g=>g h,if_pos h2]
theorem portE_ok{n p:Str}{pre:List Str}(h:MName p)(h2:p ∉ pre):portE n pre p=(0,[]):=by unfold portE;rw[if_neg fun g=>g h,if_neg h2]
theorem boxE_bad{pre:List BoxB}{b:BoxB}(h:¬ MName b.name):boxE pre b=(36,b.name):=if_pos h
theorem boxE_dbl{pre:List BoxB}{b:BoxB}(h:MName b.name)(h2:b.name ∈ pre.map BoxB.name):boxE pre b=(72,b.name):=by
 unfold boxE
 rw[if_neg fun g=>g h,if_pos (by obtain⟨x,hx,e⟩:=List.mem_map.1 h2;exact⟨x,hx,e⟩)]
theorem boxE_ok{pre:List BoxB}{b:BoxB}(h:MName b.name)(h2:b.name ∉ pre.map BoxB.name):boxE pre b=firstE (portE b.name) [] (b.ins++b.outs):=by
 unfold boxE
 rw[if_neg fun g=>g h,if_neg (by rintro⟨x,hx,e⟩;exact h2 (List.mem_map.2 ⟨x,hx,e⟩))]
set_option maxRecDepth 100000 in
set_option maxHeartbeats 8000000 in
theorem mnames_at(hN:∀ s,FSpec Tryz.prog T 138 [.s s] (fun d _=>d = .b (MName s)))(c:Config)(hc:c.Ok)(htx:∀ b ∈ c.boxes.l,b.name.length<=1048576/\(∀ s ∈ b.ins.l,s.length<=1048576)/\∀ s ∈ b.outs.l,s.length<=1048576) :
    FSpecH Tryz.prog T [] 76 [.agg c.row] (fun d rows M=>(d = .tup [.i .i64 (nameO c.b).1,.s (nameO c.b).2]/\rows=[])/\M=[]):=by
 have hcb:=hc.boxes
 have hbl:(c.boxes.l.map Box.row).length=c.boxes.l.length:=by simp
 refine FSpecH.of_ok0 tok Tryz.func76 rfl Tryz.call76 (by simp) ?_
 (try (conv=>whnf));repeat' (first|(refine⟨_,_,_,_,_,mtSI,fun _ _=>?_⟩;conv=>whnf)|refine OkM.seq ?_|(refine OkM.region tok ?_;conv=>whnf)|refine OkM.block ?_|fail)
 rename_i g hg
 refine OkM.loopU [4,16,17] [18] 0 1 (fun (x:Nat × List (Str × Int × Nat) × Nat)=>[.i .i64 (x.1:Nat)]) (fun _ b=>b) (fun _ r=>r) (fun (x:Nat × List (Str × Int × Nat) × Nat)=>[(g,mObj D.s fI x.2.1 x.2.2)]) (fun (x:Nat × List (Str × Int × Nat) × Nat)=>x.1<=c.boxes.l.length/\KMap x.2.1 ((c.b.boxes.take x.1).map BoxB.name)/\nameO c.b=firstE boxE (c.b.boxes.take x.1) (c.b.boxes.drop x.1)) (fun (x:Nat × List (Str × Int × Nat) × Nat)=>c.boxes.l.length - x.1) ((0,[],0)) (⟨Nat.zero_le _,KMap.nil,rfl⟩) (by first|exact .refl _|exact .cons _ (.refl _)|exact List.nil_sublist _) ?_;(conv=>whnf);refine⟨by ((conv=>whnf);first|rfl|(simp[envCat, List.take_of_length_le, SI.row, Node.row, Pfx.row, Link.row, srow, Line.row, Rule.row, Box.row, Slc.row, Config.row, plRow];done)|(simp[envCat, List.take_of_length_le, SI.row, Node.row, Pfx.row, Link.row, srow, Line.row, Rule.row, Box.row, Slc.row, Config.row, plRow];rw[IntKind.wrap_i64];omega)),?_⟩
 rintro⟨i,lst,ck⟩ ⟨hi,hkm,hfe⟩
 dsimp only at hi hkm hfe ⊢
 (conv=>whnf)
 by_cases hil:i<c.boxes.l.length
 . obtain⟨b,hb⟩:∃ b,c.boxes.l[i]? = some b:=⟨_,List.getElem?_eq_getElem hil⟩
   have hbI:c.boxes.l[((i:Nat):Int).toNat]? = some b:=hb
   have hbb:c.b.boxes[i]? = some b.b:=by simp[Config.b,hb]
   have htkb:c.b.boxes.take (i+1)=c.b.boxes.take i++[b.b]:=by rw[List.take_add_one,hbb];rfl
   have hbx:=hc.box b (List.mem_of_getElem? hb)
   have hbi:=hbx.ins
   have hbo:=hbx.outs
   obtain⟨hbn,hbins,hbouts⟩:=htx b (List.mem_of_getElem? hb)
   have hil':(b.ins.l.map srow).length=b.ins.l.length:=by simp
   have hol':(b.outs.l.map srow).length=b.outs.l.length:=by simp
   (try (conv=>whnf));repeat' (first|((first|refine⟨_,_,_,_,_,_,_,_,mtSI,(by first|exact .head _|exact .tail _ (.head _)|exact .tail _ (.tail _ (.head _))|exact .tail _ (.tail _ (.tail _ (.head _)))|exact List.mem_append_left _ (by assumption)),rfl,?_⟩|refine⟨_,_,_,_,_,mtSI,fun _ _=>?_⟩|refine⟨_,_,_,_,_,_,_,0,_,_,mtSI,rfl,rfl,rfl,?_⟩);conv=>whnf)|refine OkM.seq ?_|((first|refine OkM.region tok ?_|refine OkM.of_ok (Ok.region_draw tok follows (by kernel_rfl) ?_)|refine OkM.cond ?_);conv=>whnf)|refine OkM.block ?_|((first|refine OkM.skip ?_|refine OkM.ret ?_|refine nI ?_|refine ix _ (by assumption) ?_);conv=>whnf)|(refine Or.inl ?_;(conv=>whnf);refine Or.inl ?_;(conv=>whnf);(repeat (refine aI ?_;conv=>whnf));refine⟨_,hN b.name,rfl,?_⟩;conv=>whnf)|(refine bI ?_ ?_<;>intro<;>(conv=>whnf)<;>(try (exfalso;omega)))|fail)
   . rename_i hx
     refine Or.inl ?_;(conv=>whnf)
     refine⟨?_,rfl⟩
     rw[hfe,firstE_bad hbb (by rw[boxE_bad hx];simp),boxE_bad hx]
     rfl
   . rename_i hx hy
     have hx:=Classical.not_not.1 hx
     have hm:=(hkm _).1 hy
     refine Or.inl ?_;(conv=>whnf)
     refine⟨?_,rfl⟩
     rw[hfe,firstE_bad hbb (by rw[boxE_dbl hx hm];simp),boxE_dbl hx hm]
     rfl
   rename_i hx hy g2 hg2
   have hx:=Classical.not_not.1 hx
   have hm:b.b.name ∉ (c.b.boxes.take i).map BoxB.name:=fun h=>hy ((hkm _).2 h)
   rw[firstE_split hbb,boxE_ok hx hm] at hfe
   change nameO c.b=if (firstE (portE b.name) [] (b.ins.l++b.outs.l)).1 ≠ 0 then firstE (portE b.name) [] (b.ins.l++b.outs.l) else firstE boxE (c.b.boxes.take (i+1)) (c.b.boxes.drop (i+1)) at hfe
   refine OkM.loopU [4,6,9,16,17,18,50] [51] 0 2 (fun (y:Nat × List (Str × Int × Nat) × Nat)=>[.i .i64 (y.1:Nat)]) (fun _ b=>b) (fun _ r=>r) (fun (y:Nat × List (Str × Int × Nat) × Nat)=>[(g2,mObj D.s fI y.2.1 y.2.2),(g,mObj D.s fI (mput lst ck b.name i).1 (mput lst ck b.name i).2)]) (fun (y:Nat × List (Str × Int × Nat) × Nat)=>y.1<=(b.ins.l++b.outs.l).length/\KMap y.2.1 ((b.ins.l++b.outs.l).take y.1)/\firstE (portE b.name) [] (b.ins.l++b.outs.l)=firstE (portE b.name) ((b.ins.l++b.outs.l).take y.1) ((b.ins.l++b.outs.l).drop y.1)) (fun (y:Nat × List (Str × Int × Nat) × Nat)=>(b.ins.l++b.outs.l).length - y.1) ((0,[],0)) (⟨Nat.zero_le _,KMap.nil,rfl⟩) (by first|exact .refl _|exact .cons _ (.refl _)|exact List.nil_sublist _) ?_;(conv=>whnf);refine⟨by ((conv=>whnf);first|rfl|(simp[envCat, List.take_of_length_le, SI.row, Node.row, Pfx.row, Link.row, srow, Line.row, Rule.row, Box.row, Slc.row, Config.row, plRow];done)|(simp[envCat, List.take_of_length_le, SI.row, Node.row, Pfx.row, Link.row, srow, Line.row, Rule.row, Box.row, Slc.row, Config.row, plRow];rw[IntKind.wrap_i64];omega)),?_⟩
   rintro⟨j,l2,c2⟩ ⟨hj,hkm2,hfe2⟩
   dsimp only at hj hkm2 hfe2 ⊢
   (conv=>whnf)
   have hpl:(b.ins.l++b.outs.l).length=b.ins.l.length+b.outs.l.length:=by simp
   by_cases hjl:j<(b.ins.l++b.outs.l).length
   . obtain⟨s,hs⟩:∃ s,(b.ins.l++b.outs.l)[j]? = some s:=⟨_,List.getElem?_eq_getElem hjl⟩
     have hsl:s.length<=1048576:=by
      rcases List.mem_append.1 (List.mem_of_getElem? hs) with h|h
      . exact hbins s h
      . exact hbouts s h
     have htk:(b.ins.l++b.outs.l).take (j+1)=(b.ins.l++b.outs.l).take j++[s]:=by rw[List.take_add_one,hs];rfl
     (try (conv=>whnf));repeat' (first|((first|refine⟨_,_,_,_,_,_,_,_,mtSI,(by first|exact .head _|exact .tail _ (.head _)|exact .tail _ (.tail _ (.head _))|exact .tail _ (.tail _ (.tail _ (.head _)))|exact List.mem_append_left _ (by assumption)),rfl,?_⟩|refine⟨_,_,_,_,_,_,_,0,_,_,mtSI,rfl,rfl,rfl,?_⟩);conv=>whnf)|refine OkM.seq ?_|((first|refine OkM.region tok ?_|refine OkM.of_ok (Ok.region_draw tok follows (by kernel_rfl) ?_)|refine OkM.cond ?_);conv=>whnf)|refine OkM.block ?_|((first|refine OkM.skip ?_|refine OkM.ret ?_|refine nI ?_);conv=>whnf)|(refine Or.inl ?_;(conv=>whnf);refine Or.inl ?_;(conv=>whnf);(repeat (refine aI ?_;conv=>whnf));refine⟨_,port_at b hbi hbo j s hs _ rfl,rfl,?_⟩;conv=>whnf)|(refine Or.inl ?_;(conv=>whnf);refine Or.inl ?_;(conv=>whnf);(repeat (refine aI ?_;conv=>whnf));refine⟨_,hN s,rfl,?_⟩;conv=>whnf)|(refine bI ?_ ?_<;>intro<;>(conv=>whnf)<;>(try (exfalso;omega)))|(refine aJ ?_;conv=>whnf)|fail)
     . rename_i hz
       rw[firstE_bad hs (by rw[portE_bad hz];simp),portE_bad hz] at hfe2
       rw[hfe2,if_pos (by simp)] at hfe
       refine Or.inl ?_;(conv=>whnf)
       refine⟨?_,rfl⟩
       rw[hfe]
       rfl
     . rename_i hz hv
       have hz:=Classical.not_not.1 hz
       have hp:=(hkm2 s).1 hv
       rw[firstE_bad hs (by rw[portE_dbl hz hp];simp),portE_dbl hz hp] at hfe2
       rw[hfe2,if_pos (by simp)] at hfe
       refine Or.inl ?_;(conv=>whnf)
       refine⟨?_,rfl⟩
       rw[hfe]
       rfl
     . rename_i hz hv
       have hz:=Classical.not_not.1 hz
       have hp:s ∉ (b.ins.l++b.outs.l).take j:=fun h=>hv ((hkm2 s).2 h)
       refine⟨(j+1,(mput l2 c2 s j).1,(mput l2 c2 s j).2),by dsimp only;omega,⟨by dsimp only;omega,by dsimp only;rw[htk];exact hkm2.put c2 s j,?_⟩,.refl _,?_⟩
       . rw[hfe2,firstE_ok hs (by rw[portE_ok hz hp])]
       . (conv=>whnf)
         rfl
   . obtain rfl:j=(b.ins.l++b.outs.l).length:=by omega
     rw[firstE_nil (Nat.le_refl _)] at hfe2
     rw[hfe2,if_neg (by simp)] at hfe
     (try (conv=>whnf));repeat' (first|refine OkM.seq ?_|((first|refine OkM.region tok ?_|refine OkM.cond ?_|refine OkM.exit ?_|refine nI ?_);conv=>whnf)|(refine bI ?_ ?_<;>intro<;>(conv=>whnf)<;>(try (exfalso;omega)))|fail)
     refine⟨(i+1,(mput lst ck b.name i).1,(mput lst ck b.name i).2),by dsimp only;omega,⟨by dsimp only;omega,?_,hfe⟩,.cons _ (.refl _),?_⟩
     . dsimp only
       rw[htkb,List.map_append]
       exact hkm.put ck b.name i
     . (conv=>whnf)
       rfl
 . obtain rfl:i=c.boxes.l.length:=by omega
   rw[firstE_nil (by simp[Config.b])] at hfe
   (try (conv=>whnf));repeat' (first|refine OkM.seq ?_|((first|refine OkM.region tok ?_|refine OkM.cond ?_|refine OkM.exit ?_|refine OkM.ret ?_);conv=>whnf)|(refine bI ?_ ?_<;>intro<;>(conv=>whnf)<;>(try (exfalso;omega)))|fail)
   all_goals first
    | (exfalso;omega)
    | (refine Or.inl ?_;(conv=>whnf)
       exact⟨by rw[hfe];rfl,rfl⟩)
end Go.Proofs.YtcglkonooeddfaaGreatDoor
namespace Go.Proofs.YtcglkonooeddfaaGreatDoor
open Go Go.Vx
theorem forceL_at{L:List D}{n:Nat}{d:D}{K:List D->Prop}(h:L[n]? = some d)(hk:K (d :: L.drop (n+1))):forceL (L.drop n) K:=by
 rw[forceL_eq,fdrop_at h]
 exact hk
theorem resvL_len:resvL.length=26:=rfl
set_option maxRecDepth 100000 in
set_option maxHeartbeats 4000000 in
theorem rresv_at(s:Str):FSpec Tryz.prog T 126 [.s s] (fun d _=>d = .b (Rsv s)):=by
 refine FSpec.of_ok tok Tryz.func126 rfl Tryz.call126 (by simp) ?_
 (try (conv=>whnf));repeat' (first|refine Ok.seq ?_|(refine Ok.region tok ?_;conv=>whnf)|refine Ok.block ?_|fail)
 refine Ok.loopU [0] [3] 0 0 (fun (i:Nat)=>[.i .i64 (i:Nat)]) (fun _ b=>b) (fun _ r=>r) (fun (i:Nat)=>i<=26/\∀ (j:Nat) w,j<i->resvL[j]? = some w->w ≠ s) (fun (i:Nat)=>26 - i) (0) (⟨Nat.zero_le _,fun j w hj=>absurd hj (by omega)⟩) ?_;(conv=>whnf);refine⟨by ((conv=>whnf);first|rfl|(simp[envCat, List.take_of_length_le, SI.row, Node.row, Pfx.row, Link.row, srow, Line.row, Rule.row, Box.row, Slc.row, Config.row];done)|(simp[envCat, List.take_of_length_le, SI.row, Node.row, Pfx.row, Link.row, srow, Line.row, Rule.row, Box.row, Slc.row, Config.row];rw[IntKind.wrap_i64];omega)),?_⟩
 rintro i ⟨hi,hall⟩
 (conv=>whnf)
 by_cases hil:i<26
 . obtain⟨w,hw⟩:∃ w,resvL[i]? = some w:=⟨_,List.getElem?_eq_getElem (by rw[resvL_len];exact hil)⟩
   (try (conv=>whnf));repeat' (first|refine Ok.seq ?_|((first|refine Ok.region tok ?_|refine Ok.cond ?_);conv=>whnf)|refine Ok.block ?_|(refine Ok.skip ?_;conv=>whnf)|(refine bI ?_ ?_<;>intro<;>(conv=>whnf)<;>(try (exfalso;omega)))|((first|refine aJ ?_|refine⟨_,rfl,?_⟩);conv=>whnf)|fail)
   refine forceL_at (d:=.s w) (by show (resvL.map D.s)[i*1]? = _;rw[Nat.mul_one];simp[hw]) ?_
   (conv=>whnf)
   (try (conv=>whnf));repeat' (first|refine Ok.seq ?_|((first|refine Ok.region tok ?_|refine Ok.cond ?_|refine Ok.skip ?_|refine Ok.ret ?_|refine nI ?_);conv=>whnf)|(refine bI ?_ ?_<;>intro<;>(conv=>whnf)<;>(try (exfalso;omega)))|fail)
   all_goals first
    | (exfalso;omega)
    | (rename_i h
       refine Or.inl ?_;(conv=>whnf)
       exact b_tt (show s ∈ resvL by rw[<- h];exact List.mem_of_getElem? hw))
    | (rename_i h
       refine⟨i+1,by omega,⟨by omega,fun j w2 hj hw2=>?_⟩,?_⟩
       . by_cases hji:j=i
         . subst hji;rw[hw] at hw2;cases hw2;exact h
         . exact hall j w2 (by omega) hw2
       . (conv=>whnf)
         rfl)
 . have hie:i=26:=by omega
   subst hie
   (try (conv=>whnf));repeat' (first|refine Ok.seq ?_|((first|refine Ok.region tok ?_|refine Ok.cond ?_|refine Ok.exit ?_|refine Ok.ret ?_);conv=>whnf)|(refine bI ?_ ?_<;>intro<;>(conv=>whnf)<;>(try (exfalso;omega)))|fail)
   all_goals first
    | (exfalso;omega)
    | (refine Or.inl ?_;(conv=>whnf)
       exact b_ff fun hn=>by
        obtain⟨j,hj⟩:=List.getElem?_of_mem hn
        exact hall j s (by have:=(List.getElem?_eq_some_iff.1 hj).1;rw[resvL_len] at this;exact this) hj rfl)
set_option maxRecDepth 100000 in
set_option maxHeartbeats 4000000 in
theorem mresv_at(s:Str):FSpec Tryz.prog T 136 [.s s] (fun d _=>d = .b (Rsv s)):=by
 refine FSpec.of_ok tok Tryz.func136 rfl Tryz.call136 (by simp) ?_
 (try (conv=>whnf));repeat' (first|refine Ok.seq ?_|((first|refine Ok.region tok ?_|refine Ok.cond ?_);conv=>whnf)|refine Ok.block ?_|((first|refine Ok.skip ?_|refine Ok.ret ?_);conv=>whnf)|(refine bI ?_ ?_<;>intro<;>(conv=>whnf)<;>(try (exfalso;omega)))|fail)
 all_goals first
  | (rename_i h
     refine Or.inl ?_;(conv=>whnf)
     exact b_tt (show s ∈ resvL by rw[h];simp[resvL]))
  | (refine Or.inl ?_;(conv=>whnf)
     exact b_ff fun hm=>by
      simp only[Rsv,resvL,List.mem_cons,List.not_mem_nil,or_false] at hm
      iterate 25 (rcases hm with hm|hm;· exact absurd hm (by assumption))
      exact absurd hm (by assumption))
set_option maxRecDepth 100000 in
set_option maxHeartbeats 4000000 in
theorem misName_at(s:Str):FSpec Tryz.prog T 138 [.s s] (fun d _=>d = .b (MName s)):=by
 refine FSpec.of_ok tok Tryz.func138 rfl Tryz.call138 (by simp) ?_
 by_cases h0:s=[]
 . (try (conv=>whnf));repeat' (first|refine Ok.seq ?_|((first|refine Ok.region tok ?_|refine Ok.cond ?_);conv=>whnf)|refine Ok.block ?_|((first|refine Ok.skip ?_|refine Ok.ret ?_);conv=>whnf)|(refine Or.inl ?_;(conv=>whnf);(repeat (refine aI ?_;conv=>whnf));refine⟨_,mresv_at s,rfl,?_⟩;conv=>whnf)|(refine bI ?_ ?_<;>intro<;>(conv=>whnf)<;>(try (exfalso;omega)))|fail)
   all_goals first
    | (exfalso;omega)
    | (refine Or.inl ?_;(conv=>whnf)
       exact b_ff fun hn=>hn.1.1 h0)
    | (exact absurd h0 (by assumption))
 by_cases h1:24<s.length
 . (try (conv=>whnf));repeat' (first|refine Ok.seq ?_|((first|refine Ok.region tok ?_|refine Ok.cond ?_|refine Ok.ret ?_);conv=>whnf)|(refine bI ?_ ?_<;>intro<;>(conv=>whnf)<;>(try (exfalso;omega)))|fail)
   all_goals first
    | (exfalso;omega)
    | (refine Or.inl ?_;(conv=>whnf)
       exact b_ff fun hn=>absurd hn.1.2.1 (by omega))
 by_cases h2:Rsv s
 . (try (conv=>whnf));repeat' (first|refine Ok.seq ?_|((first|refine Ok.region tok ?_|refine Ok.cond ?_);conv=>whnf)|refine Ok.block ?_|((first|refine Ok.skip ?_|refine Ok.ret ?_);conv=>whnf)|(refine Or.inl ?_;(conv=>whnf);(repeat (refine aI ?_;conv=>whnf));refine⟨_,mresv_at s,rfl,?_⟩;conv=>whnf)|(refine bI ?_ ?_<;>intro<;>(conv=>whnf)<;>(try (exfalso;omega)))|fail)
   all_goals first
    | (exfalso;omega)
    | (refine Or.inl ?_;(conv=>whnf)
       exact b_ff fun hn=>hn.2 h2)
    | (exact absurd h2 (by assumption))
 (try (conv=>whnf));repeat' (first|refine Ok.seq ?_|((first|refine Ok.region tok ?_|refine Ok.cond ?_);conv=>whnf)|refine Ok.block ?_|((first|refine Ok.skip ?_|refine Ok.ret ?_);conv=>whnf)|(refine Or.inl ?_;(conv=>whnf);(repeat (refine aI ?_;conv=>whnf));refine⟨_,mresv_at s,rfl,?_⟩;conv=>whnf)|(refine bI ?_ ?_<;>intro<;>(conv=>whnf)<;>(try (exfalso;omega)))|fail)
 all_goals first
  | (exfalso;omega)
  | (exact absurd (by assumption) h0)
  | (exact absurd (by assumption) h2)
  | skip
 have hle:s.length<=24:=by omega
 refine Ok.loopU [0,18] [19] 0 0 (fun (i:Nat)=>[.i .i64 (i:Nat)]) (fun _ b=>b) (fun _ r=>r) (fun (i:Nat)=>i<=s.length/\∀ (j:Nat) c,j<i->s[j]? = some c->nameAt j c) (fun (i:Nat)=>s.length - i) (0) (⟨Nat.zero_le _,fun j c hj=>absurd hj (by omega)⟩) ?_;(conv=>whnf);refine⟨by ((conv=>whnf);first|rfl|(simp[envCat, List.take_of_length_le, SI.row, Node.row, Pfx.row, Link.row, srow, Line.row, Rule.row, Box.row, Slc.row, Config.row];done)|(simp[envCat, List.take_of_length_le, SI.row, Node.row, Pfx.row, Link.row, srow, Line.row, Rule.row, Box.row, Slc.row, Config.row];rw[IntKind.wrap_i64];omega)),?_⟩
 rintro i ⟨hi,hall⟩
 (conv=>whnf)
 by_cases hil:i<s.length
 . obtain⟨b,hb⟩:∃ b,s[i]? = some b:=⟨_,List.getElem?_eq_getElem hil⟩
   have hbI:s[((i:Nat):Int).toNat]? = some b:=hb
   have hb255:=b.toNat_lt
   (try (conv=>whnf));repeat' (first|refine Ok.seq ?_|((first|refine Ok.region tok ?_|refine Ok.cond ?_);conv=>whnf)|refine Ok.block ?_|((first|refine Ok.skip ?_|refine Ok.ret ?_|refine nI ?_|refine⟨_,by assumption,?_⟩);conv=>whnf)|(refine bI ?_ ?_<;>intro<;>(conv=>whnf)<;>(try (exfalso;omega)))|((first|refine aJ ?_|refine num_any ?_);conv=>whnf)|fail)
   all_goals first
    | (exfalso;omega)
    | (refine Or.inl ?_;(conv=>whnf)
       refine b_ff fun hn=>?_
       have:=hn.1.2.2 i b hb
       unfold nameAt Ltr Dgt at this
       omega)
    | (refine⟨i+1,by omega,⟨by omega,name_step hall hb ?_⟩,?_⟩
       . unfold nameAt Ltr Dgt
         omega
       . (conv=>whnf)
         rfl)
 . have hie:i=s.length:=by omega
   subst hie
   (try (conv=>whnf));repeat' (first|refine Ok.seq ?_|((first|refine Ok.region tok ?_|refine Ok.cond ?_|refine Ok.exit ?_|refine Ok.ret ?_);conv=>whnf)|(refine bI ?_ ?_<;>intro<;>(conv=>whnf)<;>(try (exfalso;omega)))|fail)
   all_goals first
    | (exfalso;omega)
    | (refine Or.inl ?_;(conv=>whnf)
       exact b_tt ⟨⟨h0,hle,fun j c hc=>hall j c (List.getElem?_eq_some_iff.1 hc).1 hc⟩,h2⟩)
set_option maxHeartbeats 4000000 in
theorem r5name_at(s:Str):FSpec Tryz.prog T 186 [.s s] (fun d _=>d = .b (NameP s)):=by
 refine FSpec.of_ok tok Tryz.func186 rfl Tryz.call186 (by simp) ?_
 by_cases hne:s=[]
 . have hl0:s.length=0:=by rw[hne];rfl
   (try (conv=>whnf));repeat' (first|refine Ok.seq ?_|((first|refine Ok.region tok ?_|refine Ok.cond ?_|refine Ok.ret ?_);conv=>whnf)|(refine bI ?_ ?_<;>intro<;>(conv=>whnf)<;>(try (exfalso;omega)))|fail)
   all_goals first
    | (exfalso;omega)
    | (refine Or.inl ?_;(conv=>whnf)
       exact b_ff fun hn=>hn.1 hne)
 have hl0:s.length ≠ 0:=fun e=>hne (List.eq_nil_of_length_eq_zero e)
 by_cases h1:24<s.length
 . (try (conv=>whnf));repeat' (first|refine Ok.seq ?_|((first|refine Ok.region tok ?_|refine Ok.cond ?_|refine Ok.ret ?_);conv=>whnf)|(refine bI ?_ ?_<;>intro<;>(conv=>whnf)<;>(try (exfalso;omega)))|fail)
   all_goals first
    | (exfalso;omega)
    | (refine Or.inl ?_;(conv=>whnf)
       exact b_ff fun hn=>absurd hn.2.1 (by omega))
 have hle:s.length<=24:=by omega
 (try (conv=>whnf));repeat' (first|refine Ok.seq ?_|((first|refine Ok.region tok ?_|refine Ok.cond ?_);conv=>whnf)|refine Ok.block ?_|(refine Ok.skip ?_;conv=>whnf)|(refine bI ?_ ?_<;>intro<;>(conv=>whnf)<;>(try (exfalso;omega)))|fail)
 all_goals first
  | (exfalso;omega)
  | skip
 refine Ok.loopU [0] [3] 0 0 (fun (i:Nat)=>[.i .i64 (i:Nat)]) (fun _ b=>b) (fun _ r=>r) (fun (i:Nat)=>i<=s.length/\∀ (j:Nat) c,j<i->s[j]? = some c->nameAt j c) (fun (i:Nat)=>s.length - i) (0) (⟨Nat.zero_le _,fun j c hj=>absurd hj (by omega)⟩) ?_;(conv=>whnf);refine⟨by ((conv=>whnf);first|rfl|(simp[envCat, List.take_of_length_le, SI.row, Node.row, Pfx.row, Link.row, srow, Line.row, Rule.row, Box.row, Slc.row, Config.row];done)|(simp[envCat, List.take_of_length_le, SI.row, Node.row, Pfx.row, Link.row, srow, Line.row, Rule.row, Box.row, Slc.row, Config.row];rw[IntKind.wrap_i64];omega)),?_⟩
 rintro i ⟨hi,hall⟩
 (conv=>whnf)
 by_cases hil:i<s.length
 . obtain⟨b,hb⟩:∃ b,s[i]? = some b:=⟨_,List.getElem?_eq_getElem hil⟩
   have hbI:s[((i:Nat):Int).toNat]? = some b:=hb
   have hb255:=b.toNat_lt
   (try (conv=>whnf));repeat' (first|refine Ok.seq ?_|((first|refine Ok.region tok ?_|refine Ok.cond ?_);conv=>whnf)|refine Ok.block ?_|((first|refine Ok.skip ?_|refine Ok.ret ?_|refine nI ?_|refine⟨_,by assumption,?_⟩);conv=>whnf)|(refine bI ?_ ?_<;>intro<;>(conv=>whnf)<;>(try (exfalso;omega)))|((first|refine aJ ?_|refine num_any ?_);conv=>whnf)|fail)
   all_goals first
    | (exfalso;omega)
    | (refine Or.inl ?_;(conv=>whnf)
       refine b_ff fun hn=>?_
       have:=hn.2.2 i b hb
       unfold nameAt Ltr Dgt at this
       omega)
    | (refine⟨i+1,by omega,⟨by omega,name_step hall hb ?_⟩,?_⟩
       . unfold nameAt Ltr Dgt
         omega
       . (conv=>whnf)
         rfl)
 . have hie:i=s.length:=by omega
   subst hie
   (try (conv=>whnf));repeat' (first|refine Ok.seq ?_|((first|refine Ok.region tok ?_|refine Ok.cond ?_|refine Ok.exit ?_|refine Ok.ret ?_);conv=>whnf)|(refine bI ?_ ?_<;>intro<;>(conv=>whnf)<;>(try (exfalso;omega)))|fail)
   all_goals first
    | (exfalso;omega)
    | (refine Or.inl ?_;(conv=>whnf)
       exact b_tt ⟨hne,hle,fun j c hc=>hall j c (List.getElem?_eq_some_iff.1 hc).1 hc⟩)
theorem r6name_at(s:Str):FSpec Tryz.prog T 127 [.s s] (fun d _=>d = .b (MName s)):=by
 refine FSpec.of_ok tok Tryz.func127 rfl Tryz.call127 (by simp) ?_
 (try (conv=>whnf));repeat' (first|refine Ok.seq ?_|((first|refine Ok.region tok ?_|refine Ok.ret ?_);conv=>whnf)|(refine Or.inl ?_;(conv=>whnf);(repeat (refine aI ?_;conv=>whnf));refine⟨_,r5name_at s,rfl,?_⟩;conv=>whnf)|(refine Or.inl ?_;(conv=>whnf);(repeat (refine aI ?_;conv=>whnf));refine⟨_,rresv_at s,rfl,?_⟩;conv=>whnf)|(refine bI ?_ ?_<;>intro<;>(conv=>whnf)<;>(try (exfalso;omega)))|fail)
 all_goals
  refine Or.inl ?_;(conv=>whnf)
  first
   | (rename_i h
      show D.b _=D.b _
      congr 1
      exact propext ⟨fun g=>⟨h,g⟩,fun g=>g.2⟩)
   | exact b_ff fun h=>absurd h.1 (by assumption)
   | exact b_ff fun h=>absurd (by assumption) h.2
end Go.Proofs.YtcglkonooeddfaaGreatDoor
namespace Go.Proofs.YtcglkonooeddfaaGreatDoor
open Go Go.Vx
def cntRow(x:Nat × Nat × Str):List D:=[.i .i64 (x.1:Nat),.i .i64 (x.2.1:Nat),.s x.2.2]
theorem sum_take{l:List BoxB}{f:BoxB->Nat}{k:Nat}{b:BoxB}(h:l[k]? = some b):((l.take (k+1)).map f).sum=((l.take k).map f).sum+f b:=by
 rw[List.take_add_one,h,List.map_append,List.sum_append]
 simp
theorem sum_le{l:List BoxB}{f:BoxB->Nat}{B:Nat}(h:∀ b ∈ l,f b<=B):(l.map f).sum<=l.length*B:=by
 induction l with
 | nil=>simp
 | cons b l ih=>
  have h1:=h b (by simp)
  have h2:=ih fun x hx=>h x (by simp[hx])
  simp only[List.map_cons,List.sum_cons,List.length_cons,Nat.succ_mul]
  omega
theorem cnt_bound{c:Config}(hc:c.Ok)(k:Nat):nPorts (c.b.boxes.take k)<=k*2097152/\nLines (c.b.boxes.take k)<=k*1048576/\nRules (c.b.boxes.take k)<=k*1048576/\nRoutes (c.b.boxes.take k)<=k*2097152:=by
 have hb:∀ b ∈ c.b.boxes.take k,b.ins.length<=1048576/\b.outs.length<=1048576/\b.guards.length<=1048576/\b.rules.length<=1048576/\b.owns.length<=1048576/\b.routes.length<=1048576:=by
  intro b hb
  obtain⟨x,hx,rfl⟩:=List.mem_map.1 (List.mem_of_mem_take hb)
  have:=hc.box x hx
  exact⟨this.ins,this.outs,by simpa[Box.b] using this.guards,by simpa[Box.b] using this.rules,this.owns,this.routes⟩
 have hk:(c.b.boxes.take k).length<=k:=by rw[List.length_take];omega
 have key:∀ (f:BoxB->Nat) (B:Nat),(∀ b ∈ c.b.boxes.take k,f b<=B)->((c.b.boxes.take k).map f).sum<=k*B:=fun f B h=>Nat.le_trans (sum_le h) (Nat.mul_le_mul_right B hk)
 refine⟨key _ _ fun b h=>?_,key _ _ fun b h=>(hb b h).2.2.1,key _ _ fun b h=>(hb b h).2.2.2.1,key _ _ fun b h=>?_⟩
 . have:=hb b h;show b.ins.length+b.outs.length<=_;omega
 . have:=hb b h;show b.owns.length+b.routes.length<=_;omega
theorem cntE_bad{pre:List (Nat × Nat × Str)}{x:Nat × Nat × Str}(h:x.2.1<x.1):cntE pre x=(71,x.2.2):=if_pos h
theorem cntE_ok{pre:List (Nat × Nat × Str)}{x:Nat × Nat × Str}(h:¬ x.2.1<x.1):cntE pre x=(0,[]):=if_neg h
theorem countO_if(c:ConfigB):countO c=if 16<c.boxes.length then (71,[98,111,120,101,115]) else if 48<nPorts c.boxes then (71,[112,111,114,116,115]) else if 64<nLines c.boxes then (71,[103,117,97,114,100,115]) else if 64<nRules c.boxes then (71,[114,117,108,101,115]) else if 64<nRoutes c.boxes then (71,[114,111,117,116,101,115]) else if 48<c.links.length then (71,[108,105,110,107,115]) else if 8<c.slices.length then (71,[115,108,105,99,101,115]) else (0,[]):=by
 unfold countO cntL
 simp only[firstE,cntE]
 by_cases h0:16<c.boxes.length
 . simp[h0]
 by_cases h1:48<nPorts c.boxes
 . simp[h0,h1]
 by_cases h2:64<nLines c.boxes
 . simp[h0,h1,h2]
 by_cases h3:64<nRules c.boxes
 . simp[h0,h1,h2,h3]
 by_cases h4:64<nRoutes c.boxes
 . simp[h0,h1,h2,h3,h4]
 by_cases h5:48<c.links.length
 . simp[h0,h1,h2,h3,h4,h5]
 by_cases h6:8<c.slices.length
 . simp[h0,h1,h2,h3,h4,h5,h6]
 simp[h0,h1,h2,h3,h4,h5,h6]
set_option maxRecDepth 100000 in
set_option maxHeartbeats 8000000 in
theorem rcounts_at(c:Config)(hc:c.Ok):FSpec Tryz.prog T 69 [.agg c.row] (fun d _=>d = .tup [.i .i64 (countO c.b).1,.s (countO c.b).2]):=by
 have hbl:(c.boxes.l.map Box.row).length=c.boxes.l.length:=by simp
 have hll:(c.links.l.map Link.row).length=c.links.l.length:=by simp
 have hsl:(c.slices.l.map Slc.row).length=c.slices.l.length:=by simp
 have hB:=hc.boxes
 have hL:=hc.links
 have hS:=hc.slices
 refine FSpec.of_ok tok Tryz.func69 rfl Tryz.call69 (by simp) ?_
 (try (conv=>whnf));repeat' (first|refine Ok.seq ?_|(refine Ok.region tok ?_;conv=>whnf)|refine Ok.block ?_|fail)
 refine Ok.loopU [1] [4,5,6,7,8] 0 1 (fun (k:Nat)=>[.i .i64 (nPorts (c.b.boxes.take k):Nat),.i .i64 (nLines (c.b.boxes.take k):Nat),.i .i64 (nRules (c.b.boxes.take k):Nat),.i .i64 (nRoutes (c.b.boxes.take k):Nat),.i .i64 (k:Nat)]) (fun _ b=>b) (fun _ r=>r) (fun (k:Nat)=>k<=c.boxes.l.length) (fun (k:Nat)=>c.boxes.l.length - k) (0) (Nat.zero_le _) ?_;(conv=>whnf);refine⟨by ((conv=>whnf);first|rfl|(simp[envCat, List.take_of_length_le, SI.row, Node.row, Pfx.row, Link.row, srow, Line.row, Rule.row, Box.row, Slc.row, Config.row, cntRow, cntL, Config.b];done)|(simp[envCat, List.take_of_length_le, SI.row, Node.row, Pfx.row, Link.row, srow, Line.row, Rule.row, Box.row, Slc.row, Config.row, cntRow, cntL, Config.b];rw[IntKind.wrap_i64];omega)),?_⟩
 rintro k hk
 (conv=>whnf)
 obtain⟨p1,p2,p3,p4⟩:=cnt_bound hc k
 by_cases hkl:k<c.boxes.l.length
 . obtain⟨b,hb⟩:∃ b,c.boxes.l[k]? = some b:=⟨_,List.getElem?_eq_getElem hkl⟩
   have hbI:c.boxes.l[((k:Nat):Int).toNat]? = some b:=hb
   have hbb:c.b.boxes[k]? = some b.b:=by simp[Config.b,hb]
   have hbx:=hc.box b (List.mem_of_getElem? hb)
   have l1:(b.ins.l.map srow).length=b.ins.l.length:=by simp
   have l2:(b.outs.l.map srow).length=b.outs.l.length:=by simp
   have l3:(b.guards.l.map Line.row).length=b.guards.l.length:=by simp
   have l4:(b.rules.l.map Rule.row).length=b.rules.l.length:=by simp
   have l5:(b.owns.l.map Pfx.row).length=b.owns.l.length:=by simp
   have l6:(b.routes.l.map Pfx.row).length=b.routes.l.length:=by simp
   have b1:=hbx.ins
   have b2:=hbx.outs
   have b3:=hbx.guards
   have b4:=hbx.rules
   have b5:=hbx.owns
   have b6:=hbx.routes
   (try (conv=>whnf));repeat' (first|refine Ok.seq ?_|((first|refine Ok.region tok ?_|refine Ok.cond ?_);conv=>whnf)|refine Ok.block ?_|((first|refine Ok.skip ?_|refine nI ?_|refine ix _ (by assumption) ?_);conv=>whnf)|(refine bI ?_ ?_<;>intro<;>(conv=>whnf)<;>(try (exfalso;omega)))|fail)
   refine⟨k+1,by omega,by omega,?_⟩
   unfold nPorts nLines nRules nRoutes
   rw[sum_take hbb,sum_take hbb,sum_take hbb,sum_take hbb]
   (conv=>whnf);simp[envCat,Box.b];try omega
 obtain rfl:k=c.boxes.l.length:=by omega
 have hta:c.b.boxes.take c.boxes.l.length=c.b.boxes:=List.take_of_length_le (by simp[Config.b])
 rw[hta] at p1 p2 p3 p4 ⊢
 (conv=>whnf)
 have hbb:c.b.boxes.length=c.boxes.l.length:=by simp[Config.b]
 have hss:c.b.slices.length=c.slices.l.length:=by simp[Config.b]
 have hLL:c.b.links.length=c.links.l.length:=rfl
 (try (conv=>whnf));repeat' (first|refine Ok.seq ?_|((first|refine Ok.region tok ?_|refine Ok.cond ?_);conv=>whnf)|refine Ok.block ?_|((first|refine Ok.skip ?_|refine Ok.exit ?_|refine Ok.ret ?_);conv=>whnf)|(refine bI ?_ ?_<;>intro<;>(conv=>whnf)<;>(try (exfalso;omega)))|fail)
 all_goals
  refine Or.inl ?_;(conv=>whnf)
  first
   | (rw[countO_if,if_pos (by omega)];rfl)
   | (rw[countO_if,if_neg (by omega),if_pos (by omega)];rfl)
   | (rw[countO_if,if_neg (by omega),if_neg (by omega),if_pos (by omega)];rfl)
   | (rw[countO_if,if_neg (by omega),if_neg (by omega),if_neg (by omega),if_pos (by omega)];rfl)
   | (rw[countO_if,if_neg (by omega),if_neg (by omega),if_neg (by omega),if_neg (by omega),if_pos (by omega)];rfl)
   | (rw[countO_if,if_neg (by omega),if_neg (by omega),if_neg (by omega),if_neg (by omega),if_neg (by omega),if_pos (by omega)];rfl)
   | (rw[countO_if,if_neg (by omega),if_neg (by omega),if_neg (by omega),if_neg (by omega),if_neg (by omega),if_neg (by omega),if_pos (by omega)];rfl)
   | (rw[countO_if,if_neg (by omega),if_neg (by omega),if_neg (by omega),if_neg (by omega),if_neg (by omega),if_neg (by omega),if_neg (by omega)];rfl)
set_option maxRecDepth 100000 in
set_option maxHeartbeats 8000000 in
theorem mcounts_at(c:Config)(hc:c.Ok):FSpec Tryz.prog T 75 [.agg c.row] (fun d _=>d = .tup [.i .i64 (countO c.b).1,.s (countO c.b).2]):=by
 have hbl:(c.boxes.l.map Box.row).length=c.boxes.l.length:=by simp
 have hll:(c.links.l.map Link.row).length=c.links.l.length:=by simp
 have hsl:(c.slices.l.map Slc.row).length=c.slices.l.length:=by simp
 have hB:=hc.boxes
 have hL:=hc.links
 have hS:=hc.slices
 refine FSpec.of_ok tok Tryz.func75 rfl Tryz.call75 (by simp) ?_
 (try (conv=>whnf));repeat' (first|refine Ok.seq ?_|(refine Ok.region tok ?_;conv=>whnf)|refine Ok.block ?_|fail)
 refine Ok.loopU [1,13,14] [4,5,6,7,15] 0 1 (fun (k:Nat)=>[.i .i64 (nPorts (c.b.boxes.take k):Nat),.i .i64 (nLines (c.b.boxes.take k):Nat),.i .i64 (nRules (c.b.boxes.take k):Nat),.i .i64 (nRoutes (c.b.boxes.take k):Nat),.i .i64 (k:Nat)]) (fun _ b=>b) (fun _ r=>r) (fun (k:Nat)=>k<=c.boxes.l.length) (fun (k:Nat)=>c.boxes.l.length - k) (0) (Nat.zero_le _) ?_;(conv=>whnf);refine⟨by ((conv=>whnf);first|rfl|(simp[envCat, List.take_of_length_le, SI.row, Node.row, Pfx.row, Link.row, srow, Line.row, Rule.row, Box.row, Slc.row, Config.row, cntRow, cntL, Config.b];done)|(simp[envCat, List.take_of_length_le, SI.row, Node.row, Pfx.row, Link.row, srow, Line.row, Rule.row, Box.row, Slc.row, Config.row, cntRow, cntL, Config.b];rw[IntKind.wrap_i64];omega)),?_⟩
 rintro k hk
 (conv=>whnf)
 obtain⟨p1,p2,p3,p4⟩:=cnt_bound hc k
 by_cases hkl:k<c.boxes.l.length
 . obtain⟨b,hb⟩:∃ b,c.boxes.l[k]? = some b:=⟨_,List.getElem?_eq_getElem hkl⟩
   have hbI:c.boxes.l[((k:Nat):Int).toNat]? = some b:=hb
   have hbb:c.b.boxes[k]? = some b.b:=by simp[Config.b,hb]
   have hbx:=hc.box b (List.mem_of_getElem? hb)
   have l1:(b.ins.l.map srow).length=b.ins.l.length:=by simp
   have l2:(b.outs.l.map srow).length=b.outs.l.length:=by simp
   have l3:(b.guards.l.map Line.row).length=b.guards.l.length:=by simp
   have l4:(b.rules.l.map Rule.row).length=b.rules.l.length:=by simp
   have l5:(b.owns.l.map Pfx.row).length=b.owns.l.length:=by simp
   have l6:(b.routes.l.map Pfx.row).length=b.routes.l.length:=by simp
   have b1:=hbx.ins
   have b2:=hbx.outs
   have b3:=hbx.guards
   have b4:=hbx.rules
   have b5:=hbx.owns
   have b6:=hbx.routes
   (try (conv=>whnf));repeat' (first|refine Ok.seq ?_|((first|refine Ok.region tok ?_|refine Ok.cond ?_);conv=>whnf)|refine Ok.block ?_|((first|refine Ok.skip ?_|refine nI ?_|refine ix _ (by assumption) ?_);conv=>whnf)|(refine bI ?_ ?_<;>intro<;>(conv=>whnf)<;>(try (exfalso;omega)))|fail)
   refine⟨k+1,by omega,by omega,?_⟩
   unfold nPorts nLines nRules nRoutes
   rw[sum_take hbb,sum_take hbb,sum_take hbb,sum_take hbb]
   (conv=>whnf);simp[envCat,Box.b];try omega
 obtain rfl:k=c.boxes.l.length:=by omega
 have hta:c.b.boxes.take c.boxes.l.length=c.b.boxes:=List.take_of_length_le (by simp[Config.b])
 rw[hta] at p1 p2 p3 p4 ⊢
 (conv=>whnf)
 (try (conv=>whnf));repeat' (first|refine Ok.seq ?_|((first|refine Ok.region tok ?_|refine Ok.cond ?_);conv=>whnf)|refine Ok.block ?_|(refine Ok.exit ?_;conv=>whnf)|(refine bI ?_ ?_<;>intro<;>(conv=>whnf)<;>(try (exfalso;omega)))|fail)
 refine Ok.loopU [68,69] [70] 1 1 (fun (k:Nat)=>[.i .i64 (k:Nat)]) (fun (k:Nat) (_:List (List D))=>[c.row]) (fun (k:Nat) (_:Vx.Rows)=>[some (234,(cntL c.b).map cntRow)]) (fun (k:Nat)=>k<=7/\countO c.b=firstE cntE ((cntL c.b).take k) ((cntL c.b).drop k)) (fun (k:Nat)=>7 - k) (0) (⟨Nat.zero_le _,rfl⟩) ?_;(conv=>whnf);refine⟨by ((conv=>whnf);first|rfl|(simp[envCat, List.take_of_length_le, SI.row, Node.row, Pfx.row, Link.row, srow, Line.row, Rule.row, Box.row, Slc.row, Config.row, cntRow, cntL, Config.b];done)|(simp[envCat, List.take_of_length_le, SI.row, Node.row, Pfx.row, Link.row, srow, Line.row, Rule.row, Box.row, Slc.row, Config.row, cntRow, cntL, Config.b];rw[IntKind.wrap_i64];omega)),?_⟩
 rintro k ⟨hk7,hfe⟩
 (conv=>whnf)
 have hcl:(cntL c.b).length=7:=rfl
 by_cases hkl:k<7
 . obtain⟨x,hx⟩:∃ x,(cntL c.b)[k]? = some x:=⟨_,List.getElem?_eq_getElem (by omega)⟩
   have hxr:((cntL c.b).map cntRow)[k]? = some (cntRow x):=by simp[hx]
   (try (conv=>whnf));repeat' (first|refine Ok.seq ?_|((first|refine Ok.region tok ?_|refine Ok.region_draw tok follows (by kernel_rfl) ?_|refine Ok.cond ?_);conv=>whnf)|refine Ok.block ?_|((first|refine Ok.skip ?_|refine Ok.ret ?_|refine nI ?_|refine rd rfl (by assumption) ?_);conv=>whnf)|(refine bI ?_ ?_<;>intro<;>(conv=>whnf)<;>(try (exfalso;omega)))|(refine aJ ?_;conv=>whnf)|fail)
   . refine Or.inl ?_;(conv=>whnf)
     rw[hfe,firstE_bad hx (by rw[cntE_bad (by omega)];simp),cntE_bad (by omega)]
     rfl
   . refine⟨k+1,by omega,⟨by omega,by rw[hfe,firstE_ok hx (by rw[cntE_ok (by omega)])]⟩,?_⟩
     (conv=>whnf)
     rfl
 obtain rfl:k=7:=by omega
 rw[firstE_nil (by rw[hcl];omega)] at hfe
 (try (conv=>whnf));repeat' (first|refine Ok.seq ?_|((first|refine Ok.region tok ?_|refine Ok.cond ?_|refine Ok.exit ?_|refine Ok.ret ?_);conv=>whnf)|(refine bI ?_ ?_<;>intro<;>(conv=>whnf)<;>(try (exfalso;omega)))|fail)
 refine Or.inl ?_;(conv=>whnf)
 rw[hfe]
 rfl
end Go.Proofs.YtcglkonooeddfaaGreatDoor
namespace Go.Proofs.YtcglkonooeddfaaGreatDoor
open Go Go.Vx
set_option maxHeartbeats 4000000 in
theorem mfind_at(l:List Fd)(r:List (List D))(nm:Str)(hl:l.length<=2000000):FSpec Tryz.prog T 137 [.lst 127 (l.map frow) r,.s nm] (fun d _=>d = .i .i64 (findI nm l 0)):=by
 have h1:(l.map frow).length=l.length:=by simp
 refine FSpec.of_ok tok Tryz.func137 rfl Tryz.call137 (by simp) ?_
 (try (conv=>whnf));repeat' (first|refine Ok.seq ?_|(refine Ok.region tok ?_;conv=>whnf)|refine Ok.block ?_|fail)
 refine Ok.loopU [1,7,8] [9] 0 0 (fun (i:Nat)=>[.i .i64 (i:Nat)]) (fun _ b=>b) (fun _ r=>r) (fun (i:Nat)=>i<=l.length/\findI nm l 0=findI nm (l.drop i) i) (fun (i:Nat)=>l.length - i) (0) (⟨Nat.zero_le _,rfl⟩) ?_;(conv=>whnf);refine⟨by ((conv=>whnf);first|rfl|(simp[envCat, List.take_of_length_le, SI.row, Node.row, Pfx.row, Link.row, srow, Line.row, Rule.row, Box.row, Slc.row, Config.row, nrow, frow];done)|(simp[envCat, List.take_of_length_le, SI.row, Node.row, Pfx.row, Link.row, srow, Line.row, Rule.row, Box.row, Slc.row, Config.row, nrow, frow];rw[IntKind.wrap_i64];omega)),?_⟩
 rintro i ⟨hi,hf⟩
 (conv=>whnf)
 by_cases hil:i<l.length
 . obtain⟨c,hc⟩:∃ c,l[i]? = some c:=⟨_,List.getElem?_eq_getElem hil⟩
   have hcI:l[((i:Nat):Int).toNat]? = some c:=hc
   rw[fdrop_at hc] at hf
   (try (conv=>whnf));repeat' (first|refine Ok.seq ?_|((first|refine Ok.region tok ?_|refine Ok.cond ?_);conv=>whnf)|refine Ok.block ?_|((first|refine Ok.skip ?_|refine Ok.ret ?_|refine nI ?_|refine ix _ (by assumption) ?_);conv=>whnf)|(refine bI ?_ ?_<;>intro<;>(conv=>whnf)<;>(try (exfalso;omega)))|fail)
   all_goals first
    | (exfalso;omega)
    | (rename_i h
       refine Or.inl ?_;(conv=>whnf)
       rw[hf]
       unfold findI
       rw[if_pos h]
       rfl)
    | (rename_i h
       refine⟨i+1,by omega,⟨by omega,?_⟩,?_⟩
       . rw[hf]
         conv=>lhs;unfold findI
         rw[if_neg h]
       . (conv=>whnf)
         rfl)
 . have hie:i=l.length:=by omega
   subst hie
   rw[List.drop_length] at hf
   (try (conv=>whnf));repeat' (first|refine Ok.seq ?_|((first|refine Ok.region tok ?_|refine Ok.cond ?_|refine Ok.exit ?_|refine Ok.ret ?_);conv=>whnf)|(refine bI ?_ ?_<;>intro<;>(conv=>whnf)<;>(try (exfalso;omega)))|fail)
   all_goals first
    | (exfalso;omega)
    | (refine Or.inl ?_;(conv=>whnf)
       rw[hf]
       rfl)
theorem chkFrom_cases(all:List Fd):∀ (r:List Fd) (i:Nat) (sum:Int),chkFrom all r i sum=(0,0)\/∃ j:Nat,chkFrom all r i sum=(40,(j:Int))/\i<=j/\j<i+r.length
 | [],_,_=>.inl rfl
 | f :: r,i,sum=>by
  by_cases h:badF (all.take i) f sum
  . exact .inr ⟨i,chkFrom_bad h,Nat.le_refl _,by simp⟩
  . rw[chkFrom_ok h]
    rcases chkFrom_cases all r (i+1) (sum+f.bits) with h|⟨j,h,h1,h2⟩
    . exact .inl h
    . exact .inr ⟨j,h,by omega,by simp;omega⟩
theorem chkO_cases(l:List Fd):(chkO l=(2,0)/\12<l.length)\/(chkO l=(40,0)/\l=[])\/(l ≠ []/\l.length<=12/\(chkO l=(0,0)\/∃ j:Nat,chkO l=(40,(j:Int))/\j<l.length)):=by
 by_cases h1:12<l.length
 . exact .inl ⟨chkO_long h1,h1⟩
 by_cases h2:l=[]
 . exact .inr (.inl ⟨chkO_nil (by rw[h2];rfl),h2⟩)
 refine .inr (.inr ⟨h2,by omega,?_⟩)
 rw[chkO_of h1 (fun e=>h2 (List.eq_nil_of_length_eq_zero e))]
 rcases chkFrom_cases l l 0 0 with h|⟨j,h,h3,h4⟩
 . exact .inl h
 . exact .inr ⟨j,h,by omega⟩
theorem fds_len(l:List SI):(fds l).length=l.length:=by simp[fds]
theorem fds_nil(l:List SI):fds l=[] ↔ l=[]:=by simp[fds]
theorem resvE_bad{pre:List SI}{f:SI}(h:Rsv f.s):resvE pre f=(70,f.s):=if_pos h
theorem resvE_ok{pre:List SI}{f:SI}(h:¬ Rsv f.s):resvE pre f=(0,[]):=if_neg h
noncomputable def knownE(c:ConfigB):Er:=by classical exact if (c.routing ≠ []/\¬ ∃ f ∈ c.fields,f.s=c.routing)\/(c.slim/\c.routing=[]) then (73,c.routing) else (0,[])
theorem headO_long{c:ConfigB}(h:256<c.title.length):headO c=(71,[110,101,116,119,111,114,107]):=by unfold headO;rw[if_pos h]
theorem headO_lay{c:ConfigB}(h:¬ 256<c.title.length)(h2:(chkO (fds c.fields)).1=2\/c.fields=[]):headO c=(70,[]):=by unfold headO;rw[if_neg h,if_pos h2]
theorem headO_fld{c:ConfigB}(h:¬ 256<c.title.length){j:Nat}{f:SI}(h2:chkO (fds c.fields)=(40,(j:Int)))(hj:c.fields[j]? = some f):headO c=(70,f.s):=by
 unfold headO
 rw[if_neg h,h2,if_neg (fun g=>g.elim (fun h=>absurd h (by simp)) fun h=>by rw[h] at hj;cases hj),if_pos (by simp)]
 simp[hj]
theorem headO_ok{c:ConfigB}(h:¬ 256<c.title.length)(h2:chkO (fds c.fields)=(0,0))(h3:c.fields ≠ []):headO c=orE (firstE resvE [] c.fields) (knownE c):=by
 unfold headO knownE
 rw[if_neg h,h2,if_neg (fun g=>g.elim (fun h=>absurd h (by simp)) h3),if_neg (by simp)]
theorem knownE_bad{c:ConfigB}(h:(c.routing ≠ []/\¬ ∃ f ∈ c.fields,f.s=c.routing)\/(c.slim/\c.routing=[])):knownE c=(73,c.routing):=if_pos h
theorem knownE_ok{c:ConfigB}(h:¬ ((c.routing ≠ []/\¬ ∃ f ∈ c.fields,f.s=c.routing)\/(c.slim/\c.routing=[]))):knownE c=(0,[]):=if_neg h
theorem findI_fds(nm:Str)(l:List SI):findI nm (fds l) 0<0 ↔ ¬ ∃ f ∈ l,f.s=nm:=by
 have h:=(findI_ge nm (fds l) 0).1
 rw[<- Int.not_le,h]
 apply not_congr
 constructor
 . rintro⟨f,hf,e⟩
   obtain⟨x,hx,rfl⟩:=List.mem_map.1 hf
   exact⟨x,hx,e⟩
 . rintro⟨x,hx,e⟩
   exact⟨_,List.mem_map.2 ⟨x,hx,rfl⟩,e⟩
set_option maxRecDepth 100000 in
set_option maxHeartbeats 8000000 in
theorem rhead_at(c:Config)(hf:c.fields.l.length<=1048576):FSpec Tryz.prog T 68 [.agg c.row] (fun d _=>d = .tup [.i .i64 (headO c.b).1,.s (headO c.b).2]):=by
 have hfl:(c.fields.l.map SI.row).length=c.fields.l.length:=by simp
 have hrc:=rcheck_at (fds c.fields.l) c.fields.room (by rw[fds_len];omega)
 rw[fds_row] at hrc
 refine FSpec.of_ok tok Tryz.func68 rfl Tryz.call68 (by simp) ?_
 by_cases ht:256<c.title.length
 . (try (conv=>whnf));repeat' (first|refine Ok.seq ?_|((first|refine Ok.region tok ?_|refine Ok.cond ?_|refine Ok.ret ?_);conv=>whnf)|(refine bI ?_ ?_<;>intro<;>(conv=>whnf)<;>(try (exfalso;omega)))|fail)
   all_goals first
    | (exfalso;omega)
    | (refine Or.inl ?_;(conv=>whnf)
       rw[headO_long (c:=c.b) ht]
       rfl)
 rcases chkO_cases (fds c.fields.l) with⟨h,h2⟩|⟨h,h2⟩|⟨h1,h2,h|⟨j,h,hj⟩⟩
 . rw[h] at hrc
   dsimp only at hrc
   rw[headO_lay (c:=c.b) ht (.inl (by show (chkO (fds c.fields.l)).1=2;rw[h]))]
   (try (conv=>whnf));repeat' (first|refine Ok.seq ?_|((first|refine Ok.region tok ?_|refine Ok.cond ?_|refine Ok.skip ?_|refine Ok.ret ?_);conv=>whnf)|(refine Or.inl ?_;(conv=>whnf);(repeat (refine aI ?_;conv=>whnf));refine⟨_,hrc,rfl,?_⟩;conv=>whnf)|(refine bI ?_ ?_<;>intro<;>(conv=>whnf)<;>(try (exfalso;omega)))|fail)
   all_goals first
    | (exfalso;omega)
    | (refine Or.inl ?_;(conv=>whnf)
       rfl)
 . rw[h] at hrc
   dsimp only at hrc
   have h3:=(fds_nil _).1 h2
   have h4:c.fields.l.length=0:=by rw[h3];rfl
   rw[headO_lay (c:=c.b) ht (.inr h3)]
   (try (conv=>whnf));repeat' (first|refine Ok.seq ?_|((first|refine Ok.region tok ?_|refine Ok.cond ?_|refine Ok.skip ?_|refine Ok.ret ?_);conv=>whnf)|(refine Or.inl ?_;(conv=>whnf);(repeat (refine aI ?_;conv=>whnf));refine⟨_,hrc,rfl,?_⟩;conv=>whnf)|(refine bI ?_ ?_<;>intro<;>(conv=>whnf)<;>(try (exfalso;omega)))|fail)
   all_goals first
    | (exfalso;omega)
    | (refine Or.inl ?_;(conv=>whnf)
       rfl)
 . rw[h] at hrc
   dsimp only at hrc
   rw[fds_len] at h2
   have h3:c.fields.l ≠ []:=fun e=>h1 ((fds_nil _).2 e)
   have h4:c.fields.l.length ≠ 0:=fun e=>h3 (List.eq_nil_of_length_eq_zero e)
   rw[headO_ok (c:=c.b) ht h h3]
   (try (conv=>whnf));repeat' (first|refine Ok.seq ?_|((first|refine Ok.region tok ?_|refine Ok.cond ?_);conv=>whnf)|refine Ok.block ?_|(refine Ok.skip ?_;conv=>whnf)|(refine Or.inl ?_;(conv=>whnf);(repeat (refine aI ?_;conv=>whnf));refine⟨_,hrc,rfl,?_⟩;conv=>whnf)|(refine bI ?_ ?_<;>intro<;>(conv=>whnf)<;>(try (exfalso;omega)))|fail)
   all_goals first
    | (exfalso;omega)
    | skip
   refine Ok.asB 6 rfl ?_
   (conv=>whnf)
   refine Ok.loopU [1] [6,7] 0 1 (fun (x:Nat × Prop)=>[.b x.2,.i .i64 (x.1:Nat)]) (fun (x:Nat × Prop) (_:List (List D))=>[c.row]) (fun _ r=>r) (fun (x:Nat × Prop)=>x.1<=c.fields.l.length/\(x.2 ↔ ∃ f ∈ c.fields.l.take x.1,f.s=c.routing)/\firstE resvE [] c.b.fields=firstE resvE (c.fields.l.take x.1) (c.fields.l.drop x.1)) (fun (x:Nat × Prop)=>c.fields.l.length - x.1) ((0,False)) (⟨Nat.zero_le _,by simp,rfl⟩) ?_;(conv=>whnf);refine⟨by ((conv=>whnf);first|rfl|(simp[envCat, List.take_of_length_le, SI.row, Node.row, Pfx.row, Link.row, srow, Line.row, Rule.row, Box.row, Slc.row, Config.row, nrow, frow];done)|(simp[envCat, List.take_of_length_le, SI.row, Node.row, Pfx.row, Link.row, srow, Line.row, Rule.row, Box.row, Slc.row, Config.row, nrow, frow];rw[IntKind.wrap_i64];omega)),?_⟩
   rintro⟨i,p⟩ ⟨hi,hp,hfe⟩
   dsimp only at hi hp hfe ⊢
   (conv=>whnf)
   by_cases hil:i<c.fields.l.length
   . obtain⟨f,hfi⟩:∃ f,c.fields.l[i]? = some f:=⟨_,List.getElem?_eq_getElem hil⟩
     have hfI:c.fields.l[((i:Nat):Int).toNat]? = some f:=hfi
     have htk:c.fields.l.take (i+1)=c.fields.l.take i++[f]:=by rw[List.take_add_one,hfi];rfl
     by_cases hr:Rsv f.s
     . have hrv:=rresv_at f.s
       rw[show (fun d (_:Vx.Rows)=>d=D.b (Rsv f.s))=fun d _=>d=D.b True by rw[eq_true hr]] at hrv
       (try (conv=>whnf));repeat' (first|refine Ok.seq ?_|((first|refine Ok.region tok ?_|refine Ok.region_draw tok follows (by kernel_rfl) ?_|refine Ok.cond ?_);conv=>whnf)|refine Ok.block ?_|((first|refine Ok.skip ?_|refine Ok.ret ?_|refine nI ?_|refine ix _ (by assumption) ?_);conv=>whnf)|(refine Or.inl ?_;(conv=>whnf);(repeat (refine aI ?_;conv=>whnf));refine⟨_,hrv,rfl,?_⟩;conv=>whnf)|(refine bI ?_ ?_<;>intro<;>(conv=>whnf)<;>(try (exfalso;omega)))|fail)
       all_goals first
        | (exfalso;omega)
        | (exact absurd trivial (by assumption))
        | (refine Or.inl ?_;(conv=>whnf)
           rw[hfe,firstE_bad hfi (by rw[resvE_bad hr];simp),resvE_bad hr,orE_l _ (by simp)]
           rfl)
     . have hrv:=rresv_at f.s
       rw[show (fun d (_:Vx.Rows)=>d=D.b (Rsv f.s))=fun d _=>d=D.b False by rw[eq_false hr]] at hrv
       rw[firstE_ok hfi (by rw[resvE_ok hr])] at hfe
       (try (conv=>whnf));repeat' (first|(refine Ok.asB' 6 rfl ?_;conv=>whnf)|refine Ok.seq ?_|((first|refine Ok.region tok ?_|refine Ok.region_draw tok follows (by kernel_rfl) ?_|refine Ok.cond ?_);conv=>whnf)|refine Ok.block ?_|((first|refine Ok.skip ?_|refine nI ?_|refine ix _ (by assumption) ?_);conv=>whnf)|(refine Or.inl ?_;(conv=>whnf);(repeat (refine aI ?_;conv=>whnf));refine⟨_,hrv,rfl,?_⟩;conv=>whnf)|(refine bI ?_ ?_<;>intro<;>(conv=>whnf)<;>(try (exfalso;omega)))|fail)
       all_goals first
        | (exfalso;omega)
        | (exact False.elim (by assumption))
        | skip
       . rename_i hpp
         refine⟨(i+1,True),by dsimp only;omega,⟨by dsimp only;omega,?_,hfe⟩,?_⟩
         . dsimp only
           obtain⟨z,hz,e⟩:=hp.1 hpp
           exact⟨fun _=>⟨z,by rw[htk];exact List.mem_append_left _ hz,e⟩,fun _=>trivial⟩
         . (conv=>whnf)
           rfl
       . rename_i hpp
         refine⟨(i+1,f.s=c.routing),by dsimp only;omega,⟨by dsimp only;omega,?_,hfe⟩,?_⟩
         . dsimp only
           rw[htk]
           constructor
           . intro e
             exact⟨f,by simp,e⟩
           . rintro⟨z,hz,e⟩
             rcases List.mem_append.1 hz with hz|hz
             . exact absurd (hp.2 ⟨z,hz,e⟩) hpp
             . simp at hz;subst hz;exact e
         . (conv=>whnf)
           rfl
   . obtain rfl:i=c.fields.l.length:=by omega
     rw[List.drop_length,List.take_length] at hfe
     rw[List.take_length] at hp
     rw[hfe,orE_r _ rfl]
     have hkb:((c.routing ≠ []/\¬ p)\/(c.slim/\c.routing=[])) ↔ ((c.b.routing ≠ []/\¬ ∃ f ∈ c.b.fields,f.s=c.b.routing)\/(c.b.slim/\c.b.routing=[])):=by
      rw[hp]
      rfl
     (try (conv=>whnf));repeat' (first|refine Ok.seq ?_|((first|refine Ok.region tok ?_|refine Ok.region_draw tok follows (by kernel_rfl) ?_|refine Ok.cond ?_|refine Ok.skip ?_|refine Ok.exit ?_|refine Ok.ret ?_);conv=>whnf)|(refine bI ?_ ?_<;>intro<;>(conv=>whnf)<;>(try (exfalso;omega)))|fail)
     all_goals
      refine Or.inl ?_;(conv=>whnf)
      first
       | (rw[knownE_bad (hkb.1 (.inl ⟨by assumption,by assumption⟩))];rfl)
       | (rw[knownE_bad (hkb.1 (.inr ⟨by assumption,by assumption⟩))];rfl)
       | (rw[knownE_ok fun g=>by
            rcases hkb.2 g with⟨a,b⟩|⟨a,b⟩<;>first|exact absurd a (by assumption)|exact absurd b (by assumption)|exact absurd (by assumption) a|exact absurd (by assumption) b]
          rfl)
 . rw[h] at hrc
   dsimp only at hrc
   rw[fds_len] at hj
   obtain⟨f,hfi⟩:∃ f,c.fields.l[j]? = some f:=⟨_,List.getElem?_eq_getElem hj⟩
   rw[headO_fld (c:=c.b) ht h hfi]
   have h4:c.fields.l.length ≠ 0:=by omega
   (try (conv=>whnf));repeat' (first|refine Ok.seq ?_|((first|refine Ok.region tok ?_|refine Ok.region_draw tok follows (by kernel_rfl) ?_|refine Ok.cond ?_|refine Ok.skip ?_|refine Ok.ret ?_|refine ix _ (by assumption) ?_);conv=>whnf)|(refine Or.inl ?_;(conv=>whnf);(repeat (refine aI ?_;conv=>whnf));refine⟨_,hrc,rfl,?_⟩;conv=>whnf)|(refine bI ?_ ?_<;>intro<;>(conv=>whnf)<;>(try (exfalso;omega)))|fail)
   all_goals first
    | (exfalso;omega)
    | (refine Or.inl ?_;(conv=>whnf)
       rfl)
set_option maxRecDepth 100000 in
set_option maxHeartbeats 8000000 in
theorem mhead_at(c:Config)(hf:c.fields.l.length<=1048576):FSpec Tryz.prog T 74 [.agg c.row] (fun d _=>d = .tup [.i .i64 (headO c.b).1,.s (headO c.b).2]):=by
 have hfl:(c.fields.l.map SI.row).length=c.fields.l.length:=by simp
 have hrc:=check_at (fds c.fields.l) c.fields.room (by rw[fds_len];omega)
 have hfd:=mfind_at (fds c.fields.l) c.fields.room c.routing (by rw[fds_len];omega)
 rw[fds_row] at hrc hfd
 refine FSpec.of_ok tok Tryz.func74 rfl Tryz.call74 (by simp) ?_
 by_cases ht:256<c.title.length
 . (try (conv=>whnf));repeat' (first|refine Ok.seq ?_|((first|refine Ok.region tok ?_|refine Ok.cond ?_|refine Ok.ret ?_);conv=>whnf)|(refine bI ?_ ?_<;>intro<;>(conv=>whnf)<;>(try (exfalso;omega)))|fail)
   all_goals first
    | (exfalso;omega)
    | (refine Or.inl ?_;(conv=>whnf)
       rw[headO_long (c:=c.b) ht]
       rfl)
 rcases chkO_cases (fds c.fields.l) with⟨h,h2⟩|⟨h,h2⟩|⟨h1,h2,h|⟨j,h,hj⟩⟩
 . rw[h] at hrc
   dsimp only at hrc
   rw[headO_lay (c:=c.b) ht (.inl (by show (chkO (fds c.fields.l)).1=2;rw[h]))]
   (try (conv=>whnf));repeat' (first|refine Ok.seq ?_|((first|refine Ok.region tok ?_|refine Ok.cond ?_|refine Ok.skip ?_|refine Ok.ret ?_);conv=>whnf)|(refine Or.inl ?_;(conv=>whnf);(repeat (refine aI ?_;conv=>whnf));refine⟨_,hrc,rfl,?_⟩;conv=>whnf)|(refine bI ?_ ?_<;>intro<;>(conv=>whnf)<;>(try (exfalso;omega)))|fail)
   all_goals first
    | (exfalso;omega)
    | (refine Or.inl ?_;(conv=>whnf)
       rfl)
 . rw[h] at hrc
   dsimp only at hrc
   have h3:=(fds_nil _).1 h2
   have h4:c.fields.l.length=0:=by rw[h3];rfl
   rw[headO_lay (c:=c.b) ht (.inr h3)]
   (try (conv=>whnf));repeat' (first|refine Ok.seq ?_|((first|refine Ok.region tok ?_|refine Ok.cond ?_|refine Ok.skip ?_|refine Ok.ret ?_);conv=>whnf)|(refine Or.inl ?_;(conv=>whnf);(repeat (refine aI ?_;conv=>whnf));refine⟨_,hrc,rfl,?_⟩;conv=>whnf)|(refine bI ?_ ?_<;>intro<;>(conv=>whnf)<;>(try (exfalso;omega)))|fail)
   all_goals first
    | (exfalso;omega)
    | (refine Or.inl ?_;(conv=>whnf)
       rfl)
 . rw[h] at hrc
   dsimp only at hrc
   rw[fds_len] at h2
   have h3:c.fields.l ≠ []:=fun e=>h1 ((fds_nil _).2 e)
   have h4:c.fields.l.length ≠ 0:=fun e=>h3 (List.eq_nil_of_length_eq_zero e)
   rw[headO_ok (c:=c.b) ht h h3]
   (try (conv=>whnf));repeat' (first|refine Ok.seq ?_|((first|refine Ok.region tok ?_|refine Ok.cond ?_);conv=>whnf)|refine Ok.block ?_|(refine Ok.skip ?_;conv=>whnf)|(refine Or.inl ?_;(conv=>whnf);(repeat (refine aI ?_;conv=>whnf));refine⟨_,hrc,rfl,?_⟩;conv=>whnf)|(refine bI ?_ ?_<;>intro<;>(conv=>whnf)<;>(try (exfalso;omega)))|fail)
   all_goals first
    | (exfalso;omega)
    | skip
   refine Ok.loopU [1,35,36] [37] 0 1 (fun (i:Nat)=>[.i .i64 (i:Nat)]) (fun (i:Nat) (_:List (List D))=>[c.row]) (fun _ r=>r) (fun (i:Nat)=>i<=c.fields.l.length/\firstE resvE [] c.b.fields=firstE resvE (c.fields.l.take i) (c.fields.l.drop i)) (fun (i:Nat)=>c.fields.l.length - i) (0) (⟨Nat.zero_le _,rfl⟩) ?_;(conv=>whnf);refine⟨by ((conv=>whnf);first|rfl|(simp[envCat, List.take_of_length_le, SI.row, Node.row, Pfx.row, Link.row, srow, Line.row, Rule.row, Box.row, Slc.row, Config.row, nrow, frow];done)|(simp[envCat, List.take_of_length_le, SI.row, Node.row, Pfx.row, Link.row, srow, Line.row, Rule.row, Box.row, Slc.row, Config.row, nrow, frow];rw[IntKind.wrap_i64];omega)),?_⟩
   rintro i ⟨hi,hfe⟩
   (conv=>whnf)
   by_cases hil:i<c.fields.l.length
   . obtain⟨f,hfi⟩:∃ f,c.fields.l[i]? = some f:=⟨_,List.getElem?_eq_getElem hil⟩
     have hfI:c.fields.l[((i:Nat):Int).toNat]? = some f:=hfi
     (try (conv=>whnf));repeat' (first|refine Ok.seq ?_|((first|refine Ok.region tok ?_|refine Ok.region_draw tok follows (by kernel_rfl) ?_|refine Ok.cond ?_);conv=>whnf)|refine Ok.block ?_|((first|refine Ok.skip ?_|refine Ok.ret ?_|refine nI ?_|refine ix _ (by assumption) ?_);conv=>whnf)|(refine Or.inl ?_;(conv=>whnf);(repeat (refine aI ?_;conv=>whnf));refine⟨_,mresv_at f.s,rfl,?_⟩;conv=>whnf)|(refine bI ?_ ?_<;>intro<;>(conv=>whnf)<;>(try (exfalso;omega)))|fail)
     . rename_i hr
       refine Or.inl ?_;(conv=>whnf)
       rw[hfe,firstE_bad hfi (by rw[resvE_bad hr];simp),resvE_bad hr,orE_l _ (by simp)]
       rfl
     . rename_i hr
       rw[firstE_ok hfi (by rw[resvE_ok hr])] at hfe
       refine⟨i+1,by omega,⟨by omega,hfe⟩,?_⟩
       (conv=>whnf)
       rfl
   . obtain rfl:i=c.fields.l.length:=by omega
     rw[List.drop_length,List.take_length] at hfe
     rw[hfe,orE_r _ rfl]
     have hfn:=findI_fds c.routing c.fields.l
     have hkb:((c.routing ≠ []/\findI c.routing (fds c.fields.l) 0<0)\/(c.routing=[]/\c.slim)) ↔ ((c.b.routing ≠ []/\¬ ∃ f ∈ c.b.fields,f.s=c.b.routing)\/(c.b.slim/\c.b.routing=[])):=by
      rw[hfn,and_comm (a:=c.routing=[])]
      rfl
     (try (conv=>whnf));repeat' (first|refine Ok.seq ?_|((first|refine Ok.region tok ?_|refine Ok.region_draw tok follows (by kernel_rfl) ?_|refine Ok.cond ?_|refine Ok.skip ?_|refine Ok.exit ?_|refine Ok.ret ?_);conv=>whnf)|(refine Or.inl ?_;(conv=>whnf);(repeat (refine aI ?_;conv=>whnf));refine⟨_,hfd,rfl,?_⟩;conv=>whnf)|(refine bI ?_ ?_<;>intro<;>(conv=>whnf)<;>(try (exfalso;omega)))|fail)
     all_goals
      refine Or.inl ?_;(conv=>whnf)
      first
       | (rw[knownE_bad (hkb.1 (.inl ⟨by assumption,by assumption⟩))];rfl)
       | (rw[knownE_bad (hkb.1 (.inr ⟨by assumption,by assumption⟩))];rfl)
       | (rw[knownE_ok fun g=>by
            rcases hkb.2 g with⟨a,b⟩|⟨a,b⟩<;>first|exact absurd a (by assumption)|exact absurd b (by assumption)|exact absurd (by assumption) a|exact absurd (by assumption) b]
          rfl)
 . rw[h] at hrc
   dsimp only at hrc
   rw[fds_len] at hj
   obtain⟨f,hfi⟩:∃ f,c.fields.l[j]? = some f:=⟨_,List.getElem?_eq_getElem hj⟩
   rw[headO_fld (c:=c.b) ht h hfi]
   have h4:c.fields.l.length ≠ 0:=by omega
   (try (conv=>whnf));repeat' (first|refine Ok.seq ?_|((first|refine Ok.region tok ?_|refine Ok.region_draw tok follows (by kernel_rfl) ?_|refine Ok.cond ?_|refine Ok.skip ?_|refine Ok.ret ?_|refine ix _ (by assumption) ?_);conv=>whnf)|(refine Or.inl ?_;(conv=>whnf);(repeat (refine aI ?_;conv=>whnf));refine⟨_,hrc,rfl,?_⟩;conv=>whnf)|(refine bI ?_ ?_<;>intro<;>(conv=>whnf)<;>(try (exfalso;omega)))|fail)
   all_goals first
    | (exfalso;omega)
    | (refine Or.inl ?_;(conv=>whnf)
       rfl)
end Go.Proofs.YtcglkonooeddfaaGreatDoor
namespace Go.Proofs.YtcglkonooeddfaaGreatDoor
open Go Go.Vx
set_option maxRecDepth 100000 in
set_option maxHeartbeats 8000000 in
theorem rnames_at(c:Config)(hc:c.Ok)(htx:∀ b ∈ c.boxes.l,b.name.length<=1048576/\(∀ s ∈ b.ins.l,s.length<=1048576)/\∀ s ∈ b.outs.l,s.length<=1048576) :
    FSpec Tryz.prog T 70 [.agg c.row] (fun d _=>d = .tup [.i .i64 (nameO c.b).1,.s (nameO c.b).2]):=by
 have hcb:=hc.boxes
 have hbl:(c.boxes.l.map Box.row).length=c.boxes.l.length:=by simp
 refine FSpec.of_ok tok Tryz.func70 rfl Tryz.call70 (by simp) ?_
 (try (conv=>whnf));repeat' (first|refine Ok.seq ?_|(refine Ok.region tok ?_;conv=>whnf)|refine Ok.block ?_|fail)
 refine Ok.loopU [1] [4] 0 1 (fun (i:Nat)=>[.i .i64 (i:Nat)]) (fun (i:Nat) (_:List (List D))=>[c.row]) (fun _ r=>r) (fun (i:Nat)=>i<=c.boxes.l.length/\nameO c.b=firstE boxE (c.b.boxes.take i) (c.b.boxes.drop i)) (fun (i:Nat)=>c.boxes.l.length - i) (0) (⟨Nat.zero_le _,rfl⟩) ?_;(conv=>whnf);refine⟨by ((conv=>whnf);first|rfl|(simp[envCat, List.take_of_length_le, SI.row, Node.row, Pfx.row, Link.row, srow, Line.row, Rule.row, Box.row, Slc.row, Config.row];done)|(simp[envCat, List.take_of_length_le, SI.row, Node.row, Pfx.row, Link.row, srow, Line.row, Rule.row, Box.row, Slc.row, Config.row];rw[IntKind.wrap_i64];omega)),?_⟩
 rintro i ⟨hi,hfe⟩
 (conv=>whnf)
 by_cases hil:i<c.boxes.l.length
 . obtain⟨b,hb⟩:∃ b,c.boxes.l[i]? = some b:=⟨_,List.getElem?_eq_getElem hil⟩
   have hbI:c.boxes.l[((i:Nat):Int).toNat]? = some b:=hb
   have hbb:c.b.boxes[i]? = some b.b:=by simp[Config.b,hb]
   have hbx:=hc.box b (List.mem_of_getElem? hb)
   have hbi:=hbx.ins
   have hbo:=hbx.outs
   obtain⟨hbn,hbins,hbouts⟩:=htx b (List.mem_of_getElem? hb)
   (try (conv=>whnf));repeat' (first|refine Ok.seq ?_|((first|refine Ok.region tok ?_|refine Ok.cond ?_);conv=>whnf)|refine Ok.block ?_|((first|refine Ok.skip ?_|refine Ok.ret ?_|refine ix _ (by assumption) ?_);conv=>whnf)|(refine Or.inl ?_;(conv=>whnf);(repeat (refine aI ?_;conv=>whnf));refine⟨_,r6name_at b.name,rfl,?_⟩;conv=>whnf)|(refine bI ?_ ?_<;>intro<;>(conv=>whnf)<;>(try (exfalso;omega)))|fail)
   . rename_i hx
     refine Or.inl ?_;(conv=>whnf)
     rw[hfe,firstE_bad hbb (by rw[boxE_bad hx];simp),boxE_bad hx]
     rfl
   rename_i hx
   have hx:=Classical.not_not.1 hx
   refine Ok.loopU [1,4,5] [7] 0 1 (fun (k:Nat)=>[.i .i64 (k:Nat)]) (fun (k:Nat) (_:List (List D))=>[c.row]) (fun _ r=>r) (fun (k:Nat)=>k<=i/\∀ (j:Nat) x,j<k->c.boxes.l[j]? = some x->x.name ≠ b.name) (fun (k:Nat)=>i - k) (0) (⟨Nat.zero_le _,fun j x hj=>absurd hj (by omega)⟩) ?_;(conv=>whnf);refine⟨by ((conv=>whnf);first|rfl|(simp[envCat, List.take_of_length_le, SI.row, Node.row, Pfx.row, Link.row, srow, Line.row, Rule.row, Box.row, Slc.row, Config.row];done)|(simp[envCat, List.take_of_length_le, SI.row, Node.row, Pfx.row, Link.row, srow, Line.row, Rule.row, Box.row, Slc.row, Config.row];rw[IntKind.wrap_i64];omega)),?_⟩
   rintro k ⟨hk,hall⟩
   (conv=>whnf)
   by_cases hki:k<i
   . obtain⟨x,hxk⟩:∃ x,c.boxes.l[k]? = some x:=⟨_,List.getElem?_eq_getElem (by omega)⟩
     have hxI:c.boxes.l[((k:Nat):Int).toNat]? = some x:=hxk
     (try (conv=>whnf));repeat' (first|refine Ok.seq ?_|((first|refine Ok.region tok ?_|refine Ok.cond ?_);conv=>whnf)|refine Ok.block ?_|((first|refine Ok.skip ?_|refine Ok.ret ?_|refine nI ?_|refine ix _ (by assumption) ?_);conv=>whnf)|(refine bI ?_ ?_<;>intro<;>(conv=>whnf)<;>(try (exfalso;omega)))|fail)
     . rename_i he
       have hm:b.b.name ∈ (c.b.boxes.take i).map BoxB.name:=List.mem_map.2 ⟨x.b,List.mem_of_getElem? (i:=k) (by rw[List.getElem?_take_of_lt hki];simp[Config.b,hxk]),he⟩
       refine Or.inl ?_;(conv=>whnf)
       rw[hfe,firstE_bad hbb (by rw[boxE_dbl hx hm];simp),boxE_dbl hx hm]
       rfl
     . rename_i he
       refine⟨k+1,by omega,⟨by omega,fun j x2 hj hx2=>?_⟩,?_⟩
       . by_cases hjk:j=k
         . subst hjk;rw[hxk] at hx2;cases hx2;exact he
         . exact hall j x2 (by omega) hx2
       . (conv=>whnf)
         rfl
   obtain rfl:k=i:=by omega
   have hm:b.b.name ∉ (c.b.boxes.take k).map BoxB.name:=by
    intro hm
    obtain⟨x,hxm,e⟩:=List.mem_map.1 hm
    obtain⟨j,hj⟩:=List.getElem?_of_mem hxm
    have hjk:j<k:=by have:=(List.getElem?_eq_some_iff.1 hj).1;rw[List.length_take] at this;omega
    rw[List.getElem?_take_of_lt hjk] at hj
    simp only[Config.b,List.getElem?_map,Option.map_eq_some_iff] at hj
    obtain⟨y,hy,rfl⟩:=hj
    exact hall j y hjk hy e
   rw[firstE_split hbb,boxE_ok hx hm] at hfe
   change nameO c.b=if (firstE (portE b.name) [] (b.ins.l++b.outs.l)).1 ≠ 0 then firstE (portE b.name) [] (b.ins.l++b.outs.l) else firstE boxE (c.b.boxes.take (k+1)) (c.b.boxes.drop (k+1)) at hfe
   obtain⟨ps,hps⟩:∃ ps,ps=b.ins.l++b.outs.l:=⟨_,rfl⟩
   have hboth:=both_at b hbi hbo
   rw[<- hps] at hboth hfe
   have hpl:ps.length=b.ins.l.length+b.outs.l.length:=by rw[hps];simp
   (try (conv=>whnf));repeat' (first|refine Ok.seq ?_|((first|refine Ok.region tok ?_|refine Ok.cond ?_);conv=>whnf)|refine Ok.block ?_|((first|refine Ok.exit ?_|refine ix _ (by assumption) ?_);conv=>whnf)|(refine Or.inr (Or.inr (Or.inr (Or.inl ?_)));(conv=>whnf);(repeat (refine aI ?_;conv=>whnf));refine⟨_,hboth,?_⟩;rintro _ _ ⟨rfl,rfl⟩<;>(refine And.intro (by simp[gRowsP, grounds, D.ground, SI.row, Node.row, Pfx.row, Link.row, srow, Line.row, Rule.row, Box.row, Slc.row, Config.row]) ?_;conv=>whnf))|(refine bI ?_ ?_<;>intro<;>(conv=>whnf)<;>(try (exfalso;omega)))|fail)
   refine Ok.loopU [1,4,5,8] [9] 1 1 (fun (j:Nat)=>[.i .i64 (j:Nat)]) (fun (j:Nat) (_:List (List D))=>[c.row]) (fun (j:Nat) (_:Vx.Rows)=>[some (9,ps.map srow)]) (fun (j:Nat)=>j<=ps.length/\firstE (portE b.name) [] ps=firstE (portE b.name) (ps.take j) (ps.drop j)) (fun (j:Nat)=>ps.length - j) (0) (⟨Nat.zero_le _,rfl⟩) ?_;(conv=>whnf);refine⟨by ((conv=>whnf);first|rfl|(simp[envCat, List.take_of_length_le, SI.row, Node.row, Pfx.row, Link.row, srow, Line.row, Rule.row, Box.row, Slc.row, Config.row];done)|(simp[envCat, List.take_of_length_le, SI.row, Node.row, Pfx.row, Link.row, srow, Line.row, Rule.row, Box.row, Slc.row, Config.row];rw[IntKind.wrap_i64];omega)),?_⟩
   rintro j ⟨hj,hfe2⟩
   (conv=>whnf)
   have hml:(ps.map srow).length=ps.length:=by simp
   have hta:(ps.map srow).take ps.length=ps.map srow:=List.take_of_length_le (by simp)
   by_cases hjl:j<ps.length
   . obtain⟨s,hs⟩:∃ s,ps[j]? = some s:=⟨_,List.getElem?_eq_getElem hjl⟩
     have hsl:s.length<=1048576:=by
      rcases List.mem_append.1 (hps ▸ List.mem_of_getElem? hs) with h|h
      . exact hbins s h
      . exact hbouts s h
     have hsm:(ps.map srow)[((j:Nat):Int).toNat]? = some (srow s):=by show (ps.map srow)[j]? = _;rw[List.getElem?_map,hs];rfl
     (try (conv=>whnf));repeat' (first|refine Ok.seq ?_|((first|refine Ok.region tok ?_|refine Ok.region_draw tok follows (by kernel_rfl) ?_|refine Ok.cond ?_);conv=>whnf)|refine Ok.block ?_|((first|refine Ok.skip ?_|refine Ok.ret ?_|refine nI ?_);conv=>whnf)|(refine Or.inl ?_;(conv=>whnf);(repeat (refine aI ?_;conv=>whnf));refine⟨_,r6name_at s,rfl,?_⟩;conv=>whnf)|(refine Or.inl ?_;(conv=>whnf);(repeat (refine aI ?_;conv=>whnf));refine⟨_,place_at ps s hta,rfl,?_⟩;conv=>whnf)|(refine rd rfl (by assumption) ?_;conv=>whnf)|(refine bI ?_ ?_<;>intro<;>(conv=>whnf)<;>(try (exfalso;omega)))|(refine aJ ?_;conv=>whnf)|fail)
     . rename_i hz
       rw[firstE_bad hs (by rw[portE_bad hz];simp),portE_bad hz] at hfe2
       rw[hfe2,if_pos (by simp)] at hfe
       refine Or.inl ?_;(conv=>whnf)
       rw[hfe]
       rfl
     . rename_i hz hv
       have hz:=Classical.not_not.1 hz
       have hp:=(plc_take (List.mem_of_getElem? hs)).1 hv
       rw[firstE_bad hs (by rw[portE_dbl hz hp];simp),portE_dbl hz hp] at hfe2
       rw[hfe2,if_pos (by simp)] at hfe
       refine Or.inl ?_;(conv=>whnf)
       rw[hfe]
       rfl
     . rename_i hz hv
       have hz:=Classical.not_not.1 hz
       have hp:s ∉ ps.take j:=fun h=>hv ((plc_take (List.mem_of_getElem? hs)).2 h)
       refine⟨j+1,by omega,⟨by omega,?_⟩,?_⟩
       . rw[hfe2,firstE_ok hs (by rw[portE_ok hz hp])]
       . (conv=>whnf)
         rfl
   . obtain rfl:j=ps.length:=by omega
     rw[firstE_nil (Nat.le_refl _)] at hfe2
     rw[hfe2,if_neg (by simp)] at hfe
     (try (conv=>whnf));repeat' (first|refine Ok.seq ?_|((first|refine Ok.region tok ?_|refine Ok.cond ?_|refine Ok.exit ?_|refine nI ?_);conv=>whnf)|(refine bI ?_ ?_<;>intro<;>(conv=>whnf)<;>(try (exfalso;omega)))|fail)
     refine⟨k+1,by omega,⟨by omega,hfe⟩,?_⟩
     (conv=>whnf)
     rfl
 . obtain rfl:i=c.boxes.l.length:=by omega
   rw[firstE_nil (by simp[Config.b])] at hfe
   (try (conv=>whnf));repeat' (first|refine Ok.seq ?_|((first|refine Ok.region tok ?_|refine Ok.cond ?_|refine Ok.exit ?_|refine Ok.ret ?_);conv=>whnf)|(refine bI ?_ ?_<;>intro<;>(conv=>whnf)<;>(try (exfalso;omega)))|fail)
   all_goals first
    | (exfalso;omega)
    | (refine Or.inl ?_;(conv=>whnf)
       rw[hfe]
       rfl)
end Go.Proofs.YtcglkonooeddfaaGreatDoor
namespace Go.Proofs.YtcglkonooeddfaaGreatDoor
open Go Go.Vx
structure HeadOk(c:ConfigB):Prop where
 chk:chkO (fds c.fields)=(0,0)
 known:c.routing ≠ []->∃ f ∈ c.fields,f.s=c.routing
theorem head_ok{c:ConfigB}(h:(headO c).1=0):HeadOk c:=by
 by_cases ht:256<c.title.length
 . rw[headO_long ht] at h;cases h
 rcases chkO_cases (fds c.fields) with⟨e,h2⟩|⟨e,h2⟩|⟨h1,h2,e|⟨j,e,hj⟩⟩
 . rw[headO_lay ht (.inl (by rw[e]))] at h;cases h
 . rw[headO_lay ht (.inr ((fds_nil _).1 h2))] at h;cases h
 . rw[headO_ok ht e (fun g=>h1 ((fds_nil _).2 g))] at h
   refine⟨e,fun hr=>Classical.byContradiction fun hn=>?_⟩
   by_cases h0:(firstE resvE [] c.fields).1=0
   . rw[orE_r _ h0,knownE_bad (.inl ⟨hr,hn⟩)] at h;cases h
   . rw[orE_l _ h0] at h;exact h0 h
 . rw[fds_len] at hj
   rw[headO_fld ht e (List.getElem?_eq_getElem hj)] at h;cases h
theorem nds_ok{l:List Node}(h:∀ x ∈ l,x.Tx):TxtOk (nds l):=fun c hc=>by
 obtain⟨x,hx,rfl⟩:=List.mem_map.1 hc
 have h1:=(h x hx).field
 have h2:=(h x hx).pat
 unfold SOk at h1 h2
 exact⟨by show x.field.length<=_;omega,by show x.pat.length<=_;omega⟩
theorem sidesI_one(s:Str)(w o:List Str):sidesI [s] w o=(sideE w o [] s).1:=by
 unfold sidesI firstE
 by_cases h:(sideE w o [] s).1 ≠ 0
 . rw[if_pos h]
 . rw[if_neg h]
   exact (Classical.not_not.1 h).symm
set_option maxRecDepth 100000 in
theorem right_at(cf:Config)(hf:cf.fields.l.length<=1048576)(b:Box)(g:Nat)(l:List Node){rl r:List (List D)}(h:rl=l.map Node.row)(hl:l.length<=1048576)(htx:∀ x ∈ l,x.Tx) :
    FSpec Tryz.prog T 191 [deskD (.ep cf.row) b g,.lst 219 rl r] (fun d _=>d = .b (chkE (fds cf.fields.l) (nds l)=0)):=by
 subst h
 have hc:=pcheck_at (fds cf.fields.l) cf.fields.room (nds l) r (by rw[fds_len];omega) (by simp[nds];omega) (nds_ok htx)
 rw[fds_row,nds_row] at hc
 refine FSpec.of_ok tok Tryz.func191 rfl Tryz.call191 (by simp) ?_
 (try (conv=>whnf));repeat' (first|refine Ok.seq ?_|((first|refine Ok.region tok ?_|refine Ok.ret ?_);conv=>whnf)|(refine Or.inl ?_;(conv=>whnf);(repeat (refine aI ?_;conv=>whnf));refine⟨_,hc,rfl,?_⟩;conv=>whnf)|fail)
 refine Or.inl ?_;(conv=>whnf)
 rfl
theorem findI_at{nm:Str}{l:List Fd}(h:∃ f ∈ l,f.name=nm):∃ (k:Nat) (f:Fd),findI nm l 0=(k:Int)/\l[k]? = some f/\f.name=nm/\∀ (j:Nat) x,j<k->l[j]? = some x->x.name ≠ nm:=by
 have key:∀ (l:List Fd) (i:Nat),(∃ f ∈ l,f.name=nm)->∃ (k:Nat) (f:Fd),findI nm l i=((k+i:Nat):Int)/\l[k]? = some f/\f.name=nm/\∀ (j:Nat) x,j<k->l[j]? = some x->x.name ≠ nm:=by
  intro l
  induction l with
  | nil=>rintro i ⟨f,hf,_⟩;cases hf
  | cons y l ih=>
   rintro i ⟨f,hf,e⟩
   by_cases hy:y.name=nm
   . exact⟨0,y,by unfold findI;rw[if_pos hy];simp,rfl,hy,fun j x hj=>absurd hj (by omega)⟩
   . have hm:∃ f ∈ l,f.name=nm:=by
       rcases List.mem_cons.1 hf with rfl|hf
       . exact absurd e hy
       . exact⟨f,hf,e⟩
     obtain⟨k,x,h1,h2,h3,h4⟩:=ih (i+1) hm
     refine⟨k+1,x,?_,by simpa using h2,h3,fun j z hj hz=>?_⟩
     . unfold findI
       rw[if_neg hy,h1]
       congr 1
       omega
     . cases j with
       | zero=>simp at hz;subst hz;exact hy
       | succ j=>exact h4 j z (by omega) (by simpa using hz)
 obtain⟨k,f,h1,h2⟩:=key l 0 h
 exact⟨k,f,by simpa using h1,h2⟩
theorem rbits_at{c:ConfigB}(hh:HeadOk c)(hr:c.routing ≠ []):∃ (k:Nat) (f:SI),findI c.routing (fds c.fields) 0=(k:Int)/\c.fields[k]? = some f/\f.s=c.routing/\rbits c=f.n/\1<=f.n/\f.n<=32/\∀ (j:Nat) x,j<k->c.fields[j]? = some x->x.s ≠ c.routing:=by
 obtain⟨f0,hf0,e0⟩:=hh.known hr
 obtain⟨k,f,h1,h2,h3,h4⟩:=findI_at (nm:=c.routing) (l:=fds c.fields) ⟨f0.fd,List.mem_map.2 ⟨f0,hf0,rfl⟩,e0⟩
 have hlay:=(chk_lay (l:=fds c.fields) (by rw[hh.chk])).1 f (List.mem_of_getElem? h2)
 have h2':=h2
 simp only[fds,List.getElem?_map,Option.map_eq_some_iff] at h2
 obtain⟨y,hy,rfl⟩:=h2
 refine⟨k,y,h1,hy,h3,?_,hlay.1,hlay.2,fun j x hj hx=>h4 j x.fd hj (by simp[fds,hx])⟩
 unfold rbits
 rw[if_neg hr,h1,if_neg (by omega)]
 simp only[Int.toNat_natCast,h2',Option.getD_some]
 rfl
end Go.Proofs.YtcglkonooeddfaaGreatDoor
namespace Go.Proofs.YtcglkonooeddfaaGreatDoor
open Go Go.Vx
section
variable {c : ConfigB} {b : BoxB} {pre : List Pfx} {p : Pfx}
theorem prefI_bad(h:rbits c=0\/p.len<0\/rbits c<p.len\/p.value<0\/(tw (rbits c).toNat:Int)<=p.value):prefI c b pre p=78:=if_pos h
theorem prefI_mod(h:¬ (rbits c=0\/p.len<0\/rbits c<p.len\/p.value<0\/(tw (rbits c).toNat:Int)<=p.value))(h2:p.value % (tw (rbits c - p.len).toNat:Int) ≠ 0):prefI c b pre p=78:=by unfold prefI;rw[if_neg h,if_pos h2]
theorem prefI_dup(h:¬ (rbits c=0\/p.len<0\/rbits c<p.len\/p.value<0\/(tw (rbits c).toNat:Int)<=p.value))(h2:¬ p.value % (tw (rbits c - p.len).toNat:Int) ≠ 0)(h3:∃ q ∈ pre,q.value=p.value/\q.len=p.len):prefI c b pre p=78:=by
 unfold prefI;rw[if_neg h,if_neg h2,if_pos h3]
theorem prefI_ok(h:¬ (rbits c=0\/p.len<0\/rbits c<p.len\/p.value<0\/(tw (rbits c).toNat:Int)<=p.value))(h2:¬ p.value % (tw (rbits c - p.len).toNat:Int) ≠ 0)(h3:¬ ∃ q ∈ pre,q.value=p.value/\q.len=p.len):prefI c b pre p=sidesI [p.dst] b.outs b.ins:=by
 unfold prefI;rw[if_neg h,if_neg h2,if_neg h3]
end
theorem sideV_ff(b:BoxB)(s:Str):sideV b False s=sidesI [s] b.outs b.ins:=by
 unfold sideV
 rw[sidesI_one,wantL_ff,wantL_y (fun h=>h.elim:¬ False)]
set_option maxRecDepth 100000 in
set_option maxHeartbeats 8000000 in
theorem mprefix_at(cf:Config)(hh:HeadOk cf.b)(b:Box)(g:Nat)(l:List (Str × Int × Nat))(ck:Nat)(hl:PMap l (b.ins.l++b.outs.l))(pre:List Pfx)(p:Pfx){rl r:List (List D)}(hr:rl=pre.map Pfx.row)(hpl:pre.length<=1048576) :
    FSpecH Tryz.prog T (deskH g l ck) 194 [deskD (.ep cf.row) b g,.agg p.row,.lst 246 rl r] (fun d rows M=>(d = .i .i64 (prefI cf.b b.b pre p)/\rows=[])/\M=[]):=by
 subst hr
 have hpr:(pre.map Pfx.row).length=pre.length:=by simp
 refine FSpecH.of_ok0 tok Tryz.func194 rfl Tryz.call194 (by simp) ?_
 by_cases hr0:cf.routing=[]
 . have hb0:rbits cf.b=0:=if_pos hr0
   (try (conv=>whnf));repeat' (first|refine OkM.seq ?_|((first|refine OkM.region tok ?_|refine OkM.of_ok (Ok.region_draw tok follows (by kernel_rfl) ?_)|refine OkM.cond ?_|refine OkM.skip ?_|refine OkM.ret ?_);conv=>whnf)|(refine bI ?_ ?_<;>intro<;>(conv=>whnf)<;>(try (exfalso;omega)))|fail)
   all_goals first
    | (exact absurd hr0 (by assumption))
    | (refine Or.inl ?_;(conv=>whnf)
       exact⟨by rw[prefI_bad (.inl hb0)];rfl,rfl⟩)
 obtain⟨k,f,hfi,hfk,hfs,hrb,hn1,hn2,hfirst⟩:=rbits_at hh hr0
 have hfl:=chk_lay (l:=fds cf.fields.l) (by rw[show chkO (fds cf.fields.l)=_ from hh.chk])
 have hfd:=mfind_at (fds cf.fields.l) cf.fields.room cf.routing (by have:=hfl.2;omega)
 rw[fds_row,show findI cf.routing (fds cf.fields.l) 0=_ from hfi] at hfd
 have hfkI:(cf.fields.l.map SI.row)[k]? = some f.row:=by simp[show cf.fields.l[k]? = _ from hfk]
 obtain⟨K,hK⟩:∃ K:Nat,f.n=K:=⟨f.n.toNat,by omega⟩
 have hsh1:f.n=(K:Int)/\K<=62:=⟨hK,by omega⟩
 have hKt:(rbits cf.b).toNat=K:=by rw[hrb];omega
 have htw:(0:Int)<tw K:=by have:=tw_pos K;omega
 by_cases hA:p.len<0\/f.n<p.len\/p.value<0\/(tw K:Int)<=p.value
 . have hbad:prefI cf.b b.b pre p=78:=prefI_bad (.inr (by rw[hKt,hrb];exact hA))
   rw[hbad]
   (try (conv=>whnf));repeat' (first|((with_reducible_and_instances refine shl_i (by assumption) ?_);conv=>whnf)|refine OkM.seq ?_|((first|refine OkM.region tok ?_|refine OkM.of_ok (Ok.region_draw tok follows (by kernel_rfl) ?_)|refine OkM.cond ?_|refine OkM.skip ?_|refine OkM.ret ?_|refine ix _ (by assumption) ?_|refine⟨_,by assumption,?_⟩);conv=>whnf)|(refine bI ?_ ?_<;>intro<;>(conv=>whnf)<;>(try (exfalso;omega)))|(refine aJ ?_;conv=>whnf)|fail)
   all_goals first
    | (exact absurd (by assumption) hr0)
    | (exfalso;omega)
    | (refine Or.inl ?_;(conv=>whnf)
       exact⟨rfl,rfl⟩)
 have hA':¬ (rbits cf.b=0\/p.len<0\/rbits cf.b<p.len\/p.value<0\/(tw (rbits cf.b).toNat:Int)<=p.value):=by
  rw[hKt,hrb]
  rintro (h|h)
  . omega
  . exact hA h
 obtain⟨K2,hK2⟩:∃ K2:Nat,f.n - p.len=K2:=⟨(f.n - p.len).toNat,by omega⟩
 have hsh2:f.n - p.len=(K2:Int)/\K2<=62:=⟨hK2,by omega⟩
 have hK2t:(rbits cf.b - p.len).toNat=K2:=by rw[hrb];omega
 have htw2:(0:Int)<tw K2:=by have:=tw_pos K2;omega
 (try (conv=>whnf));repeat' (first|((with_reducible_and_instances refine shl_i (by assumption) ?_);conv=>whnf)|refine OkM.seq ?_|((first|refine OkM.region tok ?_|refine OkM.of_ok (Ok.region_draw tok follows (by kernel_rfl) ?_)|refine OkM.cond ?_);conv=>whnf)|refine OkM.block ?_|((first|refine OkM.skip ?_|refine OkM.ret ?_|refine nI ?_|refine ix _ (by assumption) ?_|refine⟨_,by assumption,?_⟩);conv=>whnf)|(refine bI ?_ ?_<;>intro<;>(conv=>whnf)<;>(try (exfalso;omega)))|((first|refine aJ ?_|refine num_any ?_);conv=>whnf)|fail)
 all_goals first
  | (exact absurd (by assumption) hr0)
  | (exfalso;omega)
  | skip
 . rename_i hm
   rw[Int.tmod_eq_emod_of_nonneg (by omega)] at hm
   refine Or.inl ?_;(conv=>whnf)
   exact⟨by rw[prefI_mod hA' (by rw[hK2t];exact hm)];rfl,rfl⟩
 rename_i hm
 have hm:¬ p.value % (tw (rbits cf.b - p.len).toNat:Int) ≠ 0:=by
  rw[hK2t,<- Int.tmod_eq_emod_of_nonneg (by omega)]
  exact hm
 refine OkM.loopU [3,4,67,68] [69] 0 2 (fun (k:Nat)=>[.i .i64 (k:Nat)]) (fun _ b=>b) (fun _ r=>r) (fun (k:Nat)=>[]) (fun (k:Nat)=>k<=pre.length/\∀ (j:Nat) q,j<k->pre[j]? = some q->¬ (q.value=p.value/\q.len=p.len)) (fun (k:Nat)=>pre.length - k) (0) (⟨Nat.zero_le _,fun j q hj=>absurd hj (by omega)⟩) (by first|exact .refl _|exact .cons _ (.refl _)|exact List.nil_sublist _) ?_;(conv=>whnf);refine⟨by ((conv=>whnf);first|rfl|(simp[envCat, List.take_of_length_le, SI.row, Node.row, Pfx.row, Link.row, srow, Line.row, Rule.row, Box.row, Slc.row, Config.row];done)|(simp[envCat, List.take_of_length_le, SI.row, Node.row, Pfx.row, Link.row, srow, Line.row, Rule.row, Box.row, Slc.row, Config.row];rw[IntKind.wrap_i64];omega)),?_⟩
 rintro k ⟨hk,hall⟩
 (conv=>whnf)
 by_cases hkl:k<pre.length
 . obtain⟨q,hq⟩:∃ q,pre[k]? = some q:=⟨_,List.getElem?_eq_getElem hkl⟩
   have hqI:pre[((k:Nat):Int).toNat]? = some q:=hq
   have next:¬ (q.value=p.value/\q.len=p.len)->∀ (j:Nat) x,j<k+1->pre[j]? = some x->¬ (x.value=p.value/\x.len=p.len):=fun hn j x hj hx=>by
    by_cases hjk:j=k
    . subst hjk;rw[hq] at hx;cases hx;exact hn
    . exact hall j x (by omega) hx
   (try (conv=>whnf));repeat' (first|refine OkM.seq ?_|((first|refine OkM.region tok ?_|refine OkM.cond ?_);conv=>whnf)|refine OkM.block ?_|((first|refine OkM.skip ?_|refine OkM.ret ?_|refine nI ?_|refine ix _ (by assumption) ?_);conv=>whnf)|(refine bI ?_ ?_<;>intro<;>(conv=>whnf)<;>(try (exfalso;omega)))|fail)
   all_goals first
    | (refine Or.inl ?_;(conv=>whnf)
       exact⟨by rw[prefI_dup hA' hm ⟨q,List.mem_of_getElem? hq,by assumption,by assumption⟩];rfl,rfl⟩)
    | (refine⟨k+1,by omega,⟨by omega,next fun h=>?_⟩,.refl _,?_⟩
       . first
           | exact absurd h.1 (by assumption)
           | exact absurd h.2 (by assumption)
       . (conv=>whnf)
         rfl)
 obtain rfl:k=pre.length:=by omega
 have hno:¬ ∃ q ∈ pre,q.value=p.value/\q.len=p.len:=by
  rintro⟨q,hq,h⟩
  obtain⟨j,hj⟩:=List.getElem?_of_mem hq
  exact hall j q (List.getElem?_eq_some_iff.1 hj).1 hj h
 (try (conv=>whnf));repeat' (first|(refine Or.inr (Or.inl ?_);(conv=>whnf);(repeat (refine aI ?_;conv=>whnf));refine⟨_,(side_at cf b g l ck hl p.dst False).more (fun x hx=>List.mem_append_left _ hx),?_⟩;rintro _ _ _ ⟨⟨rfl,rfl⟩,rfl⟩<;>(conv=>whnf))|refine OkM.seq ?_|((first|refine OkM.region tok ?_|refine OkM.cond ?_|refine OkM.exit ?_|refine OkM.ret ?_);conv=>whnf)|(refine bI ?_ ?_<;>intro<;>(conv=>whnf)<;>(try (exfalso;omega)))|fail)
 refine Or.inl ?_;(conv=>whnf)
 exact⟨by rw[prefI_ok hA' hm hno,<- sideV_ff];rfl,rfl⟩
end Go.Proofs.YtcglkonooeddfaaGreatDoor
namespace Go.Proofs.YtcglkonooeddfaaGreatDoor
open Go Go.Vx
section
variable {c : ConfigB} {b : BoxB} {pre : List RuleB} {r : RuleB}
theorem ruleI_range(h:r.prio<0\/65535<r.prio):ruleI c b pre r=76:=if_pos h
theorem ruleI_dup(h:¬ (r.prio<0\/65535<r.prio))(h2:∃ s ∈ pre,s.prio=r.prio):ruleI c b pre r=76:=by unfold ruleI;rw[if_neg h,if_pos h2]
theorem ruleI_from(h:¬ (r.prio<0\/65535<r.prio))(h2:¬ ∃ s ∈ pre,s.prio=r.prio)(h3:sidesI r.frm b.ins b.outs ≠ 0):ruleI c b pre r=sidesI r.frm b.ins b.outs:=by unfold ruleI;rw[if_neg h,if_neg h2,if_pos h3]
theorem ruleI_match(h:¬ (r.prio<0\/65535<r.prio))(h2:¬ ∃ s ∈ pre,s.prio=r.prio)(h3:¬ sidesI r.frm b.ins b.outs ≠ 0)(h4:chkE (fds c.fields) (nds r.mtch) ≠ 0):ruleI c b pre r=77:=by unfold ruleI;rw[if_neg h,if_neg h2,if_neg h3,if_pos h4]
theorem ruleI_sets(h:¬ (r.prio<0\/65535<r.prio))(h2:¬ ∃ s ∈ pre,s.prio=r.prio)(h3:¬ sidesI r.frm b.ins b.outs ≠ 0)(h4:¬ chkE (fds c.fields) (nds r.mtch) ≠ 0)(h5:wordI (fds c.fields) r.sets ≠ 0):ruleI c b pre r=79:=by
 unfold ruleI;rw[if_neg h,if_neg h2,if_neg h3,if_neg h4,if_pos h5]
theorem ruleI_outs(h:¬ (r.prio<0\/65535<r.prio))(h2:¬ ∃ s ∈ pre,s.prio=r.prio)(h3:¬ sidesI r.frm b.ins b.outs ≠ 0)(h4:¬ chkE (fds c.fields) (nds r.mtch) ≠ 0)(h5:¬ wordI (fds c.fields) r.sets ≠ 0)(h6:4<r.dst.length):ruleI c b pre r=71:=by
 unfold ruleI;rw[if_neg h,if_neg h2,if_neg h3,if_neg h4,if_neg h5,if_pos h6]
theorem ruleI_to(h:¬ (r.prio<0\/65535<r.prio))(h2:¬ ∃ s ∈ pre,s.prio=r.prio)(h3:¬ sidesI r.frm b.ins b.outs ≠ 0)(h4:¬ chkE (fds c.fields) (nds r.mtch) ≠ 0)(h5:¬ wordI (fds c.fields) r.sets ≠ 0)(h6:¬ 4<r.dst.length):ruleI c b pre r=sidesI r.dst b.outs b.ins:=by
 unfold ruleI;rw[if_neg h,if_neg h2,if_neg h3,if_neg h4,if_neg h5,if_neg h6]
end
def WordOk:Prop:=∀ (l:List Fd) (r:List (List D)) (S:List SI) (r2:List (List D)),(chkO l).1=0->S.length<=1048576 ->
 FSpec Tryz.prog T 257 [.lst 127 (l.map frow) r,.lst 243 (S.map SI.row) r2] (fun d rows=>(∃ w,d = .tup [.s w,.i .i64 (wordI l S)])/\rows=[])
set_option maxRecDepth 100000 in
set_option maxHeartbeats 8000000 in
theorem mrule_at(hW:WordOk)(cf:Config)(hf:cf.fields.l.length<=1048576)(hh:HeadOk cf.b)(b:Box)(g:Nat)(l:List (Str × Int × Nat))(ck:Nat)(hl:PMap l (b.ins.l++b.outs.l))(pre:List Rule)(r:Rule)(hro:r.Ok)(hrt:r.Tx){rl r0:List (List D)}(hr:rl=pre.map Rule.row)(hpl:pre.length<=1048576) :
    FSpecH Tryz.prog T (deskH g l ck) 192 [deskD (.ep cf.row) b g,.agg r.row,.lst 115 rl r0] (fun d rows M=>(d = .i .i64 (ruleI cf.b b.b (pre.map Rule.b) r.b)/\rows=[])/\M=[]):=by
 subst hr
 have hpr:(pre.map Rule.row).length=pre.length:=by simp
 have hto:(r.dst.l.map srow).length=r.dst.l.length:=by simp
 have hro1:=hro.frm
 have hro4:=hro.dst
 have hWs:=hW (fds cf.fields.l) cf.fields.room r.sets.l r.sets.room (by rw[show chkO (fds cf.fields.l)=_ from hh.chk]) hro.sets
 rw[fds_row] at hWs
 have hS1:=msides_at cf b g l ck hl r.frm.l (sl:=r.frm.room) rfl hro1 True
 have hS2:=msides_at cf b g l ck hl r.dst.l (sl:=r.dst.room) rfl hro4 False
 rw[wantL_tt,wantL_n (fun h=>h trivial:¬ ¬ True)] at hS1
 rw[wantL_ff,wantL_y (fun h=>h.elim:¬ False)] at hS2
 refine FSpecH.of_ok0 tok Tryz.func192 rfl Tryz.call192 (by simp) ?_
 by_cases hA:r.prio<0\/65535<r.prio
 . (try (conv=>whnf));repeat' (first|refine OkM.seq ?_|((first|refine OkM.region tok ?_|refine OkM.cond ?_|refine OkM.ret ?_);conv=>whnf)|(refine bI ?_ ?_<;>intro<;>(conv=>whnf)<;>(try (exfalso;omega)))|fail)
   all_goals first
    | (exfalso;omega)
    | (refine Or.inl ?_;(conv=>whnf)
       exact⟨by rw[ruleI_range (r:=r.b) hA];rfl,rfl⟩)
 (try (conv=>whnf));repeat' (first|refine OkM.seq ?_|((first|refine OkM.region tok ?_|refine OkM.cond ?_);conv=>whnf)|refine OkM.block ?_|(refine OkM.skip ?_;conv=>whnf)|(refine bI ?_ ?_<;>intro<;>(conv=>whnf)<;>(try (exfalso;omega)))|fail)
 all_goals first
  | (exfalso;omega)
  | skip
 refine OkM.loopU [3,4,20,21] [22] 0 2 (fun (k:Nat)=>[.i .i64 (k:Nat)]) (fun _ b=>b) (fun _ r=>r) (fun (k:Nat)=>[]) (fun (k:Nat)=>k<=pre.length/\∀ (j:Nat) q,j<k->pre[j]? = some q->q.prio ≠ r.prio) (fun (k:Nat)=>pre.length - k) (0) (⟨Nat.zero_le _,fun j q hj=>absurd hj (by omega)⟩) (by first|exact .refl _|exact .cons _ (.refl _)|exact List.nil_sublist _) ?_;(conv=>whnf);refine⟨by ((conv=>whnf);first|rfl|(simp[envCat, List.take_of_length_le, SI.row, Node.row, Pfx.row, Link.row, srow, Line.row, Rule.row, Box.row, Slc.row, Config.row];done)|(simp[envCat, List.take_of_length_le, SI.row, Node.row, Pfx.row, Link.row, srow, Line.row, Rule.row, Box.row, Slc.row, Config.row];rw[IntKind.wrap_i64];omega)),?_⟩
 rintro k ⟨hk,hall⟩
 (conv=>whnf)
 by_cases hkl:k<pre.length
 . obtain⟨q,hq⟩:∃ q,pre[k]? = some q:=⟨_,List.getElem?_eq_getElem hkl⟩
   have hqI:pre[((k:Nat):Int).toNat]? = some q:=hq
   (try (conv=>whnf));repeat' (first|refine OkM.seq ?_|((first|refine OkM.region tok ?_|refine OkM.cond ?_);conv=>whnf)|refine OkM.block ?_|((first|refine OkM.skip ?_|refine OkM.ret ?_|refine nI ?_|refine ix _ (by assumption) ?_);conv=>whnf)|(refine bI ?_ ?_<;>intro<;>(conv=>whnf)<;>(try (exfalso;omega)))|fail)
   . rename_i he
     refine Or.inl ?_;(conv=>whnf)
     exact⟨by rw[ruleI_dup (r:=r.b) hA ⟨q.b,List.mem_map.2 ⟨q,List.mem_of_getElem? hq,rfl⟩,he⟩];rfl,rfl⟩
   . rename_i he
     refine⟨k+1,by omega,⟨by omega,fun j x hj hx=>?_⟩,.refl _,?_⟩
     . by_cases hjk:j=k
       . subst hjk;rw[hq] at hx;cases hx;exact he
       . exact hall j x (by omega) hx
     . (conv=>whnf)
       rfl
 obtain rfl:k=pre.length:=by omega
 have hno:¬ ∃ s ∈ pre.map Rule.b,s.prio=r.b.prio:=by
  rintro⟨s,hs,h⟩
  obtain⟨q,hq,rfl⟩:=List.mem_map.1 hs
  obtain⟨j,hj⟩:=List.getElem?_of_mem hq
  exact hall j q (List.getElem?_eq_some_iff.1 hj).1 hj h
 (try (conv=>whnf));repeat' (first|(refine Or.inr (Or.inl ?_);(conv=>whnf);(repeat (refine aI ?_;conv=>whnf));refine⟨_,hS1.more (fun x hx=>List.mem_append_left _ hx),?_⟩;rintro _ _ _ ⟨⟨rfl,rfl⟩,rfl⟩<;>(conv=>whnf))|(refine Or.inr (Or.inl ?_);(conv=>whnf);(repeat (refine aI ?_;conv=>whnf));refine⟨_,hS2.more (fun x hx=>List.mem_append_left _ hx),?_⟩;rintro _ _ _ ⟨⟨rfl,rfl⟩,rfl⟩<;>(conv=>whnf))|refine OkM.seq ?_|((first|refine OkM.region tok ?_|refine OkM.of_ok (Ok.region_plan (id:=14) tok follows [(1,7,[4,3,2]),(4,7,[]),(6,7,[])] [.q 0,.q 1,.q 2,.q 3,.q 4,.q 5,.q 6,.l 7,.q 8,.q 9,.q 10,.q 11,.q 12] (by kernel_rfl) ?_)|refine OkM.cond ?_|refine OkM.skip ?_|refine OkM.exit ?_|refine OkM.ret ?_);conv=>whnf)|(refine Or.inl ?_;(conv=>whnf);refine Or.inl ?_;(conv=>whnf);(repeat (refine aI ?_;conv=>whnf));refine⟨_,right_at cf hf b g r.mtch.l rfl hro.mtch hrt.mtch,rfl,?_⟩;conv=>whnf)|(refine Or.inr (Or.inl ?_);(conv=>whnf);(repeat (refine aI ?_;conv=>whnf));refine⟨_,hWs , ?_⟩;rintro _ _ ⟨⟨w,rfl⟩,rfl⟩<;>(conv=>whnf))|(refine bI ?_ ?_<;>intro<;>(conv=>whnf)<;>(try (exfalso;omega)))|fail)
 . rename_i h3
   refine Or.inl ?_;(conv=>whnf)
   exact⟨by rw[ruleI_from (r:=r.b) hA hno h3];rfl,rfl⟩
 . rename_i h3 h4
   refine Or.inl ?_;(conv=>whnf)
   exact⟨by rw[ruleI_match (r:=r.b) hA hno h3 h4];rfl,rfl⟩
 . rename_i h3 h4 h5
   have h4:¬ chkE (fds cf.b.fields) (nds r.b.mtch) ≠ 0:=h4
   refine Or.inl ?_;(conv=>whnf)
   exact⟨by rw[ruleI_sets (r:=r.b) hA hno h3 h4 h5];rfl,rfl⟩
 . rename_i h3 h4 h5 h6
   have h4:¬ chkE (fds cf.b.fields) (nds r.b.mtch) ≠ 0:=h4
   refine Or.inl ?_;(conv=>whnf)
   exact⟨by rw[ruleI_outs (r:=r.b) hA hno h3 h4 h5 (by show 4<r.dst.l.length;omega)];rfl,rfl⟩
 . rename_i h3 h4 h5 h6
   have h4:¬ chkE (fds cf.b.fields) (nds r.b.mtch) ≠ 0:=h4
   refine Or.inl ?_;(conv=>whnf)
   exact⟨by rw[ruleI_to (r:=r.b) hA hno h3 h4 h5 (by show ¬ 4<r.dst.l.length;omega)];rfl,rfl⟩
end Go.Proofs.YtcglkonooeddfaaGreatDoor
namespace Go.Proofs.YtcglkonooeddfaaGreatDoor
open Go Go.Vx
def ItoaOk:Prop:=∀ n:Int,-9223372036854775808<=n->n<=9223372036854775807->FSpec Tryz.prog T 193 [.i .i64 n] (fun d _=>d = .s (Lib.itoa n))
theorem told_bad{e:Int}{t:Str}(h:e ≠ 0):told e t=(e,t):=if_pos h
theorem told_ok{e:Int}{t:Str}(h:e=0):told e t=(0,[]):=if_neg fun g=>g h
theorem guardE_unk{c:ConfigB}{b:BoxB}{pre:List LineB}{g:LineB}(h:g.port ∉ b.ins++b.outs):guardE c b pre g=(73,b.name++[32,103,117,97,114,100,32]++g.port):=if_pos h
theorem guardE_bad{c:ConfigB}{b:BoxB}{pre:List LineB}{g:LineB}(h:g.port ∈ b.ins++b.outs)(h2:chkE (fds c.fields) (nds g.mtch) ≠ 0):guardE c b pre g=(77,b.name++[32,103,117,97,114,100,32]++g.port):=by unfold guardE;rw[if_neg (fun g=>g h),if_pos h2]
theorem guardE_ok{c:ConfigB}{b:BoxB}{pre:List LineB}{g:LineB}(h:g.port ∈ b.ins++b.outs)(h2:¬ chkE (fds c.fields) (nds g.mtch) ≠ 0):guardE c b pre g=(0,[]):=by unfold guardE;rw[if_neg (fun g=>g h),if_neg h2]
theorem told_split{α:Type}{f:List α->α->Er}{l:List α}{k:Nat}{x:α}{e:Int}{t:Str}(hx:l[k]? = some x)(hf:f (l.take k) x=told e t):(e ≠ 0->firstE f (l.take k) (l.drop k)=(e,t))/\(e=0->firstE f (l.take k) (l.drop k)=firstE f (l.take (k+1)) (l.drop (k+1))):=by
 refine⟨fun h=>?_,fun h=>?_⟩
 . rw[firstE_bad hx (by rw[hf,told_bad h];exact h),hf,told_bad h]
 . rw[firstE_ok hx (by rw[hf,told_ok h])]
set_option maxRecDepth 100000 in
set_option maxHeartbeats 16000000 in
theorem mbox_at(hW:WordOk)(hI:ItoaOk)(cf:Config)(hf:cf.fields.l.length<=1048576)(hh:HeadOk cf.b)(b:Box)(hbo:b.Ok)(hbt:b.Tx)(g:Nat)(l:List (Str × Int × Nat))(ck:Nat)(hl:PMap l (b.ins.l++b.outs.l)) :
    FSpecH Tryz.prog T (deskH g l ck) 140 [deskD (.ep cf.row) b g] (fun d rows M=>(d = .tup [.i .i64 (doesE cf.b [] b.b).1,.s (doesE cf.b [] b.b).2]/\rows=[])/\M=[]):=by
 have hbn:b.name.length<=1048576:=hbt.name
 have l3:(b.guards.l.map Line.row).length=b.guards.l.length:=by simp
 have l4:(b.rules.l.map Rule.row).length=b.rules.l.length:=by simp
 have l5:(b.owns.l.map Pfx.row).length=b.owns.l.length:=by simp
 have l6:(b.routes.l.map Pfx.row).length=b.routes.l.length:=by simp
 have b3:=hbo.guards
 have b4:=hbo.rules
 have b5:=hbo.owns
 have b6:=hbo.routes
 refine FSpecH.of_ok0 tok Tryz.func140 rfl Tryz.call140 (by simp) ?_
 (try (conv=>whnf));repeat' (first|refine OkM.seq ?_|(refine OkM.region tok ?_;conv=>whnf)|refine OkM.block ?_|fail)
 refine OkM.loopU [1,19,20] [21] 0 1 (fun (k:Nat)=>[.i .i64 (k:Nat)]) (fun _ b=>b) (fun _ r=>r) (fun (k:Nat)=>[]) (fun (k:Nat)=>k<=b.guards.l.length/\firstE (guardE cf.b b.b) [] b.b.guards=firstE (guardE cf.b b.b) (b.b.guards.take k) (b.b.guards.drop k)) (fun (k:Nat)=>b.guards.l.length - k) (0) (⟨Nat.zero_le _,rfl⟩) (by first|exact .refl _|exact .cons _ (.refl _)|exact List.nil_sublist _) ?_;(conv=>whnf);refine⟨by ((conv=>whnf);first|rfl|(simp[envCat, List.take_of_length_le, SI.row, Node.row, Pfx.row, Link.row, srow, Line.row, Rule.row, Box.row, Slc.row, Config.row];done)|(simp[envCat, List.take_of_length_le, SI.row, Node.row, Pfx.row, Link.row, srow, Line.row, Rule.row, Box.row, Slc.row, Config.row];rw[IntKind.wrap_i64];omega)),?_⟩
 rintro k ⟨hk,hfe⟩
 (conv=>whnf)
 by_cases hkl:k<b.guards.l.length
 . obtain⟨x,hx⟩:∃ x,b.guards.l[k]? = some x:=⟨_,List.getElem?_eq_getElem hkl⟩
   have hxI:b.guards.l[((k:Nat):Int).toNat]? = some x:=hx
   have hxb:b.b.guards[k]? = some x.b:=by simp[Box.b,hx]
   have hxo:=hbo.line x (List.mem_of_getElem? hx)
   have hxt:=hbt.guards x (List.mem_of_getElem? hx)
   have hxp:x.port.length<=1048576:=hxt.port
   have hs:=hl.some_iff (s:=x.port)
   (try (conv=>whnf));repeat' (first|(refine⟨_,_,_,_,_,_,_,_,mtSI,(by first|exact .head _|exact .tail _ (.head _)|exact .tail _ (.tail _ (.head _))|exact .tail _ (.tail _ (.tail _ (.head _)))|exact List.mem_append_left _ (by assumption)),rfl,?_⟩;conv=>whnf)|refine OkM.seq ?_|((first|refine OkM.region tok ?_|refine OkM.of_ok (Ok.region_draw tok follows (by kernel_rfl) ?_)|refine OkM.cond ?_);conv=>whnf)|refine OkM.block ?_|((first|refine OkM.skip ?_|refine OkM.ret ?_|refine nI ?_|refine ix _ (by assumption) ?_);conv=>whnf)|(refine Or.inl ?_;(conv=>whnf);refine Or.inl ?_;(conv=>whnf);(repeat (refine aI ?_;conv=>whnf));refine⟨_,right_at cf hf b g x.mtch.l rfl hxo.mtch hxt.mtch,rfl,?_⟩;conv=>whnf)|(refine bI ?_ ?_<;>intro<;>(conv=>whnf)<;>(try (exfalso;omega)))|(refine aJ ?_;conv=>whnf)|fail)
   . rename_i hp
     have hp:x.b.port ∉ b.b.ins++b.b.outs:=fun h=>hp (hs.2 h)
     rw[firstE_bad hxb (by rw[guardE_unk hp];simp),guardE_unk hp] at hfe
     refine Or.inl ?_;(conv=>whnf)
     refine⟨?_,rfl⟩
     rw[show doesE cf.b [] b.b=orE _ _ from rfl,hfe,orE_l _ (by simp)]
     rfl
   . rename_i hp hm
     have hp:x.b.port ∈ b.b.ins++b.b.outs:=hs.1 (Classical.not_not.1 hp)
     rw[firstE_bad hxb (by rw[guardE_bad hp hm];simp),guardE_bad hp hm] at hfe
     refine Or.inl ?_;(conv=>whnf)
     refine⟨?_,rfl⟩
     rw[show doesE cf.b [] b.b=orE _ _ from rfl,hfe,orE_l _ (by simp)]
     rfl
   . rename_i hp hm
     have hp:x.b.port ∈ b.b.ins++b.b.outs:=hs.1 (Classical.not_not.1 hp)
     have hm:¬ chkE (fds cf.b.fields) (nds x.b.mtch) ≠ 0:=hm
     rw[firstE_ok hxb (by rw[guardE_ok hp hm])] at hfe
     refine⟨k+1,by omega,⟨by omega,hfe⟩,.refl _,?_⟩
     (conv=>whnf)
     rfl
 obtain rfl:k=b.guards.l.length:=by omega
 rw[firstE_nil (by simp[Box.b])] at hfe
 (try (conv=>whnf));repeat' (first|refine OkM.seq ?_|((first|refine OkM.region tok ?_|refine OkM.cond ?_);conv=>whnf)|refine OkM.block ?_|(refine OkM.exit ?_;conv=>whnf)|(refine bI ?_ ?_<;>intro<;>(conv=>whnf)<;>(try (exfalso;omega)))|fail)
 refine OkM.loopU [1,57,58] [59] 0 1 (fun (k:Nat)=>[.i .i64 (k:Nat)]) (fun _ b=>b) (fun _ r=>r) (fun (k:Nat)=>[]) (fun (k:Nat)=>k<=b.rules.l.length/\firstE (ruleE cf.b b.b) [] b.b.rules=firstE (ruleE cf.b b.b) (b.b.rules.take k) (b.b.rules.drop k)) (fun (k:Nat)=>b.rules.l.length - k) (0) (⟨Nat.zero_le _,rfl⟩) (by first|exact .refl _|exact .cons _ (.refl _)|exact List.nil_sublist _) ?_;(conv=>whnf);refine⟨by ((conv=>whnf);first|rfl|(simp[envCat, List.take_of_length_le, SI.row, Node.row, Pfx.row, Link.row, srow, Line.row, Rule.row, Box.row, Slc.row, Config.row];done)|(simp[envCat, List.take_of_length_le, SI.row, Node.row, Pfx.row, Link.row, srow, Line.row, Rule.row, Box.row, Slc.row, Config.row];rw[IntKind.wrap_i64];omega)),?_⟩
 rintro k ⟨hk,hfe1⟩
 (conv=>whnf)
 by_cases hkl:k<b.rules.l.length
 . obtain⟨x,hx⟩:∃ x,b.rules.l[k]? = some x:=⟨_,List.getElem?_eq_getElem hkl⟩
   have hxI:b.rules.l[((k:Nat):Int).toNat]? = some x:=hx
   have hxb:b.b.rules[k]? = some x.b:=by simp[Box.b,hx]
   have hmt:((b.rules.l.map Rule.row++b.rules.room).take k).drop 0=(b.rules.l.take k).map Rule.row:=by rw[List.drop_zero,List.take_append_of_le_length (by omega),List.map_take]
   have hxo:=hbo.rule x (List.mem_of_getElem? hx)
   have hxt:=hbt.rules x (List.mem_of_getElem? hx)
   have hit:=Lib.itoa_length_le x.prio hxt.prio.1 hxt.prio.2
   have hpm:(b.rules.l.take k).map Rule.b=b.b.rules.take k:=by simp[Box.b,List.map_take]
   have hsp:=mrule_at hW cf hf hh b g l ck hl (b.rules.l.take k) x hxo hxt (rl:=((b.rules.l.map Rule.row++b.rules.room).take k).drop 0) (r0:=(b.rules.l.map Rule.row++b.rules.room).drop k) hmt (by rw[List.length_take];omega)
   (try (conv=>whnf));repeat' (first|(refine Or.inr ?_;(conv=>whnf);(repeat (refine aI ?_;conv=>whnf));refine⟨_,hsp.more (fun x hx=>List.mem_append_left _ hx),?_⟩;rintro _ _ _ ⟨⟨rfl,rfl⟩,rfl⟩<;>(conv=>whnf))|refine OkM.seq ?_|((first|refine OkM.region tok ?_|refine OkM.region_tree (id:=13) tok follows [(0,7,[]),(1,7,[]),(4,7,[6])] (.q 0 (.q 1 (.q 2 (.q 3 (.q 4 (.q 5 (.q 6 (.l 7 (.q 8 .nil))))))))) (by kernel_rfl) ?_|refine OkM.of_ok (Ok.region_draw tok follows (by kernel_rfl) ?_)|refine OkM.cond ?_);conv=>whnf)|refine OkM.block ?_|((first|refine OkM.skip ?_|refine OkM.ret ?_|refine nI ?_|refine ix _ (by assumption) ?_|refine⟨_,hI x.prio hxt.prio.1 hxt.prio.2,rfl,?_⟩|refine⟨_,_,rfl,rfl,?_⟩);conv=>whnf)|(refine bI ?_ ?_<;>intro<;>(conv=>whnf)<;>(try (exfalso;omega)))|(refine aJ ?_;conv=>whnf)|fail)
   . rename_i he
     have ht:=(told_split (f:=ruleE cf.b b.b) (t:=b.b.name++[32,114,117,108,101,32]++Lib.itoa x.prio) hxb (by rw[<- hpm];rfl)).1 he
     rw[ht] at hfe1
     refine Or.inl ?_;(conv=>whnf)
     refine⟨?_,rfl⟩
     rw[show doesE cf.b [] b.b=orE (firstE (guardE cf.b b.b) [] b.b.guards) (orE (firstE (ruleE cf.b b.b) [] b.b.rules) (orE (firstE (ownE cf.b b.b) [] b.b.owns) (firstE (routE cf.b b.b) [] b.b.routes))) from rfl,hfe,orE_r _ rfl,hfe1,orE_l _ he]
     rfl
   . rename_i he
     have ht:=(told_split (f:=ruleE cf.b b.b) (t:=b.b.name++[32,114,117,108,101,32]++Lib.itoa x.prio) hxb (by rw[<- hpm];rfl)).2 (Classical.not_not.1 he)
     rw[ht] at hfe1
     refine⟨k+1,by omega,⟨by omega,hfe1⟩,.refl _,?_⟩
     (conv=>whnf)
     rfl
 obtain rfl:k=b.rules.l.length:=by omega
 rw[firstE_nil (by simp[Box.b])] at hfe1
 (try (conv=>whnf));repeat' (first|refine OkM.seq ?_|((first|refine OkM.region tok ?_|refine OkM.cond ?_);conv=>whnf)|refine OkM.block ?_|(refine OkM.exit ?_;conv=>whnf)|(refine bI ?_ ?_<;>intro<;>(conv=>whnf)<;>(try (exfalso;omega)))|fail)
 refine OkM.loopU [1,86,87] [88] 0 1 (fun (k:Nat)=>[.i .i64 (k:Nat)]) (fun _ b=>b) (fun _ r=>r) (fun (k:Nat)=>[]) (fun (k:Nat)=>k<=b.owns.l.length/\firstE (ownE cf.b b.b) [] b.b.owns=firstE (ownE cf.b b.b) (b.b.owns.take k) (b.b.owns.drop k)) (fun (k:Nat)=>b.owns.l.length - k) (0) (⟨Nat.zero_le _,rfl⟩) (by first|exact .refl _|exact .cons _ (.refl _)|exact List.nil_sublist _) ?_;(conv=>whnf);refine⟨by ((conv=>whnf);first|rfl|(simp[envCat, List.take_of_length_le, SI.row, Node.row, Pfx.row, Link.row, srow, Line.row, Rule.row, Box.row, Slc.row, Config.row];done)|(simp[envCat, List.take_of_length_le, SI.row, Node.row, Pfx.row, Link.row, srow, Line.row, Rule.row, Box.row, Slc.row, Config.row];rw[IntKind.wrap_i64];omega)),?_⟩
 rintro k ⟨hk,hfe2⟩
 (conv=>whnf)
 by_cases hkl:k<b.owns.l.length
 . obtain⟨x,hx⟩:∃ x,b.owns.l[k]? = some x:=⟨_,List.getElem?_eq_getElem hkl⟩
   have hxI:b.owns.l[((k:Nat):Int).toNat]? = some x:=hx
   have hxb:b.b.owns[k]? = some x:=by simp[Box.b,hx]
   have hmt:((b.owns.l.map Pfx.row++b.owns.room).take k).drop 0=(b.owns.l.take k).map Pfx.row:=by rw[List.drop_zero,List.take_append_of_le_length (by omega),List.map_take]
   have hsp:=mprefix_at cf hh b g l ck hl (b.owns.l.take k) x (rl:=((b.owns.l.map Pfx.row++b.owns.room).take k).drop 0) (r:=(b.owns.l.map Pfx.row++b.owns.room).drop k) hmt (by rw[List.length_take];omega)
   (try (conv=>whnf));repeat' (first|(refine Or.inr ?_;(conv=>whnf);(repeat (refine aI ?_;conv=>whnf));refine⟨_,hsp.more (fun x hx=>List.mem_append_left _ hx),?_⟩;rintro _ _ _ ⟨⟨rfl,rfl⟩,rfl⟩<;>(conv=>whnf))|refine OkM.seq ?_|((first|refine OkM.region tok ?_|refine OkM.region_tree (id:=20) tok follows [(0,7,[]),(1,7,[]),(4,7,[6])] (.q 0 (.q 1 (.q 2 (.q 3 (.q 4 (.q 5 (.q 6 (.l 7 (.q 8 .nil))))))))) (by kernel_rfl) ?_|refine OkM.of_ok (Ok.region_draw tok follows (by kernel_rfl) ?_)|refine OkM.cond ?_);conv=>whnf)|refine OkM.block ?_|((first|refine OkM.skip ?_|refine OkM.ret ?_|refine nI ?_|refine ix _ (by assumption) ?_|refine⟨_,_,rfl,rfl,?_⟩);conv=>whnf)|(refine bI ?_ ?_<;>intro<;>(conv=>whnf)<;>(try (exfalso;omega)))|(refine aJ ?_;conv=>whnf)|fail)
   . rename_i he
     have ht:=(told_split (f:=ownE cf.b b.b) (t:=b.b.name++[32,111,119,110]) hxb rfl).1 he
     rw[ht] at hfe2
     refine Or.inl ?_;(conv=>whnf)
     refine⟨?_,rfl⟩
     rw[show doesE cf.b [] b.b=orE (firstE (guardE cf.b b.b) [] b.b.guards) (orE (firstE (ruleE cf.b b.b) [] b.b.rules) (orE (firstE (ownE cf.b b.b) [] b.b.owns) (firstE (routE cf.b b.b) [] b.b.routes))) from rfl,hfe,orE_r _ rfl,hfe1,orE_r _ rfl,hfe2,orE_l _ he]
     rfl
   . rename_i he
     have ht:=(told_split (f:=ownE cf.b b.b) (t:=b.b.name++[32,111,119,110]) hxb rfl).2 (Classical.not_not.1 he)
     rw[ht] at hfe2
     refine⟨k+1,by omega,⟨by omega,hfe2⟩,.refl _,?_⟩
     (conv=>whnf)
     rfl
 obtain rfl:k=b.owns.l.length:=by omega
 rw[firstE_nil (by simp[Box.b])] at hfe2
 (try (conv=>whnf));repeat' (first|refine OkM.seq ?_|((first|refine OkM.region tok ?_|refine OkM.cond ?_);conv=>whnf)|refine OkM.block ?_|(refine OkM.exit ?_;conv=>whnf)|(refine bI ?_ ?_<;>intro<;>(conv=>whnf)<;>(try (exfalso;omega)))|fail)
 refine OkM.loopU [1,111,112] [113] 0 1 (fun (k:Nat)=>[.i .i64 (k:Nat)]) (fun _ b=>b) (fun _ r=>r) (fun (k:Nat)=>[]) (fun (k:Nat)=>k<=b.routes.l.length/\firstE (routE cf.b b.b) [] b.b.routes=firstE (routE cf.b b.b) (b.b.routes.take k) (b.b.routes.drop k)) (fun (k:Nat)=>b.routes.l.length - k) (0) (⟨Nat.zero_le _,rfl⟩) (by first|exact .refl _|exact .cons _ (.refl _)|exact List.nil_sublist _) ?_;(conv=>whnf);refine⟨by ((conv=>whnf);first|rfl|(simp[envCat, List.take_of_length_le, SI.row, Node.row, Pfx.row, Link.row, srow, Line.row, Rule.row, Box.row, Slc.row, Config.row];done)|(simp[envCat, List.take_of_length_le, SI.row, Node.row, Pfx.row, Link.row, srow, Line.row, Rule.row, Box.row, Slc.row, Config.row];rw[IntKind.wrap_i64];omega)),?_⟩
 rintro k ⟨hk,hfe3⟩
 (conv=>whnf)
 by_cases hkl:k<b.routes.l.length
 . obtain⟨x,hx⟩:∃ x,b.routes.l[k]? = some x:=⟨_,List.getElem?_eq_getElem hkl⟩
   have hxI:b.routes.l[((k:Nat):Int).toNat]? = some x:=hx
   have hxb:b.b.routes[k]? = some x:=by simp[Box.b,hx]
   have hmt:((b.routes.l.map Pfx.row++b.routes.room).take k).drop 0=(b.routes.l.take k).map Pfx.row:=by rw[List.drop_zero,List.take_append_of_le_length (by omega),List.map_take]
   have hsp:=mprefix_at cf hh b g l ck hl (b.routes.l.take k) x (rl:=((b.routes.l.map Pfx.row++b.routes.room).take k).drop 0) (r:=(b.routes.l.map Pfx.row++b.routes.room).drop k) hmt (by rw[List.length_take];omega)
   (try (conv=>whnf));repeat' (first|(refine Or.inr ?_;(conv=>whnf);(repeat (refine aI ?_;conv=>whnf));refine⟨_,hsp.more (fun x hx=>List.mem_append_left _ hx),?_⟩;rintro _ _ _ ⟨⟨rfl,rfl⟩,rfl⟩<;>(conv=>whnf))|refine OkM.seq ?_|((first|refine OkM.region tok ?_|refine OkM.region_tree (id:=27) tok follows [(0,7,[]),(1,7,[]),(4,7,[6])] (.q 0 (.q 1 (.q 2 (.q 3 (.q 4 (.q 5 (.q 6 (.l 7 (.q 8 .nil))))))))) (by kernel_rfl) ?_|refine OkM.of_ok (Ok.region_draw tok follows (by kernel_rfl) ?_)|refine OkM.cond ?_);conv=>whnf)|refine OkM.block ?_|((first|refine OkM.skip ?_|refine OkM.ret ?_|refine nI ?_|refine ix _ (by assumption) ?_|refine⟨_,_,rfl,rfl,?_⟩);conv=>whnf)|(refine bI ?_ ?_<;>intro<;>(conv=>whnf)<;>(try (exfalso;omega)))|(refine aJ ?_;conv=>whnf)|fail)
   . rename_i he
     have ht:=(told_split (f:=routE cf.b b.b) (t:=b.b.name++[32,114,111,117,116,101]) hxb rfl).1 he
     rw[ht] at hfe3
     refine Or.inl ?_;(conv=>whnf)
     refine⟨?_,rfl⟩
     rw[show doesE cf.b [] b.b=orE (firstE (guardE cf.b b.b) [] b.b.guards) (orE (firstE (ruleE cf.b b.b) [] b.b.rules) (orE (firstE (ownE cf.b b.b) [] b.b.owns) (firstE (routE cf.b b.b) [] b.b.routes))) from rfl,hfe,orE_r _ rfl,hfe1,orE_r _ rfl,hfe2,orE_r _ rfl,hfe3]
     rfl
   . rename_i he
     have ht:=(told_split (f:=routE cf.b b.b) (t:=b.b.name++[32,114,111,117,116,101]) hxb rfl).2 (Classical.not_not.1 he)
     rw[ht] at hfe3
     refine⟨k+1,by omega,⟨by omega,hfe3⟩,.refl _,?_⟩
     (conv=>whnf)
     rfl
 obtain rfl:k=b.routes.l.length:=by omega
 rw[firstE_nil (by simp[Box.b])] at hfe3
 (try (conv=>whnf));repeat' (first|refine OkM.seq ?_|((first|refine OkM.region tok ?_|refine OkM.cond ?_|refine OkM.exit ?_|refine OkM.ret ?_);conv=>whnf)|(refine bI ?_ ?_<;>intro<;>(conv=>whnf)<;>(try (exfalso;omega)))|fail)
 refine Or.inl ?_;(conv=>whnf)
 refine⟨?_,rfl⟩
 rw[show doesE cf.b [] b.b=orE (firstE (guardE cf.b b.b) [] b.b.guards) (orE (firstE (ruleE cf.b b.b) [] b.b.rules) (orE (firstE (ownE cf.b b.b) [] b.b.owns) (firstE (routE cf.b b.b) [] b.b.routes))) from rfl,hfe,orE_r _ rfl,hfe1,orE_r _ rfl,hfe2,orE_r _ rfl,hfe3]
 rfl
end Go.Proofs.YtcglkonooeddfaaGreatDoor
namespace Go.Proofs.YtcglkonooeddfaaGreatDoor
open Go Go.Vx
theorem PMap.nil:PMap [] []:=⟨fun _ _=>rfl,fun k s h=>by simp at h⟩
theorem PMap.put{l:List (Str × Int × Nat)}{ps:List Str}{j:Nat}{s:Str}(h:PMap l (ps.take j))(hs:ps[j]? = some s)(hn:s ∉ ps.take j)(c:Nat)(a:Int)(ha:a=(j:Nat)):PMap (mput l c s a).1 (ps.take (j+1)):=by
 subst ha
 have htk:ps.take (j+1)=ps.take j++[s]:=by rw[List.take_add_one,hs];rfl
 have hjl:=(List.getElem?_eq_some_iff.1 hs).1
 have hl:(ps.take j).length=j:=by rw[List.length_take];omega
 rw[htk]
 refine⟨fun t ht=>?_,fun k t hk=>?_⟩
 . have hts:¬ t=s:=fun e=>ht (by rw[e];simp)
   rw[mput_lk,if_neg hts]
   exact h.1 t fun g=>ht (List.mem_append_left _ g)
 . rw[mput_lk]
   by_cases hkj:k<j
   . rw[List.getElem?_append_left (by omega)] at hk
     have hts:¬ t=s:=fun e=>hn (by rw[<- e];exact List.mem_of_getElem? hk)
     rw[if_neg hts]
     exact h.2 k t hk
   . rw[List.getElem?_append_right (by omega),hl] at hk
     obtain⟨h1,h2⟩:=List.getElem?_eq_some_iff.1 hk
     simp at h1
     have:k=j:=by omega
     subst this
     simp at h2
     subst h2
     rw[if_pos rfl]
theorem ports_new{n:Str}{ps:List Str}(h:(firstE (portE n) [] ps).1=0){j:Nat}{s:Str}(hs:ps[j]? = some s):MName s/\s ∉ ps.take j:=by
 have h0:=firstE_zero h j s hs
 by_cases hm:MName s
 . refine⟨hm,fun hp=>?_⟩
   rw[portE_dbl hm hp] at h0
   cases h0
 . rw[portE_bad hm] at h0
   cases h0
theorem names_ok{c:ConfigB}(h:(nameO c).1=0){i:Nat}{b:BoxB}(hb:c.boxes[i]? = some b):MName b.name/\b.name ∉ (c.boxes.take i).map BoxB.name/\(firstE (portE b.name) [] (b.ins++b.outs)).1=0:=by
 have h0:=firstE_zero h i b hb
 by_cases hm:MName b.name
 . by_cases hd:b.name ∈ (c.boxes.take i).map BoxB.name
   . rw[boxE_dbl hm hd] at h0;cases h0
   . rw[boxE_ok hm hd] at h0;exact⟨hm,hd,h0⟩
 . rw[boxE_bad hm] at h0;cases h0
end Go.Proofs.YtcglkonooeddfaaGreatDoor
