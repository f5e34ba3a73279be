/- The walks and the plain laws that a law of networks needs, part 4 of 7. -/
import Derived.Test.YtnlingegeangmaaGreatDoorQHC
import Derived.Shelf.Strings.Repeat
import Derived.Shelf.Strings.SlTrimAscii
import Derived.Test.YtnlingegeangmaaGreatDoorProg
import Derived.Ground.GgsProg
import Derived.Lib.ItoaNum
import Derived.Lib.ItoaLen
set_option linter.unusedVariables false
set_option linter.unusedSimpArgs false
set_option linter.unusedSectionVars false
set_option maxRecDepth 100000
set_option maxHeartbeats 16000000
namespace Go.Proofs.YtnlingegeangmaaGreatDoor
open Go Go.Vx
theorem and_i{p:Int->Prop}{a c:Int}{v k:Nat}(ha:a=(v:Int)/\v<9223372036854775808)(hc:c=(tw k:Int) - 1/\k<=62)(h:p ((v % tw k:Nat):Int)):∃ n,n=IntKind.i64.wrap ((BitVec.ofInt IntKind.i64.bits a &&& BitVec.ofInt IntKind.i64.bits c).toNat:Int)/\p n:=by
 obtain⟨rfl,hv⟩:=ha
 obtain⟨rfl,hk⟩:=hc
 refine⟨_,?_,h⟩
 have h2:=tw62 hk
 have hp:=tw_pos k
 have e1:BitVec.ofInt IntKind.i64.bits (v:Int)=BitVec.ofNat 64 v:=BitVec.ofInt_natCast ..
 have e2:BitVec.ofInt IntKind.i64.bits ((tw k:Int) - 1)=BitVec.ofNat 64 (tw k - 1):=by
  rw[show (tw k:Int) - 1=((tw k - 1:Nat):Int) by omega]
  exact BitVec.ofInt_natCast ..
 have e3:(BitVec.ofNat 64 v &&& BitVec.ofNat 64 (tw k - 1)).toNat=v % tw k:=by
  rw[BitVec.toNat_and,BitVec.toNat_ofNat,BitVec.toNat_ofNat,Nat.mod_eq_of_lt (show v<2 ^ 64 by omega),Nat.mod_eq_of_lt (show tw k - 1<2 ^ 64 by omega)]
  exact Nat.and_two_pow_sub_one_eq_mod v k
 rw[e1,e2]
 have key:∀ x:Nat,x=v % tw k->((v % tw k:Nat):Int)=IntKind.i64.wrap (x:Int):=by
  rintro x rfl
  rw[wrap_nat (by have:=Nat.mod_lt v hp;omega)]
 exact key _ e3
theorem and_1{p:Int->Prop}{a:Int}{v:Nat}(ha:a=(v:Int)/\v<9223372036854775808)(h:p ((v % 2:Nat):Int)):∃ n,n=IntKind.i64.wrap ((BitVec.ofInt IntKind.i64.bits a &&& BitVec.ofInt IntKind.i64.bits 1).toNat:Int)/\p n:=
 and_i (k:=1) ha ⟨rfl,by decide⟩ h
theorem and_1'{p:Int->Prop}{a c:Int}{v:Nat}(ha:a=(v:Int)/\v<9223372036854775808)(hc:c=1)(h:p ((v % 2:Nat):Int)):∃ n,n=IntKind.i64.wrap ((BitVec.ofInt IntKind.i64.bits a &&& BitVec.ofInt IntKind.i64.bits c).toNat:Int)/\p n:=by
 subst hc;exact and_1 ha h
theorem num_u8{x:Int}{p:Int->Prop}(h1:0<=x)(h2:x<=255)(h:p x):∃ n,n=IntKind.u8.wrap x/\p n:=⟨x,by rw[IntKind.wrap_u8];omega,h⟩
theorem bitC_nat(v k:Nat):((bitC v k).toNat:Int)=48+((v / 2 ^ k % 2:Nat):Int):=by
 unfold bitC
 split
 . rename_i h;rw[h];rfl
 . rename_i h
   have:v / 2 ^ k % 2=0:=by omega
   rw[this];rfl
theorem top_at(b:Nat)(hb:b<=62):FSpec Tryz.prog T 214 [.i .i64 (b:Nat)] (fun d _=>d = .i .i64 ((tw b:Int) - 1)):=by
 have h2:=tw62 hb
 have hk:((b:Nat):Int)=(b:Int)/\b<=62:=⟨rfl,hb⟩
 refine FSpec.of_ok tok Tryz.func214 rfl Tryz.call214 (by simp) ?_
 (try (conv=>whnf));repeat' (first|((with_reducible_and_instances refine shl_i (by assumption) ?_);conv=>whnf)|refine Ok.seq ?_|((first|refine Ok.region tok ?_|refine Ok.ret ?_|refine nI ?_|refine aJ ?_);conv=>whnf)|fail)
 refine Or.inl ?_;(conv=>whnf)
 rfl
end Go.Proofs.YtnlingegeangmaaGreatDoor
namespace Go.Proofs.YtnlingegeangmaaGreatDoor
open Go Go.Vx
def LayF(l:List Fd):Prop:=∀ f ∈ l,1<=f.bits/\f.bits<=32
def wid(l:List Fd):Nat:=(l.map fun f=>f.bits.toNat).sum
theorem wid_snoc{l:List Fd}{i:Nat}{c:Fd}(h:l[i]? = some c):wid (l.take (i+1))=wid (l.take i)+c.bits.toNat:=by
 unfold wid;rw[take_snoc h,List.map_append,List.sum_append];simp
theorem wid_le{l:List Fd}(h:LayF l):wid l<=32*l.length:=by
 induction l with
 | nil=>simp[wid]
 | cons f l ih=>
  have h1:=ih fun x hx=>h x (by simp[hx])
  have h2:=h f (by simp)
  simp only[wid,List.map_cons,List.sum_cons,List.length_cons] at h1 ⊢
  omega
theorem width_at(l:List Fd)(r:List (List D))(hl:l.length<=1000)(hf:LayF l):FSpec Tryz.prog T 213 [.lst 93 (l.map frow) r] (fun d _=>d = .i .i64 (wid l:Nat)):=by
 have h1:(l.map frow).length=l.length:=by simp
 have hw:=wid_le hf
 refine FSpec.of_ok tok Tryz.func213 rfl Tryz.call213 (by simp) ?_
 (try (conv=>whnf));repeat' (first|refine Ok.seq ?_|(refine Ok.region tok ?_;conv=>whnf)|refine Ok.block ?_|fail)
 refine Ok.loopU [6,7] [3,8] 0 0 (fun (i:Nat)=>[.i .i64 (wid (l.take i):Nat),.i .i64 (i:Nat)]) (fun _ b=>b) (fun _ r=>r) (fun (i:Nat)=>i<=l.length) (fun (i:Nat)=>l.length - i) (0) (Nat.zero_le _) ?_;(conv=>whnf);refine⟨by ((conv=>whnf);first|rfl|(simp[envCat,tkL0,nrow,frow,bcell];done)|(simp[envCat,tkL0,nrow,frow,bcell];rw[IntKind.wrap_i64];omega)),?_⟩
 intro i hi
 (conv=>whnf)
 by_cases hil:i<l.length
 . obtain⟨c,hc⟩:∃ c,l[i]? = some c:=⟨_,gEt0 hil⟩
   have hcI:l[((i:Nat):Int).toNat]? = some c:=hc
   have hcb:=hf c (mOf0 hc)
   have hsn:=wid_snoc hc
   have hwt:=wid_le (l:=l.take i) fun x hx=>hf x (List.mem_of_mem_take hx)
   have hti:(l.take i).length=i:=by simp;omega
   (try (conv=>whnf));repeat' (first|refine Ok.seq ?_|((first|refine Ok.region tok ?_|refine Ok.cond ?_);conv=>whnf)|refine Ok.block ?_|((first|refine Ok.skip ?_|refine nI ?_|refine ix _ (by assumption) ?_);conv=>whnf)|(refine bI ?_ ?_<;>intro<;>(conv=>whnf)<;>(try (exfalso;omega)))|fail)
   all_goals first
    | (exfalso;omega)
    | skip
   refine⟨i+1,by omega,by omega,?_⟩
   rw[hsn,show ((wid (l.take i)+c.bits.toNat:Nat):Int)=(wid (l.take i):Int)+c.bits by omega]
   (conv=>whnf)
   rfl
 . have hie:i=l.length:=by omega
   subst hie
   rw[List.take_length]
   (try (conv=>whnf));repeat' (first|refine Ok.seq ?_|((first|refine Ok.region tok ?_|refine Ok.cond ?_|refine Ok.exit ?_|refine Ok.ret ?_);conv=>whnf)|(refine bI ?_ ?_<;>intro<;>(conv=>whnf)<;>(try (exfalso;omega)))|fail)
   all_goals first
    | (exfalso;omega)
    | (refine Or.inl ?_;(conv=>whnf)
       rfl)
theorem binT_succ(v bits i:Nat):(binT v bits (i+1)).map bcell=(binT v bits i).map bcell++[bcell (bitC v (bits - 1 - i))]:=by
 unfold binT
 rw[List.range_succ,List.map_append,List.map_append]
 rfl
def fillT(v bits n i:Nat):Str:=binT v bits i++List.replicate (n - i) 0
theorem fillT_len{v bits n i:Nat}(h:i<=n):(fillT v bits n i).length=n:=by simp[fillT,binT_len];omega
theorem fillT_set{v bits n i:Nat}(h:i<n):((fillT v bits n i).map bcell).set i (bcell (bitC v (bits - 1 - i)))=(fillT v bits n (i+1)).map bcell:=by
 unfold fillT
 obtain⟨m,hm⟩:∃ m,n - i=m+1:=⟨n - i - 1,by omega⟩
 rw[hm,show n - (i+1)=m by omega,List.replicate_succ,List.map_append,List.map_append,binT_succ,List.set_append_right _ _ (by simp[binT_len])]
 simp[binT_len]
theorem getElem_bcell{l:Str}{i:Nat}{b:UInt8}(h:l[i]? = some b):(l.map bcell)[i]? = some (bcell b):=by simp[h]
theorem bits_pos{v k:Nat}(hv:v<9223372036854775808):v / tw k<9223372036854775808:=Nat.lt_of_le_of_lt (Nat.div_le_self _ _) hv
theorem mod2(v k:Nat):v / tw k % 2<=1:=by omega
theorem binary_at(v bits n:Nat)(hv:v<9223372036854775808)(hb:bits<=62)(hn:n<=bits):FSpec Tryz.prog T 215 [.i .i64 (v:Nat),.i .i64 (bits:Nat),.i .i64 (n:Nat)] (fun d _=>d = .s (binT v bits n)):=by
 refine FSpec.of_ok tok Tryz.func215 rfl Tryz.call215 (by simp) ?_
 (try (conv=>whnf));repeat' (first|refine Ok.seq ?_|(refine Ok.region tok ?_;conv=>whnf)|refine Ok.block ?_|((first|refine⟨_,_,rfl,rfl,?_⟩|refine aJ ?_|refine⟨_,rfl,?_⟩);conv=>whnf)|fail)
 rw[show List.replicate n [D.i .u8 0]=(fillT v bits n 0).map bcell by simp[fillT,binT,bcell]]
 refine Ok.loopU [0,1,7,12] [13] 1 0 (fun (i:Nat)=>[.i .i64 (i:Nat)]) (fun _ b=>b) (fun (i:Nat) (_:Vx.Rows)=>[some (5,(fillT v bits n i).map bcell)]) (fun (i:Nat)=>i<=n) (fun (i:Nat)=>n - i) (0) (Nat.zero_le _) ?_;(conv=>whnf);refine⟨by ((conv=>whnf);first|rfl|(simp[envCat,tkL0,nrow,frow,bcell];done)|(simp[envCat,tkL0,nrow,frow,bcell];rw[IntKind.wrap_i64];omega)),?_⟩
 intro i hi
 have hll:=fillT_len (v:=v) (bits:=bits) hi
 have hlm:((fillT v bits n i).map bcell).length=n:=by rw[lMp0,hll]
 (conv=>whnf)
 by_cases hil:i<n
 . have hfs:=fillT_set (v:=v) (bits:=bits) hil
   have hfa:(fillT v bits n i)[i]? = some 0:=by
    unfold fillT
    rw[List.getElem?_append_right (by rw[binT_len];exact Nat.le_refl _),binT_len,Nat.sub_self,List.getElem?_replicate,if_pos (by omega)]
   have hsh:((bits:Int) - 1 - (i:Int))=((bits - 1 - i:Nat):Int)/\bits - 1 - i<=62:=by omega
   have hm2:=mod2 v (bits - 1 - i)
   have hbc:=bitC_nat v (bits - 1 - i)
   (try (conv=>whnf));repeat' (first|((first|with_reducible_and_instances refine shr_i rfl (by assumption) ?_|refine and_1' ⟨rfl,bits_pos hv⟩ rfl ?_|with_reducible_and_instances refine num_u8 (by omega) (by omega) ?_);conv=>whnf)|refine Ok.seq ?_|((first|refine Ok.region tok ?_|refine Ok.cond ?_);conv=>whnf)|refine Ok.block ?_|((first|refine Ok.skip ?_|refine nI ?_);conv=>whnf)|(refine bI ?_ ?_<;>intro<;>(conv=>whnf)<;>(try (exfalso;omega)))|(refine aJ ?_;conv=>whnf)|fail)
   all_goals first
    | (exfalso;omega)
    | skip
   refine⟨_,getElem_bcell hfa,by simp[bcell],_,rfl,?_⟩
   (conv=>whnf)
   (try (conv=>whnf));repeat' (first|((first|refine Ok.region tok ?_|refine nI ?_);conv=>whnf)|fail)
   refine⟨i+1,by omega,by omega,?_⟩
   rw[<- hfs,show bcell (bitC v (bits - 1 - i))=[.i .u8 (48+((v / tw (bits - 1 - i) % 2:Nat):Int))] by unfold bcell;rw[hbc];rfl]
   (conv=>whnf)
   rfl
 . have hie:i=n:=by omega
   subst hie
   have hfe:fillT v bits i i=binT v bits i:=by simp[fillT]
   (try (conv=>whnf));repeat' (first|(refine⟨binT v bits i,by rw[tkL0 (by omega),hfe],?_⟩;conv=>whnf)|refine Ok.seq ?_|((first|refine Ok.region tok ?_|refine Ok.cond ?_|refine Ok.exit ?_|refine Ok.ret ?_);conv=>whnf)|(refine bI ?_ ?_<;>intro<;>(conv=>whnf)<;>(try (exfalso;omega)))|(refine aJ ?_;conv=>whnf)|fail)
   all_goals first
    | (exfalso;omega)
    | (refine Or.inl ?_;(conv=>whnf)
       rfl)
end Go.Proofs.YtnlingegeangmaaGreatDoor
namespace Go.Vx
open Go.RowKit Go.Shelf Go.Proofs
theorem FSpec.of_text{P:Program}{T:Tab}{f:FuncId}{ds:List D}{l:List UInt8}(hcall:∀ args w,(callFunc f args).run P w = .ok (.enter f args) w)
    (h:∀ (V:Vw) (w:World) (args:Array Value),args.size=ds.length->(∀ (j:Nat) v d,args[j]? = some v->ds[j]? = some d->RI (szOf T) V v d)->Calls P f args w fun q w'=>
     q = .returned (.string ⟨l.toArray⟩)/\Below w.heap.size w w') :
    FSpec P T f ds fun d _=>d = .s l:=by
 refine⟨hcall,fun V w args hV hl hR=>(h V w args hl hR).mono ?_⟩
 rintro q w' ⟨rfl,hb⟩
 exact⟨V,[],[],_,_,rfl,rfl,.imm _ _ (.s l),hb,fun _ _ h=>h,hV.ext hb,fun _ _=>rfl,rfl,by simp,by simp,by simp⟩
theorem str_arg{sz:TypeId->Nat}{V:Vw}{v:Value}{l:List UInt8}(h:RI sz V v (.s l)):v = .string ⟨l.toArray⟩:=by cases h;rfl
theorem int_arg{sz:TypeId->Nat}{V:Vw}{v:Value}{k:IntKind}{n:Int}(h:RI sz V v (.i k n)):v = .int k n:=by cases h;rfl
theorem args2{args:Array Value}{x y:Value}(h:args.size=2)(h0:args[0]? = some x)(h1:args[1]? = some y):args=#[x,y]:=by
 apply Array.ext' 
 apply List.ext_getElem?
 intro i
 match i with
 | 0=>simpa using h0
 | 1=>simpa using h1
 | i+2=>simp;omega
theorem args_two{sz:TypeId->Nat}{V:Vw}{args:Array Value}{a b:D}(hl:args.size=2)(hR:∀ (j:Nat) v d,args[j]? = some v->[a,b][j]? = some d->RI sz V v d):∃ x y,args=#[x,y]/\RI sz V x a/\RI sz V y b:=by
 have h0:args[0]? = some args[0]:=Array.getElem?_eq_getElem (by omega)
 have h1:args[1]? = some args[1]:=Array.getElem?_eq_getElem (by omega)
 exact⟨_,_,args2 hl h0 h1,hR 0 _ _ h0 rfl,hR 1 _ _ h1 rfl⟩
theorem repeat_at{P:Program}{T:Tab}{ρ:Ren}(L:Lays.n105 P ρ)(X:Builder.Extra P ρ)(hc:∀ args w,(callFunc (ρ.f 105) args).run P w = .ok (.enter (ρ.f 105) args) w)(s:List UInt8)(c:Nat)(h:s.length*c<=140737488355328)(hcc:c<=9223372036854775807) :
    FSpec P T (ρ.f 105) [.s s,.i .i64 (c:Nat)] fun d _=>d = .s (Lib.repeatL s c):=by
 refine .of_text hc fun V w args hl hR=>?_
 obtain⟨x,y,rfl,hx,hy⟩:=args_two hl hR
 rw[str_arg hx,int_arg hy]
 exact Any.strings_Repeat L X ⟨s.toArray⟩ c w hcc (by simpa[ByteArray.size] using h)
theorem trim_at{P:Program}{T:Tab}{ρ:Ren}(L:Lays.n160 P ρ)(h116:(P.info? (ρ.t 116)).map (fun i=>(i.zero,i.size))=some (some (.agg (Array.replicate 256 (.bool false))),256))(hc:∀ args w,(callFunc (ρ.f 160) args).run P w = .ok (.enter (ρ.f 160) args) w)(s cs:List UInt8)
    (hs:s.length<=9223372036854775807)(hcs:cs.length<4294967281)(ha:cs.all (fun b=>decide (b.toNat<128))=true):FSpec P T (ρ.f 160) [.s s,.s cs] fun d _=>d = .s (Lib.trimS s cs):=by
 refine .of_text hc fun V w args hl hR=>?_
 obtain⟨x,y,rfl,hx,hy⟩:=args_two hl hR
 rw[str_arg hx,str_arg hy]
 exact Any.strings_Trim_laid L h116 ⟨s.toArray⟩ ⟨cs.toArray⟩ w (by simpa[ByteArray.size] using hs) (by simpa[ByteArray.size] using hcs) (ascii_of_all ha)
end Go.Vx
namespace Go.Proofs
open Go.Shelf
def Tryz.vxRep_ren:Go.Shelf.Ren:=⟨fun|105=>212|212=>231|99=>232|165=>233|166=>234|170=>235|169=>236|263=>249|264=>250|206=>251|240=>252|241=>253|276=>272|277=>273|n=>n,fun|9=>9|3=>3|4=>4|20=>20|0=>0|46=>253|109=>334|5=>5|72=>339|76=>343|51=>283|146=>358|53=>285|148=>360|70=>337|37=>302|75=>342|127=>362|164=>244|80=>345|n=>n,fun|n=>n⟩
theorem Tryz.vxRep:Go.Proofs.Lays.n105 Tryz.prog Tryz.vxRep_ren:={
 mixed:=by kernel_rfl
 f99:=Tryz.func232.trans (congrArg some (by kernel_rfl))
 f105:=Tryz.func212.trans (congrArg some (by kernel_rfl))
 f165:=Tryz.func233.trans (congrArg some (by kernel_rfl))
 f166:=Tryz.func234.trans (congrArg some (by kernel_rfl))
 f169:=Tryz.func236.trans (congrArg some (by kernel_rfl))
 f170:=Tryz.func235.trans (congrArg some (by kernel_rfl))
 f206:=Tryz.func251.trans (congrArg some (by kernel_rfl))
 f212:=Tryz.func231.trans (congrArg some (by kernel_rfl))
 f240:=Tryz.func252.trans (congrArg some (by kernel_rfl))
 f241:=Tryz.func253.trans (congrArg some (by kernel_rfl))
 f263:=Tryz.func249.trans (congrArg some (by kernel_rfl))
 f264:=Tryz.func250.trans (congrArg some (by kernel_rfl))
 f276:=Tryz.func272.trans (congrArg some (by kernel_rfl))
 f277:=Tryz.func273.trans (congrArg some (by kernel_rfl))
 t0:=Tryz.underlying0
 a0:=Tryz.isAgg0
 z0:=Tryz.sizeOf0
 v0:=Tryz.zeroValue0
 t3:=Tryz.underlying3
 a3:=Tryz.isAgg3
 z3:=Tryz.sizeOf3
 v3:=Tryz.zeroValue3
 t4:=Tryz.underlying4
 a4:=Tryz.isAgg4
 z4:=Tryz.sizeOf4
 v4:=Tryz.zeroValue4
 t5:=Tryz.underlying5
 a5:=Tryz.isAgg5
 z5:=Tryz.sizeOf5
 v5:=Tryz.zeroValue5
 t9:=Tryz.underlying9
 a9:=Tryz.isAgg9
 z9:=Tryz.sizeOf9
 v9:=Tryz.zeroValue9
 t20:=Tryz.underlying20
 a20:=Tryz.isAgg20
 z20:=Tryz.sizeOf20
 v20:=Tryz.zeroValue20
 t37:=Tryz.underlying302
 a37:=Tryz.isAgg302
 z37:=Tryz.sizeOf302
 v37:=Tryz.zeroValue302
 t46:=Tryz.underlying253
 a46:=Tryz.isAgg253
 z46:=Tryz.sizeOf253
 v46:=Tryz.zeroValue253
 t51:=Tryz.underlying283
 a51:=Tryz.isAgg283
 z51:=Tryz.sizeOf283
 v51:=Tryz.zeroValue283
 t53:=Tryz.underlying285
 a53:=Tryz.isAgg285
 z53:=Tryz.sizeOf285
 v53:=Tryz.zeroValue285
 t70:=Tryz.underlying337
 a70:=Tryz.isAgg337
 z70:=Tryz.sizeOf337
 v70:=Tryz.zeroValue337
 t72:=Tryz.underlying339
 a72:=Tryz.isAgg339
 z72:=Tryz.sizeOf339
 v72:=Tryz.zeroValue339
 t75:=Tryz.underlying342
 a75:=Tryz.isAgg342
 z75:=Tryz.sizeOf342
 v75:=Tryz.zeroValue342
 t76:=Tryz.underlying343
 a76:=Tryz.isAgg343
 z76:=Tryz.sizeOf343
 v76:=Tryz.zeroValue343
 t109:=Tryz.underlying334
 a109:=Tryz.isAgg334
 z109:=Tryz.sizeOf334
 v109:=Tryz.zeroValue334
 t127:=Tryz.underlying362
 a127:=Tryz.isAgg362
 z127:=Tryz.sizeOf362
 v127:=Tryz.zeroValue362
 t146:=Tryz.underlying358
 a146:=Tryz.isAgg358
 z146:=Tryz.sizeOf358
 v146:=Tryz.zeroValue358
 t148:=Tryz.underlying360
 a148:=Tryz.isAgg360
 z148:=Tryz.sizeOf360
 v148:=Tryz.zeroValue360
 t164:=Tryz.underlying244
 a164:=Tryz.isAgg244
 z164:=Tryz.sizeOf244
 v164:=Tryz.zeroValue244 }
def Tryz.vxTrim_ren:Go.Shelf.Ren:=⟨fun|160=>241|232=>259|231=>258|227=>260|234=>262|233=>261|236=>264|235=>263|228=>276|271=>279|151=>278|197=>277|120=>286|152=>285|260=>284|137=>288|119=>289|224=>290|225=>291|217=>292|266=>293|n=>n,fun|9=>9|4=>4|3=>3|5=>5|117=>370|116=>369|0=>0|124=>373|21=>21|105=>387|46=>253|119=>397|139=>400|138=>399|n=>n,fun|3=>6|4=>7|n=>n⟩
theorem Tryz.vxTrim:Go.Proofs.Lays.n160 Tryz.prog Tryz.vxTrim_ren:={
 mixed:=by kernel_rfl
 f119:=Tryz.func289.trans (congrArg some (by kernel_rfl))
 f120:=Tryz.func286.trans (congrArg some (by kernel_rfl))
 f137:=Tryz.func288.trans (congrArg some (by kernel_rfl))
 f151:=Tryz.func278.trans (congrArg some (by kernel_rfl))
 f152:=Tryz.func285.trans (congrArg some (by kernel_rfl))
 f160:=Tryz.func241.trans (congrArg some (by kernel_rfl))
 f197:=Tryz.func277.trans (congrArg some (by kernel_rfl))
 f217:=Tryz.func292.trans (congrArg some (by kernel_rfl))
 f224:=Tryz.func290.trans (congrArg some (by kernel_rfl))
 f225:=Tryz.func291.trans (congrArg some (by kernel_rfl))
 f227:=Tryz.func260.trans (congrArg some (by kernel_rfl))
 f228:=Tryz.func276.trans (congrArg some (by kernel_rfl))
 f231:=Tryz.func258.trans (congrArg some (by kernel_rfl))
 f232:=Tryz.func259.trans (congrArg some (by kernel_rfl))
 f233:=Tryz.func261.trans (congrArg some (by kernel_rfl))
 f234:=Tryz.func262.trans (congrArg some (by kernel_rfl))
 f235:=Tryz.func263.trans (congrArg some (by kernel_rfl))
 f236:=Tryz.func264.trans (congrArg some (by kernel_rfl))
 f260:=Tryz.func284.trans (congrArg some (by kernel_rfl))
 f266:=Tryz.func293.trans (congrArg some (by kernel_rfl))
 f271:=Tryz.func279.trans (congrArg some (by kernel_rfl))
 t0:=Tryz.underlying0
 a0:=Tryz.isAgg0
 z0:=Tryz.sizeOf0
 v0:=Tryz.zeroValue0
 t3:=Tryz.underlying3
 a3:=Tryz.isAgg3
 z3:=Tryz.sizeOf3
 v3:=Tryz.zeroValue3
 t4:=Tryz.underlying4
 a4:=Tryz.isAgg4
 z4:=Tryz.sizeOf4
 v4:=Tryz.zeroValue4
 t5:=Tryz.underlying5
 a5:=Tryz.isAgg5
 z5:=Tryz.sizeOf5
 v5:=Tryz.zeroValue5
 t9:=Tryz.underlying9
 a9:=Tryz.isAgg9
 z9:=Tryz.sizeOf9
 v9:=Tryz.zeroValue9
 t21:=Tryz.underlying21
 a21:=Tryz.isAgg21
 z21:=Tryz.sizeOf21
 v21:=Tryz.zeroValue21
 t46:=Tryz.underlying253
 a46:=Tryz.isAgg253
 z46:=Tryz.sizeOf253
 v46:=Tryz.zeroValue253
 t105:=Tryz.underlying387
 a105:=Tryz.isAgg387
 z105:=Tryz.sizeOf387
 v105:=Tryz.zeroValue387
 t116:=Tryz.underlying369
 a116:=Tryz.isAgg369
 z116:=Tryz.sizeOf369
 t117:=Tryz.underlying370
 a117:=Tryz.isAgg370
 z117:=Tryz.sizeOf370
 v117:=Tryz.zeroValue370
 t119:=Tryz.underlying397
 a119:=Tryz.isAgg397
 z119:=Tryz.sizeOf397
 t124:=Tryz.underlying373
 a124:=Tryz.isAgg373
 z124:=Tryz.sizeOf373
 v124:=Tryz.zeroValue373
 t138:=Tryz.underlying399
 a138:=Tryz.isAgg399
 z138:=Tryz.sizeOf399
 v138:=Tryz.zeroValue399
 t139:=Tryz.underlying400
 a139:=Tryz.isAgg400
 z139:=Tryz.sizeOf400
 v139:=Tryz.zeroValue400
 g3:=by kernel_rfl
 g4:=by kernel_rfl }
end Go.Proofs
namespace Go.Proofs.YtnlingegeangmaaGreatDoor
open Go Go.Vx Go.Shelf
theorem bExtraR:Builder.Extra Tryz.prog Tryz.vxRep_ren where
 sizeBuilder:=by kernel_rfl
 liesBuilder:=by kernel_rfl
 t5:=by kernel_rfl
 a5:=fun _=>by kernel_rfl
 z5:=fun _=>by kernel_rfl
 v5:=fun _=>by kernel_rfl
 infoByte:=by kernel_rfl
 cellsByte:=by kernel_rfl
 sizeByte:=by kernel_rfl
 neB5:=by decide
theorem repeatL_x(n:Nat):Lib.repeatL [120] n=xsT n:=by
 induction n with
 | zero=>rfl
 | succ n ih=>rw[Lib.repeatL,ih];rfl
theorem xrep_at(n:Nat)(h:n<=1000000):FSpec Tryz.prog T 212 [.s [120],.i .i64 (n:Nat)] (fun d _=>d = .s (xsT n)):=by
 have:=repeat_at (T:=T) Tryz.vxRep bExtraR Tryz.call212 [120] n (by simp;omega) (by omega)
 rw[repeatL_x] at this
 exact this
theorem prefix_at(v bits n:Nat)(hv:v<9223372036854775808)(hb:bits<=62)(hn:n<=bits)(vI bI nJ:Int)(e1:vI=v)(e2:bI=bits)(e3:nJ=n) :
    FSpec Tryz.prog T 270 [.i .i64 vI,.i .i64 bI,.i .i64 nJ] (fun d _=>d = .s (pfxT v bits n)):=by
 subst e1 e2 e3
 have hx:=xrep_at (bits - n) (by omega)
 have hbl:=binT_len v bits n
 have hxl:=xsT_len (bits - n)
 refine FSpec.of_ok tok Tryz.func270 rfl Tryz.call270 (by simp) ?_
 rw[show ((bits - n:Nat):Int)=(bits:Int) - n by omega] at hx
 (try (conv=>whnf));repeat' (first|refine Ok.seq ?_|((first|refine Ok.region tok ?_|refine Ok.ret ?_|refine nI ?_);conv=>whnf)|(refine Or.inl ?_;(conv=>whnf);(repeat (refine aI ?_;conv=>whnf));refine⟨_,binary_at v bits n hv hb hn,rfl,?_⟩;conv=>whnf)|(refine Or.inl ?_;(conv=>whnf);(repeat (refine aI ?_;conv=>whnf));refine⟨_,hx,rfl,?_⟩;conv=>whnf)|(refine aJ ?_;conv=>whnf)|fail)
 refine Or.inl ?_;(conv=>whnf)
 rfl
theorem free_step{bits lo H k f:Nat}(h:f<bits/\lo % tw (f+1)=0/\lo+tw (f+1)<=H):freeF bits lo H (k+1) f=freeF bits lo H k (f+1):=by
 conv=>lhs;unfold freeF
 exact if_pos h
theorem free_stop{bits lo H f:Nat}(k:Nat)(h:¬ (f<bits/\lo % tw (f+1)=0/\lo+tw (f+1)<=H)):freeF bits lo H k f=f:=by
 cases k with
 | zero=>rfl
 | succ k=>unfold freeF;exact if_neg h
theorem cover_at(bits lo H:Nat)(hb:bits<=32)(hH:H<=tw bits)(hlo:lo<=tw bits)(bI lI hI:Int)(e1:bI=bits)(e2:lI=lo)(e3:hI=(H:Int) - 1) :
    FSpec Tryz.prog T 243 [.i .i64 bI,.i .i64 lI,.i .i64 hI] (fun d rows=>d = .own 0 (coverC bits H lo).length/\rows=[some (9,(coverC bits H lo).map srow)]):=by
 subst e1 e2 e3
 have htb:=tw62 (show bits<=62 by omega)
 have ht32:=tw_mono hb
 have h32:tw 32=4294967296:=by decide
 have hcl:=coverC_len (bits:=bits) (lo:=lo) (H:=H) hH
 refine FSpec.of_ok tok Tryz.func243 rfl Tryz.call243 (by simp) ?_
 (try (conv=>whnf));repeat' (first|refine Ok.seq ?_|(refine Ok.region tok ?_;conv=>whnf)|refine Ok.block ?_|fail)
 refine Ok.ghost 7 9 rfl ?_
 (conv=>whnf)
 refine Ok.loopU [0,2] [1,7] 1 0 (fun (x:Nat × List Str)=>[.i .i64 (x.1:Nat),.own 0 x.2.length]) (fun _ b=>b) (fun (x:Nat × List Str) (_:Vx.Rows)=>[some (9,x.2.map srow)]) (fun (x:Nat × List Str)=>x.1<=tw bits/\coverC bits H lo=x.2++coverC bits H x.1) (fun (x:Nat × List Str)=>tw bits - x.1) ((lo,[])) (⟨hlo,rfl⟩) ?_;(conv=>whnf);refine⟨by ((conv=>whnf);first|rfl|(simp[envCat,tkL0,nrow,frow,bcell,srow];done)|(simp[envCat,tkL0,nrow,frow,bcell,srow];rw[IntKind.wrap_i64];omega)),?_⟩
 rintro⟨q,l⟩ ⟨hq,hcov⟩
 dsimp only at hq hcov ⊢
 have hlm:(l.map srow).length=l.length:=by simp
 have hlb:l.length<=66:=by have:=congrArg List.length hcov;rw[List.length_append] at this;omega
 (conv=>whnf)
 by_cases hqH:q<H
 . have hst:=coverC_step (bits:=bits) hqH
   (try (conv=>whnf));repeat' (first|refine Ok.seq ?_|((first|refine Ok.region tok ?_|refine Ok.cond ?_);conv=>whnf)|refine Ok.block ?_|(refine Ok.skip ?_;conv=>whnf)|(refine bI ?_ ?_<;>intro<;>(conv=>whnf)<;>(try (exfalso;omega)))|fail)
   refine Ok.loopU [0,1,2,7] [8] 1 0 (fun (f:Nat)=>[.i .i64 (f:Nat)]) (fun _ b=>b) (fun (f:Nat) (_:Vx.Rows)=>[some (9,l.map srow)]) (fun (f:Nat)=>f<=bits/\q+tw f<=H/\freeF bits q H bits 0=freeF bits q H (bits - f) f) (fun (f:Nat)=>bits - f) (0) (⟨Nat.zero_le _,hqH,rfl⟩) ?_;(conv=>whnf);refine⟨by ((conv=>whnf);first|rfl|(simp[envCat,tkL0,nrow,frow,bcell,srow];done)|(simp[envCat,tkL0,nrow,frow,bcell,srow];rw[IntKind.wrap_i64];omega)),?_⟩
   rintro f ⟨hf,hqf,hfr⟩
   have htf:=tw62 (show f+1<=62 by omega)
   have hpf:=tw_pos f
   have hk1:((f:Nat):Int)+1=((f+1:Nat):Int):=by omega
   have htop:=top_at (f+1) (by omega)
   rw[<- hk1] at htop
   have hsh:((f:Nat):Int)=(f:Int)/\f<=62:=⟨rfl,by omega⟩
   have hpre:=prefix_at q bits (bits - f) (by omega) (by omega) (by omega) (q:Int) (bits:Int) ((bits:Int) - f) rfl rfl (by omega)
   (conv=>whnf)
   (try (conv=>whnf));repeat' (first|((first|refine and_i ⟨rfl,by omega⟩ ⟨rfl,by omega⟩ ?_|with_reducible_and_instances refine shl_i (by assumption) ?_);conv=>whnf)|refine Ok.seq ?_|((first|refine Ok.region tok ?_|refine Ok.cond ?_);conv=>whnf)|refine Ok.block ?_|((first|refine Ok.skip ?_|refine Ok.exit ?_|refine nI ?_);conv=>whnf)|(refine Or.inl ?_;(conv=>whnf);(repeat (refine aI ?_;conv=>whnf));refine⟨_,htop,rfl,?_⟩;conv=>whnf)|(refine Or.inl ?_;(conv=>whnf);(repeat (refine aI ?_;conv=>whnf));refine⟨_,hpre,rfl,?_⟩;conv=>whnf)|((first|refine Alt2.l (aI ?_)|refine⟨_,.inl ⟨rfl,rfl⟩,?_⟩|refine⟨_,_,rfl,rfl,?_⟩);conv=>whnf)|(refine bI ?_ ?_<;>intro<;>(conv=>whnf)<;>(try (exfalso;omega)))|(refine aJ ?_;conv=>whnf)|fail)
   all_goals first
    | (exfalso;omega)
    | skip
   . refine⟨f+1,by omega,⟨by omega,by omega,?_⟩,?_⟩
     . rw[hfr,show bits - f=(bits - (f+1))+1 by omega,free_step ⟨by omega,by omega,by omega⟩]
     . (conv=>whnf)
       rfl
   all_goals
    have hfr2:freeF bits q H bits 0=f:=by rw[hfr];exact free_stop _ (by omega)
    have hst2:coverC bits H q=pfxT q bits (bits - f) :: coverC bits H (q+tw f):=by rw[hst,hfr2];rfl
    refine⟨(q+tw f,l++[pfxT q bits (bits - f)]),by dsimp only;omega,⟨by dsimp only;omega,by dsimp only;rw[hcov,hst2];simp⟩,?_⟩
    (conv=>whnf)
    simp[envCat]
 . have:coverC bits H q=[]:=coverC_end (by omega)
   rw[this,List.append_nil] at hcov
   (try (conv=>whnf));repeat' (first|refine Ok.seq ?_|((first|refine Ok.region tok ?_|refine Ok.cond ?_|refine Ok.exit ?_|refine Ok.ret ?_);conv=>whnf)|(refine bI ?_ ?_<;>intro<;>(conv=>whnf)<;>(try (exfalso;omega)))|fail)
   all_goals first
    | (exfalso;omega)
    | (refine Or.inr (Or.inl ?_);(conv=>whnf)
       exact⟨by rw[hcov];rfl,by rw[hcov]⟩)
end Go.Proofs.YtnlingegeangmaaGreatDoor
namespace Go.Proofs.YtnlingegeangmaaGreatDoor
open Go Go.Vx Go.Shelf
theorem dropW_nil(p:UInt8->Bool):∀ l:Str,l.dropWhile p=[] ↔ ∀ b ∈ l,p b=true
 | []=>by simp
 | a :: l=>by
  rw[List.dropWhile_cons]
  split
  . rename_i h
    rw[dropW_nil p l]
    simp[h]
  . rename_i h
    simp[h]
theorem dropW_head(p:UInt8->Bool):∀ l:Str,l.dropWhile p ≠ []->∃ b ∈ l.dropWhile p,p b ≠ true
 | [],h=>absurd rfl h
 | a :: l,h=>by
  rw[List.dropWhile_cons] at h ⊢
  split
  . rename_i hp
    rw[if_pos hp] at h
    exact dropW_head p l h
  . rename_i hp
    exact⟨a,by simp,hp⟩
theorem dropW_mem(p:UInt8->Bool):∀ (l:Str) (x:UInt8),x ∈ l.dropWhile p->x ∈ l
 | [],x,h=>h
 | a :: l,x,h=>by
  rw[List.dropWhile_cons] at h
  split at h
  . exact List.mem_cons_of_mem _ (dropW_mem p l x h)
  . exact h
theorem trim_nil(l cs:Str):Lib.trimS l cs=[] ↔ ∀ b ∈ l,cs.contains b=true:=by
 unfold Lib.trimS Lib.trimLeftS Lib.trimRightS
 rw[dropW_nil]
 constructor
 . intro h
   by_cases hd:l.reverse.dropWhile (fun b=>cs.contains b)=[]
   . intro b hb
     exact (dropW_nil _ _).1 hd b (by simpa using hb)
   . obtain⟨b,hb,hn⟩:=dropW_head _ _ hd
     exact absurd (h b (by simpa using hb)) hn
 . intro h x hx
   have h1:=dropW_mem (fun b=>cs.contains b) l.reverse x (List.mem_reverse.1 hx)
   exact h x (List.mem_reverse.1 h1)
structure FormOk(t:Tst):Prop where
 a:1<=t.op/\t.op<=6/\1<=t.form/\t.form<=4/\(t.op<=2\/t.form=1)/\(t.form=4->t.lo=0/\t.hi=0/\t.len=0)/\(t.form=1\/t.form=2->t.hi=0)/\(t.form=1\/t.form=3->t.len=0)
 p:t.form ≠ 4->t.pat=[]
def ValOk(t:Tst)(b:Nat):Prop:=0<=t.lo/\t.lo<=(tw b:Int) - 1/\0<=t.hi/\t.hi<=(tw b:Int) - 1/\0<=t.len/\t.len<=b
def DigOk(s:Str)(b:Nat):Prop:=s.length=b/\cubOk s
open Classical in
noncomputable def errT(t:Tst)(b:Nat):Int:=
 if ¬ FormOk t then 47 else if ¬ ValOk t b then 42 else if t.form=2/\t.lo.toNat % tw (b - t.len.toNat) ≠ 0 then 42 else if t.form=3/\t.hi<t.lo then 43 else if t.form=4/\¬ DigOk t.pat b then 44 else 0
theorem errT_form{t:Tst}{b:Nat}(h:¬ FormOk t):errT t b=47:=by unfold errT;rw[if_pos h]
theorem errT_val{t:Tst}{b:Nat}(h:FormOk t)(h2:¬ ValOk t b):errT t b=42:=by unfold errT;rw[if_neg (fun x=>x h),if_pos h2]
theorem errT_pre{t:Tst}{b:Nat}(h:FormOk t)(h2:ValOk t b)(h3:t.form=2/\t.lo.toNat % tw (b - t.len.toNat) ≠ 0):errT t b=42:=by unfold errT;rw[if_neg (fun x=>x h),if_neg (fun x=>x h2),if_pos h3]
theorem errT_rng{t:Tst}{b:Nat}(h:FormOk t)(h2:ValOk t b)(h3:¬ (t.form=2/\t.lo.toNat % tw (b - t.len.toNat) ≠ 0))(h4:t.form=3/\t.hi<t.lo):errT t b=43:=by unfold errT;rw[if_neg (fun x=>x h),if_neg (fun x=>x h2),if_neg h3,if_pos h4]
theorem errT_dig{t:Tst}{b:Nat}(h:FormOk t)(h2:ValOk t b)(h3:¬ (t.form=2/\t.lo.toNat % tw (b - t.len.toNat) ≠ 0))(h4:¬ (t.form=3/\t.hi<t.lo))(h5:t.form=4/\¬ DigOk t.pat b):errT t b=44:=by unfold errT;rw[if_neg (fun x=>x h),if_neg (fun x=>x h2),if_neg h3,if_neg h4,if_pos h5]
theorem errT_ok{t:Tst}{b:Nat}(h:FormOk t)(h2:ValOk t b)(h3:¬ (t.form=2/\t.lo.toNat % tw (b - t.len.toNat) ≠ 0))(h4:¬ (t.form=3/\t.hi<t.lo))(h5:¬ (t.form=4/\¬ DigOk t.pat b)):errT t b=0:=by unfold errT;rw[if_neg (fun x=>x h),if_neg (fun x=>x h2),if_neg h3,if_neg h4,if_neg h5]
theorem trim_dig(s:Str):Lib.trimS s [48,49,120]=[] ↔ cubOk s:=by
 rw[trim_nil]
 unfold cubOk
 constructor
 . intro h b hb
   have:=h b hb
   simpa using this
 . intro h b hb
   have:=h b hb
   simpa using this
theorem trim01x(s:Str)(h:s.length<=9223372036854775807):FSpec Tryz.prog T 241 [.s s,.s [48,49,120]] (fun d _=>d = .s (Lib.trimS s [48,49,120])):=
 trim_at Tryz.vxTrim (by kernel_rfl) Tryz.call241 s [48,49,120] h (by decide) (by decide)
@[reducible] def tcl(f:Str)(op form lo hi len:Int)(pat:Str):List D:=[.s f,.i .i64 op,.i .i64 form,.i .i64 lo,.i .i64 hi,.i .i64 len,.s pat]
theorem fit_at(f:Str)(op form lo hi len:Int)(pat:Str)(b:Nat)(h1b:1<=b)(hb:b<=32)(hs:pat.length<=1000000000000):FSpec Tryz.prog T 217 [.agg (tcl f op form lo hi len pat),.i .i64 (b:Nat)] (fun d _=>d = .i .i64 (errT ⟨f,op,form,lo,hi,len,pat⟩ b)):=by
 have htb:=tw62 (show b<=62 by omega)
 have htop:=top_at b (by omega)
 have htrim:=trim01x pat (by omega)
 refine FSpec.of_ok tok Tryz.func217 rfl Tryz.call217 (by simp) ?_
 by_cases hF:FormOk ⟨f,op,form,lo,hi,len,pat⟩
 . obtain⟨hA,hP⟩:=id hF
   dsimp only at hA hP
   have h4:form=1\/form=2\/form=3\/form=4:=by omega
   by_cases hV:ValOk ⟨f,op,form,lo,hi,len,pat⟩ b
   . have hV2:=hV
     unfold ValOk at hV2
     dsimp only at hV2
     obtain⟨vl,rfl⟩:∃ v:Nat,lo=v:=⟨lo.toNat,by omega⟩
     obtain⟨vh,rfl⟩:∃ v:Nat,hi=v:=⟨hi.toNat,by omega⟩
     obtain⟨vn,rfl⟩:∃ v:Nat,len=v:=⟨len.toNat,by omega⟩
     rcases h4 with rfl|rfl|rfl|rfl
     . have hp:=hP (by decide)
       subst hp
       rw[errT_ok hF hV (by simp) (by simp) (by simp)]
       (try (conv=>whnf));repeat' (first|refine Ok.seq ?_|((first|refine Ok.region tok ?_|refine Ok.region_draw tok follows (by kernel_rfl) ?_|refine Ok.cond ?_|refine Ok.skip ?_|refine Ok.ret ?_|refine⟨_,by assumption,?_⟩);conv=>whnf)|(refine bI ?_ ?_<;>intro<;>(conv=>whnf)<;>(try (exfalso;omega)))|((first|refine aJ ?_|refine⟨_,rfl,?_⟩);conv=>whnf)|fail)
       all_goals first
        | (exfalso;omega)
        | (rename_i h;exact absurd rfl h)
        | (refine Or.inl ?_;(conv=>whnf)
           rfl)
     . have hp:=hP (by decide)
       subst hp
       have htop2:=top_at (b - vn) (by omega)
       rw[show ((b - vn:Nat):Int)=(b:Int) - (vn:Int) by omega] at htop2
       by_cases hm:vl % tw (b - vn)=0
       . rw[errT_ok hF hV (by simpa using hm) (by simp) (by simp)]
         (try (conv=>whnf));repeat' (first|(refine and_i ⟨rfl,by omega⟩ ⟨rfl,by omega⟩ ?_;conv=>whnf)|refine Ok.seq ?_|((first|refine Ok.region tok ?_|refine Ok.region_draw tok follows (by kernel_rfl) ?_|refine Ok.cond ?_|refine Ok.skip ?_|refine Ok.ret ?_|refine nI ?_|refine⟨_,by assumption,?_⟩);conv=>whnf)|(refine bI ?_ ?_<;>intro<;>(conv=>whnf)<;>(try (exfalso;omega)))|((first|refine aJ ?_|refine⟨_,rfl,?_⟩);conv=>whnf)|fail)
         all_goals first
          | (exfalso;omega)
          | (rename_i h;exact absurd rfl h)
          | (refine Or.inl ?_;(conv=>whnf)
             rfl)
       . rw[errT_pre hF hV ⟨rfl,by simpa using hm⟩]
         (try (conv=>whnf));repeat' (first|(refine and_i ⟨rfl,by omega⟩ ⟨rfl,by omega⟩ ?_;conv=>whnf)|refine Ok.seq ?_|((first|refine Ok.region tok ?_|refine Ok.region_draw tok follows (by kernel_rfl) ?_|refine Ok.cond ?_|refine Ok.skip ?_|refine Ok.ret ?_|refine nI ?_|refine⟨_,by assumption,?_⟩);conv=>whnf)|(refine bI ?_ ?_<;>intro<;>(conv=>whnf)<;>(try (exfalso;omega)))|((first|refine aJ ?_|refine⟨_,rfl,?_⟩);conv=>whnf)|fail)
         all_goals first
          | (exfalso;omega)
          | (rename_i h;exact absurd rfl h)
          | (refine Or.inl ?_;(conv=>whnf)
             rfl)
     . have hp:=hP (by decide)
       subst hp
       by_cases hr:(vh:Int)<vl
       . rw[errT_rng hF hV (by simp) ⟨rfl,hr⟩]
         (try (conv=>whnf));repeat' (first|refine Ok.seq ?_|((first|refine Ok.region tok ?_|refine Ok.region_draw tok follows (by kernel_rfl) ?_|refine Ok.cond ?_|refine Ok.skip ?_|refine Ok.ret ?_|refine⟨_,by assumption,?_⟩);conv=>whnf)|(refine bI ?_ ?_<;>intro<;>(conv=>whnf)<;>(try (exfalso;omega)))|((first|refine aJ ?_|refine⟨_,rfl,?_⟩);conv=>whnf)|fail)
         all_goals first
          | (exfalso;omega)
          | (rename_i h;exact absurd rfl h)
          | (refine Or.inl ?_;(conv=>whnf)
             rfl)
       . rw[errT_ok hF hV (by simp) (fun h=>hr h.2) (by simp)]
         (try (conv=>whnf));repeat' (first|refine Ok.seq ?_|((first|refine Ok.region tok ?_|refine Ok.region_draw tok follows (by kernel_rfl) ?_|refine Ok.cond ?_|refine Ok.skip ?_|refine Ok.ret ?_|refine⟨_,by assumption,?_⟩);conv=>whnf)|(refine bI ?_ ?_<;>intro<;>(conv=>whnf)<;>(try (exfalso;omega)))|((first|refine aJ ?_|refine⟨_,rfl,?_⟩);conv=>whnf)|fail)
         all_goals first
          | (exfalso;omega)
          | (rename_i h;exact absurd rfl h)
          | (refine Or.inl ?_;(conv=>whnf)
             rfl)
     . have htd:=trim_dig pat
       by_cases hd:DigOk pat b
       . rw[errT_ok hF hV (by simp) (by simp) (fun h=>h.2 hd)]
         have hd2:=hd
         obtain⟨hd1,hdc⟩:=hd2
         (try (conv=>whnf));repeat' (first|refine Ok.seq ?_|((first|refine Ok.region tok ?_|refine Ok.region_draw tok follows (by kernel_rfl) ?_|refine Ok.cond ?_|refine Ok.skip ?_|refine Ok.ret ?_|refine⟨_,by assumption,?_⟩);conv=>whnf)|(refine Or.inl ?_;(conv=>whnf);(repeat (refine aI ?_;conv=>whnf));refine⟨_,htrim,rfl,?_⟩;conv=>whnf)|(refine bI ?_ ?_<;>intro<;>(conv=>whnf)<;>(try (exfalso;omega)))|((first|refine aJ ?_|refine⟨_,rfl,?_⟩);conv=>whnf)|fail)
         all_goals first
          | (exfalso;omega)
          | (rename_i h;exact absurd (htd.2 hdc) h)
          | (refine Or.inl ?_;(conv=>whnf)
             rfl)
       . rw[errT_dig hF hV (by simp) (by simp) ⟨rfl,hd⟩]
         (try (conv=>whnf));repeat' (first|refine Ok.seq ?_|((first|refine Ok.region tok ?_|refine Ok.region_draw tok follows (by kernel_rfl) ?_|refine Ok.cond ?_|refine Ok.skip ?_|refine Ok.ret ?_|refine⟨_,by assumption,?_⟩);conv=>whnf)|(refine Or.inl ?_;(conv=>whnf);(repeat (refine aI ?_;conv=>whnf));refine⟨_,htrim,rfl,?_⟩;conv=>whnf)|(refine bI ?_ ?_<;>intro<;>(conv=>whnf)<;>(try (exfalso;omega)))|((first|refine aJ ?_|refine⟨_,rfl,?_⟩);conv=>whnf)|fail)
         all_goals first
          | (exfalso;omega)
          | (refine Or.inl ?_;(conv=>whnf)
             rfl)
          | (rename_i h1 h2;exact absurd ⟨by omega,htd.1 (by simpa using h2)⟩ hd)
   . have hV2:=hV
     unfold ValOk at hV2
     dsimp only at hV2
     rw[errT_val hF hV]
     rcases h4 with rfl|rfl|rfl|rfl
     all_goals
      (try (conv=>whnf));repeat' (first|refine Ok.seq ?_|((first|refine Ok.region tok ?_|refine Ok.region_draw tok follows (by kernel_rfl) ?_|refine Ok.cond ?_|refine Ok.skip ?_|refine Ok.ret ?_|refine⟨_,by assumption,?_⟩);conv=>whnf)|(refine bI ?_ ?_<;>intro<;>(conv=>whnf)<;>(try (exfalso;omega)))|((first|refine aJ ?_|refine⟨_,rfl,?_⟩);conv=>whnf)|fail)
     all_goals first
      | (exfalso;omega)
      | (rename_i h;exact absurd (hP (by decide)) h)
      | (refine Or.inl ?_;(conv=>whnf)
         rfl)
 . rw[errT_form hF]
   by_cases hf4:1<=form/\form<=4
   . by_cases hp:form ≠ 4->pat=[]
     . have hA:¬ (1<=op/\op<=6/\1<=form/\form<=4/\(op<=2\/form=1)/\(form=4->lo=0/\hi=0/\len=0)/\(form=1\/form=2->hi=0)/\(form=1\/form=3->len=0)):=fun h=>hF ⟨h,hp⟩
       have h4:form=1\/form=2\/form=3\/form=4:=by omega
       rcases h4 with rfl|rfl|rfl|rfl
       all_goals
        (try (conv=>whnf));repeat' (first|refine Ok.seq ?_|((first|refine Ok.region tok ?_|refine Ok.cond ?_|refine Ok.skip ?_|refine Ok.ret ?_);conv=>whnf)|(refine bI ?_ ?_<;>intro<;>(conv=>whnf)<;>(try (exfalso;omega)))|((first|refine aJ ?_|refine⟨_,rfl,?_⟩);conv=>whnf)|fail)
       all_goals first
        | (exfalso;omega)
        | (rename_i h;exact absurd (hp (by decide)) h)
        | (refine Or.inl ?_;(conv=>whnf)
           rfl)
     . have h4:form=1\/form=2\/form=3:=by omega
       have hpn:pat ≠ []:=fun e=>hp fun _=>e
       rcases h4 with rfl|rfl|rfl
       all_goals
        (try (conv=>whnf));repeat' (first|refine Ok.seq ?_|((first|refine Ok.region tok ?_|refine Ok.region_draw tok follows (by kernel_rfl) ?_|refine Ok.cond ?_|refine Ok.skip ?_|refine Ok.ret ?_|refine nI ?_|refine⟨_,by assumption,?_⟩);conv=>whnf)|(refine bI ?_ ?_<;>intro<;>(conv=>whnf)<;>(try (exfalso;omega)))|((first|refine aJ ?_|refine⟨_,rfl,?_⟩);conv=>whnf)|fail)
       all_goals first
        | (exfalso;omega)
        | (refine Or.inl ?_;(conv=>whnf)
           rfl)
        | (rename_i h;exact absurd (by simpa using h) hpn)
        | exact absurd (Classical.not_not.1 (by assumption)) hpn
        | (refine absurd ?_ hpn;rename_i h1 h2;simpa using h1)
        | (refine absurd ?_ hpn;rename_i h1 h2 h3;simpa using h1)
        | (refine absurd ?_ hpn;rename_i h1 h2 h3 h4;simpa using h1)
        | (refine absurd ?_ hpn;rename_i h1 h2 h3 h4 h5;simpa using h1)
   . (try (conv=>whnf));repeat' (first|refine Ok.seq ?_|((first|refine Ok.region tok ?_|refine Ok.cond ?_|refine Ok.ret ?_);conv=>whnf)|(refine bI ?_ ?_<;>intro<;>(conv=>whnf)<;>(try (exfalso;omega)))|fail)
     all_goals first
      | (exfalso;omega)
      | (refine Or.inl ?_;(conv=>whnf)
         rfl)
end Go.Proofs.YtnlingegeangmaaGreatDoor
namespace Go.Proofs.YtnlingegeangmaaGreatDoor
open Go Go.Vx Go.Shelf
open Classical in
/-- The error of a test over a layout. -/
noncomputable def errF(l:List Fd)(t:Tst):Int:=if findI t.f l 0<0 then 41 else match l[(findI t.f l 0).toNat]? with|some c=>errT t c.bits.toNat|none=>0
theorem errF_none{l:List Fd}{t:Tst}(h:findI t.f l 0=-1):errF l t=41:=by unfold errF;rw[if_pos (by omega)]
theorem errF_some{l:List Fd}{t:Tst}{k:Nat}{c:Fd}(h:findI t.f l 0=(k:Nat))(hc:l[k]? = some c):errF l t=errT t c.bits.toNat:=by
 unfold errF;rw[if_neg (by omega),h,Int.toNat_natCast,hc]
theorem find_cases(nm:Str)(l:List Fd):findI nm l 0=-1\/∃ (k:Nat) (c:Fd),findI nm l 0=(k:Nat)/\l[k]? = some c:=by
 obtain⟨_,h1,h2⟩:=findI_ge nm l 0
 by_cases h:findI nm l 0<0
 . exact .inl (by omega)
 . exact .inr ⟨(findI nm l 0).toNat,l[(findI nm l 0).toNat]'(by omega),by omega,gEt0 _⟩
end Go.Proofs.YtnlingegeangmaaGreatDoor
namespace Go.Vx
open Go.RowKit
section
variable {P : Program} {T : Tab}
variable {l : Nat} {xs : List (List D)} {n : Nat} {Q : Exit → Option Nat → List (Nat × D) → Prop} {g : Option Nat} {env : List (Nat × D)}
theorem effW.of{s:St}{f:FuncId}{ds:List D}{K:D->St->Prop}(h:effK P T s f ds K):effW P T s f ds K:=
 ⟨h.call,fun w0 V0 V μ ω a w vs hS hl hR=>(h.run w0 V0 V μ ω a w vs hS hl hR).mono fun _ _ ⟨v,d,s',V',μ',ω',h1,h2,h3,h4,_⟩=>⟨v,d,s',V',μ',ω',h1,h2,h3,h4⟩⟩
end
end Go.Vx
namespace Go.Proofs.YtnlingegeangmaaGreatDoor
open Go Go.Vx
def ov1(a b:UInt8):UInt8:=if a=120 then b else a
def curL(c d:Str)(i:Nat):Str:=List.zipWith ov1 (c.take i) (d.take i)++c.drop i
def pcT(c d:Str)(j:Nat):Option Str:=
 match c[j]?,d[j]? with
 | some a,some b=>if a=120/\b ≠ 120 then some ((curL c d j).set j (97 - b)) else none
 | _,_=>none
def pcsT(c d:Str)(i:Nat):List Str:=(List.range i).filterMap (pcT c d)
def splitT(c d:Str):List Str:=if (meetT c d).isSome then pcsT c d c.length else [c]
theorem pcsT_some{c d:Str}{i:Nat}{x:Str}(h:pcT c d i=some x):pcsT c d (i+1)=pcsT c d i++[x]:=by
 unfold pcsT;rw[List.range_succ,List.filterMap_append];simp[h]
theorem pcsT_none{c d:Str}{i:Nat}(h:pcT c d i=none):pcsT c d (i+1)=pcsT c d i:=by
 unfold pcsT;rw[List.range_succ,List.filterMap_append];simp[h]
theorem pcT_at{c d:Str}{j:Nat}{a b:UInt8}(ha:c[j]? = some a)(hb:d[j]? = some b):pcT c d j=if a=120/\b ≠ 120 then some ((curL c d j).set j (97 - b)) else none:=by
 unfold pcT;rw[ha,hb]
theorem curL_len{c d:Str}(hl:d.length=c.length)(i:Nat):(curL c d i).length=c.length:=by simp[curL];omega
theorem curL_at{c d:Str}{i:Nat}{a:UInt8}(ha:c[i]? = some a)(hd:i<d.length):(curL c d i)[i]? = some a:=by
 have hi:i<c.length:=(gSm0.1 ha).1
 have hl:(List.zipWith ov1 (c.take i) (d.take i)).length=i:=by simp;omega
 unfold curL
 rw[List.getElem?_append_right (by omega),hl,Nat.sub_self,List.getElem?_drop]
 exact ha
theorem curL_succ{c d:Str}{i:Nat}{a b:UInt8}(ha:c[i]? = some a)(hb:d[i]? = some b):curL c d (i+1)=(curL c d i).set i (ov1 a b):=by
 have hi:i<c.length:=(gSm0.1 ha).1
 have hi2:i<d.length:=(gSm0.1 hb).1
 have hl:(List.zipWith ov1 (c.take i) (d.take i)).length=i:=by simp;omega
 unfold curL
 rw[List.set_append,if_neg (by omega),hl,Nat.sub_self,List.drop_eq_getElem_cons hi,List.set_cons_zero,take_snoc ha,take_snoc hb]
 rw[List.zipWith_append (by simp;omega)]
 simp
theorem curL_zero(c d:Str):curL c d 0=c:=by simp[curL]
theorem set_self{l:Str}{i:Nat}{a:UInt8}(h:l[i]? = some a):l.set i a=l:=by
 have hi:=(gSm0.1 h).1
 apply List.ext_getElem?
 intro k
 by_cases hk:k=i
 . subst hk;rw[List.getElem?_set_self hi,h]
 . rw[List.getElem?_set_ne (Ne.symm hk)]
theorem curL_same{c d:Str}{i:Nat}{a b:UInt8}(ha:c[i]? = some a)(hb:d[i]? = some b)(h:¬ (a=120/\b ≠ 120)):curL c d (i+1)=curL c d i:=by
 rw[curL_succ ha hb,show ov1 a b=a by
  unfold ov1
  split
  . rename_i he
    by_cases hb2:b=120
    . rw[hb2,he]
    . exact absurd ⟨he,hb2⟩ h
  . rfl]
 exact set_self (curL_at ha (gSm0.1 hb).1)
theorem ct_set{l:Str}{i:Nat}{b:UInt8}(h:CT l)(hb:b=48\/b=49\/b=120):CT (l.set i b):=by
 refine⟨by rw[List.length_set];exact h.len,fun x hx=>?_⟩
 rcases List.mem_or_eq_of_mem_set hx with hx|rfl
 . exact h.cub x hx
 . exact hb
theorem ov1_cub{a b:UInt8}(ha:a=48\/a=49\/a=120)(hb:b=48\/b=49\/b=120):ov1 a b=48\/ov1 a b=49\/ov1 a b=120:=by
 unfold ov1;split
 . exact hb
 . exact ha
theorem curL_ct{c d:Str}(hc:CT c)(hd:CT d)(hl:d.length=c.length)(i:Nat):CT (curL c d i):=by
 induction i with
 | zero=>rw[curL_zero];exact hc
 | succ i ih=>
  by_cases hi:i<c.length
  . have ha:=gEt0 hi
    have hb:=gEt0 (show i<d.length by omega)
    rw[curL_succ ha hb]
    exact ct_set ih (ov1_cub (hc.cub _ (mOf0 ha)) (hd.cub _ (mOf0 hb)))
  . rw[show curL c d (i+1)=curL c d i by
      unfold curL
      rw[tkL0 (show c.length<=i+1 by omega),tkL0 (show d.length<=i+1 by omega),tkL0 (show c.length<=i by omega),tkL0 (show d.length<=i by omega),List.drop_of_length_le (show c.length<=i+1 by omega),List.drop_of_length_le (show c.length<=i by omega)]]
    exact ih
theorem opp_cub{b:UInt8}(hb:b=48\/b=49\/b=120)(h:b ≠ 120):97 - b=48\/97 - b=49\/97 - b=120:=by
 rcases hb with rfl|rfl|rfl
 . right;left;rfl
 . left;rfl
 . exact absurd rfl h
theorem pcsT_cn{c d:Str}(hc:CN c)(hd:CT d)(hl:d.length=c.length)(i:Nat):∀ x ∈ pcsT c d i,CN x/\x.length=c.length:=by
 intro x hx
 obtain⟨j,_,hj⟩:=List.mem_filterMap.1 hx
 unfold pcT at hj
 split at hj
 . rename_i a b ha hb
   split at hj
   . rename_i hab
     cases hj
     have h1:=curL_len hl j
     refine⟨⟨ct_set (curL_ct hc.1 hd hl j) (opp_cub (hd.cub _ (mOf0 hb)) hab.2),fun e=>hc.2 ?_⟩,by rw[List.length_set];exact h1⟩
     have:=congrArg List.length e
     rw[List.length_set,h1] at this
     exact List.eq_nil_of_length_eq_zero (by simpa using this)
   . cases hj
 . cases hj
theorem splitT_cn{c d:Str}(hc:CN c)(hd:CT d):∀ x ∈ splitT c d,CN x/\x.length=c.length:=by
 intro x hx
 unfold splitT at hx
 split at hx
 . rename_i h
   obtain⟨m,hm⟩:=Option.isSome_iff_exists.1 h
   rw[meetT_eq hc.2] at hm
   have:=meetL_len hm
   exact pcsT_cn hc hd (by omega) _ x hx
 . simp at hx;subst hx;exact⟨hc,rfl⟩
theorem pcsT_len(c d:Str)(i:Nat):(pcsT c d i).length<=i:=by
 have:=List.length_filterMap_le (pcT c d) (List.range i)
 simpa[pcsT] using this
theorem splitT_len{c d:Str}(hc:c.length<=256):(splitT c d).length<=256:=by
 unfold splitT
 split
 . exact Nat.le_trans (pcsT_len _ _ _) hc
 . simp
end Go.Proofs.YtnlingegeangmaaGreatDoor
namespace Go.Proofs.YtnlingegeangmaaGreatDoor
open Go Go.Vx
@[reducible] def w4(f:Nat->Bool):List D:=[.i .u64 ((wof f 0).toNat:Int),.i .u64 ((wof f 1).toNat:Int),.i .u64 ((wof f 2).toNat:Int),.i .u64 ((wof f 3).toNat:Int)]
theorem at_one(f:Nat->Bool)(i:Nat)(hi:i<256):FSpec Tryz.prog T 282 [.ep (w4 f),.i .i64 (i:Int)] (fun d rows=>d = .b (f i=true)/\rows=[]):=by
 refine FSpec.of_ok tok Tryz.func282 rfl Tryz.call282 (by simp) ?_
 obtain⟨q,r,hqr,hr,hq⟩:=split64 i (by omega)
 have hrem:=rem64 hqr hr
 have hquo:=quo64 hqr hr (by omega)
 have hrr:((r:Nat):Int)=((r:Nat):Int)/\r<64:=⟨rfl,hr⟩
 have hca:=at_word (f:=f) hqr hr
 rcases hq with rfl|rfl|rfl|rfl
 all_goals
  (try (conv=>whnf));repeat' (first|((with_reducible_and_instances (first|refine nShr (by assumption) ?_|refine nAnd1' rfl ?_));conv=>whnf)|refine Ok.seq ?_|((first|refine Ok.region tok ?_|refine⟨_,(hquo.symm).symm,?_⟩|refine⟨_,(hrem.symm).symm,?_⟩|refine Ok.ret ?_|refine aJ ?_|refine⟨_,rfl,?_⟩);conv=>whnf)|fail)
  refine Or.inl ?_;(conv=>whnf)
  exact⟨congrArg D.b (propext hca),rfl⟩
theorem at_two(f g:Nat->Bool)(i:Nat)(hi:i<256):FSpec Tryz.prog T 282 [.ep (w4 f++w4 g),.i .i64 (i:Int)] (fun d rows=>d = .b (f i=true)/\rows=[]):=by
 refine FSpec.of_ok tok Tryz.func282 rfl Tryz.call282 (by simp) ?_
 obtain⟨q,r,hqr,hr,hq⟩:=split64 i (by omega)
 have hrem:=rem64 hqr hr
 have hquo:=quo64 hqr hr (by omega)
 have hrr:((r:Nat):Int)=((r:Nat):Int)/\r<64:=⟨rfl,hr⟩
 have hca:=at_word (f:=f) hqr hr
 rcases hq with rfl|rfl|rfl|rfl
 all_goals
  (try (conv=>whnf));repeat' (first|((with_reducible_and_instances (first|refine nShr (by assumption) ?_|refine nAnd1' rfl ?_));conv=>whnf)|refine Ok.seq ?_|((first|refine Ok.region tok ?_|refine⟨_,(hquo.symm).symm,?_⟩|refine⟨_,(hrem.symm).symm,?_⟩|refine Ok.ret ?_|refine aJ ?_|refine⟨_,rfl,?_⟩);conv=>whnf)|fail)
  refine Or.inl ?_;(conv=>whnf)
  exact⟨congrArg D.b (propext hca),rfl⟩
theorem ints_crow(c:Str):∀ d ∈ crow c,∃ k n,d = .i k n:=by
 intro d hd
 simp only[List.mem_cons,List.not_mem_nil,or_false] at hd
 rcases hd with rfl|rfl|rfl|rfl|rfl|rfl|rfl|rfl|rfl<;>exact⟨_,_,rfl⟩
theorem pk2{box:List (List D)}{a b x y:D}(h1:Pk box a x)(h2:Pk box b y):∀ (j:Nat) d e,[a,b][j]? = some d->[x,y][j]? = some e->Pk box d e:=by
 intro j d e hd he
 match j,hd,he with
 | 0,hd,he=>cases hd;cases he;exact h1
 | 1,hd,he=>cases hd;cases he;exact h2
 | j+2,hd,_=>simp at hd
end Go.Proofs.YtnlingegeangmaaGreatDoor
namespace Go.Proofs.YtnlingegeangmaaGreatDoor
open Go Go.Vx
theorem car_set{l:Str}{i:Nat}{b:UInt8}(h:l[i]? = some 120)(hb:dig b=true)(j:Nat):car (l.set i b) j=(car l j || decide (j=i)):=by
 have hi:=(gSm0.1 h).1
 by_cases hj:j=i
 . subst hj
   have h2:(l.set j b)[j]? = some b:=List.getElem?_set_self hi
   rw[(at_b h2).1,hb]
   simp
 . have:(l.set i b)[j]? = l[j]?:=List.getElem?_set_ne (Ne.symm hj)
   simp only[car,this,hj,decide_false,Bool.or_false]
theorem one_set{l:Str}{i:Nat}(h:l[i]? = some 120)(j:Nat):one (l.set i 49) j=(one l j || decide (j=i)):=by
 have hi:=(gSm0.1 h).1
 by_cases hj:j=i
 . subst hj
   have h2:(l.set j 49)[j]? = some 49:=List.getElem?_set_self hi
   rw[(at_b h2).2]
   simp
 . have:(l.set i 49)[j]? = l[j]?:=List.getElem?_set_ne (Ne.symm hj)
   simp only[one,this,hj,decide_false,Bool.or_false]
theorem one_set0{l:Str}{i:Nat}(h:l[i]? = some 120)(j:Nat):one (l.set i 48) j=one l j:=by
 have hi:=(gSm0.1 h).1
 by_cases hj:j=i
 . subst hj
   have h2:(l.set j 48)[j]? = some 48:=List.getElem?_set_self hi
   rw[(at_b h2).2,(at_b h).2]
   rfl
 . have:(l.set i 48)[j]? = l[j]?:=List.getElem?_set_ne (Ne.symm hj)
   simp only[one,this]
theorem split_at(c d:Str)(hc:CN c)(hd:CT d):FSpec Tryz.prog T 268 [.agg (crow c),.agg (crow d)] (fun r rows=>∃ rm,r = .lst 377 ((splitT c d).map crow) rm/\rows=[]):=by
 have hcl:=hc.1.len
 have hm:=meet_at c d hc.1 hd
 refine FSpec.of_ok tok Tryz.func268 rfl Tryz.call268 (by simp) ?_
 by_cases hs:(meetT c d).isSome=true
 . have hl:d.length=c.length:=by
     obtain⟨m,hm⟩:=Option.isSome_iff_exists.1 hs
     rw[meetT_eq hc.2] at hm
     have:=meetL_len hm
     omega
   (try (conv=>whnf));repeat' (first|refine Ok.seq ?_|((first|refine Ok.region tok ?_|refine Ok.cond ?_);conv=>whnf)|refine Ok.block ?_|((first|refine Ok.skip ?_|refine Ok.ret ?_);conv=>whnf)|(refine Or.inr (Or.inl ?_);(conv=>whnf);(repeat (refine aI ?_;conv=>whnf));refine⟨_,hm,?_⟩;rintro _ _ ⟨rfl,rfl⟩<;>(conv=>whnf))|(refine bI ?_ ?_<;>intro<;>(conv=>whnf)<;>(try (exfalso;omega)))|fail)
   . exact absurd hs (by assumption)
   refine Ok.ghost 7 377 rfl ?_
   (conv=>whnf)
   have e0:crow c=crow (curL c d 0):=by rw[curL_zero]
   have hll:((List.length c:Nat):Int)=((List.length (curL c d 0):Nat):Int):=by rw[curL_zero]
   refine Ok.loopU [2,3,21] [7,22] 1 3 (fun (i:Nat)=>[.own 0 (pcsT c d i).length,.i .i64 (i:Nat)]) (fun (i:Nat) (_:List (List D))=>[crow (curL c d i),crow d,crow ((meetT c d).getD [])]) (fun (i:Nat) (_:Vx.Rows)=>[some (377,(pcsT c d i).map crow)]) (fun (i:Nat)=>i<=c.length) (fun (i:Nat)=>c.length - i) (0) (Nat.zero_le _) ?_;(conv=>whnf);refine⟨by ((conv=>whnf);first|rfl|(simp[envCat,tkL0,cells9,crow];done)|(simp[envCat,tkL0,cells9,crow];rw[IntKind.wrap_i64];omega)),?_⟩
   rintro i hi
   have hcu:=curL_len hl i
   have hct:=curL_ct hc.1 hd hl i
   have hpl:=pcsT_len c d i
   have hpm:((pcsT c d i).map crow).length=(pcsT c d i).length:=by simp
   (conv=>whnf)
   by_cases hil:i<c.length
   . obtain⟨a,ha⟩:∃ a,c[i]? = some a:=⟨_,gEt0 hil⟩
     obtain⟨b,hb⟩:∃ b,d[i]? = some b:=⟨_,gEt0 (by omega)⟩
     have hz:=curL_at ha (show i<d.length by omega)
     have hac:=hc.1.cub a (mOf0 ha)
     have hbc:=hd.cub b (mOf0 hb)
     have hpc:=pcT_at ha hb
     have hsu:=curL_succ ha hb
     have hsm:=fun h=>curL_same ha hb h
     generalize hL:curL c d i=L at *
     generalize hQ:pcsT c d i=Q at *
     have s1:=at_two (car L) (one L) i (by omega)
     have s2:=at_two (car d) (one d) i (by omega)
     have s3:=at_one (one d) i (by omega)
     rw[(at_b hz).1] at s1
     rw[(at_b hb).1] at s2
     rw[(at_b hb).2] at s3
     obtain⟨q,r,hqr,hr,hq⟩:=split64 i (by omega)
     have hrem:=rem64 hqr hr
     have hquo:=quo64 hqr hr (by omega)
     have hrr:((r:Nat):Int)=((r:Nat):Int)/\r<64:=⟨rfl,hr⟩
     by_cases hab:a=120/\b ≠ 120
     . obtain⟨rfl,hb2⟩:=hab
       rw[if_pos ⟨rfl,hb2⟩] at hpc
       have hsn:=pcsT_some hpc
       rw[hQ] at hsn
       rw[show ov1 120 b=b from rfl] at hsu
       rcases hbc with rfl|rfl|rfl
       . rw[show (97:UInt8) - 48=49 from rfl] at hsn
         have k:=put_word (f:=car L) (g:=car (L.set i 48)) hqr hr (car_set hz rfl)
         have k':=put_word (f:=car L) (g:=car (L.set i 49)) hqr hr (car_set hz rfl)
         have o:=fun k=>wof_ext (f:=one (L.set i 48)) (g:=one L) (k:=k) fun j _=>one_set0 hz _
         have o':=put_word (f:=one L) (g:=one (L.set i 49)) hqr hr (one_set hz)
         rcases hq with rfl|rfl|rfl|rfl
         all_goals
          (try (conv=>whnf));repeat' (first|refine Ok.seq ?_|((first|refine Ok.region tok ?_|refine Ok.cond ?_);conv=>whnf)|refine Ok.block ?_|((first|refine Ok.skip ?_|refine Ok.exit ?_|refine nI ?_);conv=>whnf)|(refine Or.inr (Or.inr (Or.inr (Or.inr ?_)));(conv=>whnf);refine effW.of (effK.peek (by rfl) (pk2 (.bp _ _ ( crow L) rfl (fun d hd=>ints_crow _ d (List.mem_of_mem_drop hd))) (.i _ _)) (s1 ) ?_);rintro _ _ ⟨rfl,rfl⟩;(refine And.intro (by simp[gRowsP,grounds,D.ground]) ?_;conv=>whnf))|(refine Or.inr (Or.inr (Or.inr (Or.inr ?_)));(conv=>whnf);refine effW.of (effK.peek (by rfl) (pk2 (.bp _ _ ( crow d) rfl (fun d hd=>ints_crow _ d (List.mem_of_mem_drop hd))) (.i _ _)) (s2 ) ?_);rintro _ _ ⟨rfl,rfl⟩;(refine And.intro (by simp[gRowsP,grounds,D.ground]) ?_;conv=>whnf))|(refine bI ?_ ?_<;>intro<;>(conv=>whnf)<;>(try (exfalso;omega)))|fail)
          all_goals first
           | contradiction
           | skip
          refine Or.inr (Or.inr (Or.inl ?_));(conv=>whnf);refine⟨_,_,Tryz.func280,rfl,Tryz.call280,?_⟩;(conv=>whnf)
          (try (conv=>whnf));repeat' (first|((with_reducible_and_instances (first|refine nShl1' rfl (by assumption) ?_|refine nOr ?_));conv=>whnf)|refine Ok.seq ?_|((first|refine Ok.region tok ?_|refine Ok.region_plan (id:=0) tok follows [(5,12,[])] [.q 0,.q 1,.q 2,.q 3,.q 4,.q 5,.q 6,.q 7,.q 8,.q 9,.q 10,.q 11,.l 12] (by kernel_rfl) ?_|refine⟨_,(hquo.symm).symm,?_⟩|refine⟨_,(hrem.symm).symm,?_⟩|refine Ok.cond ?_);conv=>whnf)|(refine Or.inr (Or.inr (Or.inr (Or.inr ?_)));(conv=>whnf);refine effW.of (effK.peek (by rfl) (pk2 (.bp _ _ ( crow d) rfl (fun d hd=>ints_crow _ d (List.mem_of_mem_drop hd))) (.i _ _)) (s3 ) ?_);rintro _ _ ⟨rfl,rfl⟩;(refine And.intro (by simp[gRowsP,grounds,D.ground]) ?_;conv=>whnf))|(refine bI ?_ ?_<;>intro<;>(conv=>whnf)<;>(try (exfalso;omega)))|((first|refine aJ ?_|refine⟨_,rfl,?_⟩);conv=>whnf)|fail)
          all_goals first
           | contradiction
           | skip
          refine Or.inr (Or.inr (Or.inl ?_));(conv=>whnf);refine⟨_,_,Tryz.func280,rfl,Tryz.call280,?_⟩;(conv=>whnf)
          (try (conv=>whnf));repeat' (first|((first|(with_reducible_and_instances (first|refine nShl1' rfl (by assumption) ?_|refine nOr ?_))|refine Ok.region tok ?_|refine Ok.region_plan (id:=0) tok follows [(5,12,[])] [.q 0,.q 1,.q 2,.q 3,.q 4,.q 5,.q 6,.q 7,.q 8,.q 9,.q 10,.q 11,.l 12] (by kernel_rfl) ?_|refine⟨_,(hquo.symm).symm,?_⟩|refine⟨_,(hrem.symm).symm,?_⟩|refine nI ?_|refine Alt2.l (aI ?_)|refine⟨_,.inl ⟨rfl,rfl⟩,?_⟩|refine⟨_,_,rfl,rfl,?_⟩|refine aJ ?_|refine⟨_,rfl,?_⟩);conv=>whnf)|fail)
          refine⟨i+1,by omega,by omega,?_⟩
          rw[hsu,hsn]
          have a0:=(k 0).trans (by first|exact if_pos rfl|exact if_neg (by decide))
          have a1:=(k 1).trans (by first|exact if_pos rfl|exact if_neg (by decide))
          have a2:=(k 2).trans (by first|exact if_pos rfl|exact if_neg (by decide))
          have a3:=(k 3).trans (by first|exact if_pos rfl|exact if_neg (by decide))
          have b0:=o 0
          have b1:=o 1
          have b2:=o 2
          have b3:=o 3
          have e0:=(k' 0).trans (by first|exact if_pos rfl|exact if_neg (by decide))
          have e1:=(k' 1).trans (by first|exact if_pos rfl|exact if_neg (by decide))
          have e2:=(k' 2).trans (by first|exact if_pos rfl|exact if_neg (by decide))
          have e3:=(k' 3).trans (by first|exact if_pos rfl|exact if_neg (by decide))
          have f0:=(o' 0).trans (by first|exact if_pos rfl|exact if_neg (by decide))
          have f1:=(o' 1).trans (by first|exact if_pos rfl|exact if_neg (by decide))
          have f2:=(o' 2).trans (by first|exact if_pos rfl|exact if_neg (by decide))
          have f3:=(o' 3).trans (by first|exact if_pos rfl|exact if_neg (by decide))
          (conv=>whnf)
          simp only[envCat,crow,cells9,List.length_set,List.map_append,List.map_cons,List.map_nil,List.length_append,lMp0,List.length_cons,List.length_nil,a0,a1,a2,a3,b0,b1,b2,b3,e0,e1,e2,e3,f0,f1,f2,f3]
          rfl
       . rw[show (97:UInt8) - 49=48 from rfl] at hsn
         have k:=put_word (f:=car L) (g:=car (L.set i 49)) hqr hr (car_set hz rfl)
         have k':=put_word (f:=car L) (g:=car (L.set i 48)) hqr hr (car_set hz rfl)
         have o:=put_word (f:=one L) (g:=one (L.set i 49)) hqr hr (one_set hz)
         have o':=fun k=>wof_ext (f:=one (L.set i 48)) (g:=one L) (k:=k) fun j _=>one_set0 hz _
         rcases hq with rfl|rfl|rfl|rfl
         all_goals
          (try (conv=>whnf));repeat' (first|refine Ok.seq ?_|((first|refine Ok.region tok ?_|refine Ok.cond ?_);conv=>whnf)|refine Ok.block ?_|((first|refine Ok.skip ?_|refine Ok.exit ?_|refine nI ?_);conv=>whnf)|(refine Or.inr (Or.inr (Or.inr (Or.inr ?_)));(conv=>whnf);refine effW.of (effK.peek (by rfl) (pk2 (.bp _ _ ( crow L) rfl (fun d hd=>ints_crow _ d (List.mem_of_mem_drop hd))) (.i _ _)) (s1 ) ?_);rintro _ _ ⟨rfl,rfl⟩;(refine And.intro (by simp[gRowsP,grounds,D.ground]) ?_;conv=>whnf))|(refine Or.inr (Or.inr (Or.inr (Or.inr ?_)));(conv=>whnf);refine effW.of (effK.peek (by rfl) (pk2 (.bp _ _ ( crow d) rfl (fun d hd=>ints_crow _ d (List.mem_of_mem_drop hd))) (.i _ _)) (s2 ) ?_);rintro _ _ ⟨rfl,rfl⟩;(refine And.intro (by simp[gRowsP,grounds,D.ground]) ?_;conv=>whnf))|(refine bI ?_ ?_<;>intro<;>(conv=>whnf)<;>(try (exfalso;omega)))|fail)
          all_goals first
           | contradiction
           | skip
          refine Or.inr (Or.inr (Or.inl ?_));(conv=>whnf);refine⟨_,_,Tryz.func280,rfl,Tryz.call280,?_⟩;(conv=>whnf)
          (try (conv=>whnf));repeat' (first|((with_reducible_and_instances (first|refine nShl1' rfl (by assumption) ?_|refine nOr ?_));conv=>whnf)|refine Ok.seq ?_|((first|refine Ok.region tok ?_|refine Ok.region_plan (id:=0) tok follows [(5,12,[])] [.q 0,.q 1,.q 2,.q 3,.q 4,.q 5,.q 6,.q 7,.q 8,.q 9,.q 10,.q 11,.l 12] (by kernel_rfl) ?_|refine⟨_,(hquo.symm).symm,?_⟩|refine⟨_,(hrem.symm).symm,?_⟩|refine Ok.cond ?_);conv=>whnf)|(refine Or.inr (Or.inr (Or.inr (Or.inr ?_)));(conv=>whnf);refine effW.of (effK.peek (by rfl) (pk2 (.bp _ _ ( crow d) rfl (fun d hd=>ints_crow _ d (List.mem_of_mem_drop hd))) (.i _ _)) (s3 ) ?_);rintro _ _ ⟨rfl,rfl⟩;(refine And.intro (by simp[gRowsP,grounds,D.ground]) ?_;conv=>whnf))|(refine bI ?_ ?_<;>intro<;>(conv=>whnf)<;>(try (exfalso;omega)))|((first|refine aJ ?_|refine⟨_,rfl,?_⟩);conv=>whnf)|fail)
          all_goals first
           | contradiction
           | skip
          refine Or.inr (Or.inr (Or.inl ?_));(conv=>whnf);refine⟨_,_,Tryz.func280,rfl,Tryz.call280,?_⟩;(conv=>whnf)
          (try (conv=>whnf));repeat' (first|((first|(with_reducible_and_instances (first|refine nShl1' rfl (by assumption) ?_|refine nOr ?_))|refine Ok.region tok ?_|refine Ok.region_plan (id:=0) tok follows [(5,12,[])] [.q 0,.q 1,.q 2,.q 3,.q 4,.q 5,.q 6,.q 7,.q 8,.q 9,.q 10,.q 11,.l 12] (by kernel_rfl) ?_|refine⟨_,(hquo.symm).symm,?_⟩|refine⟨_,(hrem.symm).symm,?_⟩|refine nI ?_|refine Alt2.l (aI ?_)|refine⟨_,.inl ⟨rfl,rfl⟩,?_⟩|refine⟨_,_,rfl,rfl,?_⟩|refine aJ ?_|refine⟨_,rfl,?_⟩);conv=>whnf)|fail)
          refine⟨i+1,by omega,by omega,?_⟩
          rw[hsu,hsn]
          have a0:=(k 0).trans (by first|exact if_pos rfl|exact if_neg (by decide))
          have a1:=(k 1).trans (by first|exact if_pos rfl|exact if_neg (by decide))
          have a2:=(k 2).trans (by first|exact if_pos rfl|exact if_neg (by decide))
          have a3:=(k 3).trans (by first|exact if_pos rfl|exact if_neg (by decide))
          have b0:=(o 0).trans (by first|exact if_pos rfl|exact if_neg (by decide))
          have b1:=(o 1).trans (by first|exact if_pos rfl|exact if_neg (by decide))
          have b2:=(o 2).trans (by first|exact if_pos rfl|exact if_neg (by decide))
          have b3:=(o 3).trans (by first|exact if_pos rfl|exact if_neg (by decide))
          have e0:=(k' 0).trans (by first|exact if_pos rfl|exact if_neg (by decide))
          have e1:=(k' 1).trans (by first|exact if_pos rfl|exact if_neg (by decide))
          have e2:=(k' 2).trans (by first|exact if_pos rfl|exact if_neg (by decide))
          have e3:=(k' 3).trans (by first|exact if_pos rfl|exact if_neg (by decide))
          have f0:=o' 0
          have f1:=o' 1
          have f2:=o' 2
          have f3:=o' 3
          (conv=>whnf)
          simp only[envCat,crow,cells9,List.length_set,List.map_append,List.map_cons,List.map_nil,List.length_append,lMp0,List.length_cons,List.length_nil,a0,a1,a2,a3,b0,b1,b2,b3,e0,e1,e2,e3,f0,f1,f2,f3]
          rfl
       . exact absurd rfl hb2
     . rw[if_neg hab] at hpc
       have hsn:=pcsT_none hpc
       rw[hQ] at hsn
       have hsm:=hsm hab
       have hcases:(dig a=true)\/(dig a=false/\dig b=false):=by
        rcases hac with rfl|rfl|rfl
        . left;rfl
        . left;rfl
        . right
          rcases hbc with rfl|rfl|rfl
          . exact absurd ⟨rfl,by decide⟩ hab
          . exact absurd ⟨rfl,by decide⟩ hab
          . exact⟨rfl,rfl⟩
       rcases hcases with hda|⟨hda,hdb⟩
       . rw[hda] at s1
         (try (conv=>whnf));repeat' (first|refine Ok.seq ?_|((first|refine Ok.region tok ?_|refine Ok.cond ?_);conv=>whnf)|refine Ok.block ?_|((first|refine Ok.skip ?_|refine Ok.exit ?_|refine nI ?_);conv=>whnf)|(refine Or.inr (Or.inr (Or.inr (Or.inr ?_)));(conv=>whnf);refine effW.of (effK.peek (by rfl) (pk2 (.bp _ _ ( crow L) rfl (fun d hd=>ints_crow _ d (List.mem_of_mem_drop hd))) (.i _ _)) (s1 ) ?_);rintro _ _ ⟨rfl,rfl⟩;(refine And.intro (by simp[gRowsP,grounds,D.ground]) ?_;conv=>whnf))|(refine Or.inr (Or.inr (Or.inr (Or.inr ?_)));(conv=>whnf);refine effW.of (effK.peek (by rfl) (pk2 (.bp _ _ ( crow d) rfl (fun d hd=>ints_crow _ d (List.mem_of_mem_drop hd))) (.i _ _)) (s2 ) ?_);rintro _ _ ⟨rfl,rfl⟩;(refine And.intro (by simp[gRowsP,grounds,D.ground]) ?_;conv=>whnf))|(refine bI ?_ ?_<;>intro<;>(conv=>whnf)<;>(try (exfalso;omega)))|fail)
         all_goals first
          | contradiction
          | (refine⟨i+1,by omega,by omega,?_⟩
             rw[hsm,hsn]
             (conv=>whnf)
             rfl)
          | (rename_i h;exact absurd rfl h)
       . rw[hda] at s1
         rw[hdb] at s2
         (try (conv=>whnf));repeat' (first|refine Ok.seq ?_|((first|refine Ok.region tok ?_|refine Ok.cond ?_);conv=>whnf)|refine Ok.block ?_|((first|refine Ok.skip ?_|refine Ok.exit ?_|refine nI ?_);conv=>whnf)|(refine Or.inr (Or.inr (Or.inr (Or.inr ?_)));(conv=>whnf);refine effW.of (effK.peek (by rfl) (pk2 (.bp _ _ ( crow L) rfl (fun d hd=>ints_crow _ d (List.mem_of_mem_drop hd))) (.i _ _)) (s1 ) ?_);rintro _ _ ⟨rfl,rfl⟩;(refine And.intro (by simp[gRowsP,grounds,D.ground]) ?_;conv=>whnf))|(refine Or.inr (Or.inr (Or.inr (Or.inr ?_)));(conv=>whnf);refine effW.of (effK.peek (by rfl) (pk2 (.bp _ _ ( crow d) rfl (fun d hd=>ints_crow _ d (List.mem_of_mem_drop hd))) (.i _ _)) (s2 ) ?_);rintro _ _ ⟨rfl,rfl⟩;(refine And.intro (by simp[gRowsP,grounds,D.ground]) ?_;conv=>whnf))|(refine bI ?_ ?_<;>intro<;>(conv=>whnf)<;>(try (exfalso;omega)))|fail)
         all_goals first
          | contradiction
          | (refine⟨i+1,by omega,by omega,?_⟩
             rw[hsm,hsn]
             (conv=>whnf)
             rfl)
          | (rename_i h;exact absurd (fun q=>by cases q) h)
   . have hie:i=c.length:=by omega
     subst hie
     have hsp:splitT c d=pcsT c d c.length:=if_pos hs
     rw[hsp]
     (try (conv=>whnf));repeat' (first|refine Ok.seq ?_|((first|refine Ok.region tok ?_|refine Ok.cond ?_|refine Ok.exit ?_|refine Ok.ret ?_);conv=>whnf)|(refine bI ?_ ?_<;>intro<;>(conv=>whnf)<;>(try (exfalso;omega)))|fail)
     refine Or.inl ?_;(conv=>whnf)
     refine⟨[],?_,rfl⟩
     rw[tkL0 (by simp),List.drop_of_length_le (by simp)]
     rfl
 . have hn:splitT c d=[c]:=by unfold splitT;rw[if_neg hs]
   rw[hn]
   (try (conv=>whnf));repeat' (first|refine Ok.seq ?_|((first|refine Ok.region tok ?_|refine Ok.cond ?_);conv=>whnf)|refine Ok.block ?_|((first|refine Ok.skip ?_|refine Ok.ret ?_);conv=>whnf)|(refine Or.inr (Or.inl ?_);(conv=>whnf);(repeat (refine aI ?_;conv=>whnf));refine⟨_,hm,?_⟩;rintro _ _ ⟨rfl,rfl⟩<;>(conv=>whnf))|(refine bI ?_ ?_<;>intro<;>(conv=>whnf)<;>(try (exfalso;omega)))|fail)
   . refine Or.inl ?_;(conv=>whnf)
     exact⟨_,rfl,rfl⟩
   . rename_i h
     exact absurd (Classical.not_not.1 h) hs
end Go.Proofs.YtnlingegeangmaaGreatDoor
namespace Go.Proofs.YtnlingegeangmaaGreatDoor
open Go Go.Vx Go.Shelf
theorem xs_bits(n:Nat)(i:Nat):car (xsT n) i=false/\one (xsT n) i=false:=by
 by_cases h:i<n
 . have e:(xsT n)[i]? = some 120:=by simp[xsT,List.getElem?_replicate,h]
   rw[(at_b e).1,(at_b e).2]
   exact⟨rfl,rfl⟩
 . exact at_out (by simp[xsT];omega)
theorem xs_wof{f:Nat->Bool}(h:∀ i,f i=false)(k:Nat):wof f k=0#64:=BitVec.eq_of_getLsbD_eq fun i hi=>by rw[wof_get _ _ _ hi,h];simp
theorem crow_xs(n:Nat):crow (xsT n)=[.i .i64 n,.i .u64 0,.i .u64 0,.i .u64 0,.i .u64 0,.i .u64 0,.i .u64 0,.i .u64 0,.i .u64 0]:=by
 have h1:=xs_wof (fun i=>(xs_bits n i).1)
 have h2:=xs_wof (fun i=>(xs_bits n i).2)
 simp only[crow,cells9,h1,h2,xsT_len]
 rfl
theorem xs_ct{n:Nat}(h:n<=256):CT (xsT n):=⟨by simp[xsT];omega,fun b hb=>by rw[(List.mem_replicate.1 hb).2];simp⟩
theorem xs_cn{n:Nat}(h:n<=256)(h0:1<=n):CN (xsT n):=⟨xs_ct h,fun e=>by have:=congrArg List.length e;rw[xsT_len] at this;simp at this;omega⟩
theorem xall_at(n:Nat)(h:n<=256)(h0:1<=n):FSpec Tryz.prog T 267 [.i .i64 (n:Nat)] (fun d rows=>d = .agg (crow (xsT n))/\rows=[]):=by
 refine FSpec.of_ok tok Tryz.func267 rfl Tryz.call267 (by simp) ?_
 rw[crow_xs]
 (try (conv=>whnf));repeat' (first|refine Ok.seq ?_|((first|refine Ok.region tok ?_|refine Ok.cond ?_|refine Ok.skip ?_|refine Ok.ret ?_);conv=>whnf)|(refine bI ?_ ?_<;>intro<;>(conv=>whnf)<;>(try (exfalso;omega)))|fail)
 all_goals first
  | (exfalso;omega)
  | (refine Or.inl ?_;(conv=>whnf)
     exact⟨rfl,rfl⟩)
end Go.Proofs.YtnlingegeangmaaGreatDoor
namespace Go.Proofs.YtnlingegeangmaaGreatDoor
open Go Go.Vx Go.Shelf
def oneTT(t:Tst)(b:Nat):Str:=if t.form=4 then t.pat else if t.form=2 then pfxT t.lo.toNat b t.len.toNat else pfxT t.lo.toNat b b
theorem one_at(f:Str)(op form hi:Int)(vl vn:Nat)(pat:Str)(b:Nat)(hb:b<=32)(hvl:vl<9223372036854775808)(hvn:vn<=b):FSpec Tryz.prog T 265 [.agg (tcl f op form vl hi vn pat),.i .i64 (b:Nat)] (fun d _=>d = .s (oneTT ⟨f,op,form,vl,hi,vn,pat⟩ b)):=by
 have hp1:=prefix_at vl b vn hvl (by omega) hvn vl b vn rfl rfl rfl
 have hp2:=prefix_at vl b b hvl (by omega) (Nat.le_refl _) vl b b rfl rfl rfl
 refine FSpec.of_ok tok Tryz.func265 rfl Tryz.call265 (by simp) ?_
 unfold oneTT
 dsimp only
 (try (conv=>whnf));repeat' (first|refine Ok.seq ?_|((first|refine Ok.region tok ?_|refine Ok.cond ?_);conv=>whnf)|refine Ok.block ?_|((first|refine Ok.skip ?_|refine Ok.ret ?_);conv=>whnf)|(refine Or.inl ?_;(conv=>whnf);(repeat (refine aI ?_;conv=>whnf));refine⟨_,hp1,rfl,?_⟩;conv=>whnf)|(refine Or.inl ?_;(conv=>whnf);(repeat (refine aI ?_;conv=>whnf));refine⟨_,hp2,rfl,?_⟩;conv=>whnf)|(refine bI ?_ ?_<;>intro<;>(conv=>whnf)<;>(try (exfalso;omega)))|fail)
 all_goals first
  | (exfalso;omega)
  | (refine Or.inl ?_;(conv=>whnf)
     first
      | (rw[if_pos (by omega)];rfl)
      | (rw[if_neg (by omega),if_pos (by omega)];rfl)
      | (rw[if_neg (by omega),if_neg (by omega)];rfl))
theorem one_len{t:Tst}{b:Nat}(h1:t.form=4->t.pat.length=b)(h2:t.len.toNat<=b):(oneTT t b).length=b:=by
 unfold oneTT
 split
 . rename_i h;exact h1 h
 split
 . exact pfxT_len h2
 . exact pfxT_len (Nat.le_refl _)
theorem pfx_cub(v b n:Nat):cubOk (pfxT v b n):=by
 intro x hx
 unfold pfxT at hx
 rcases mAp0.1 hx with h|h
 . unfold binT at h
   obtain⟨i,_,rfl⟩:=List.mem_map.1 h
   unfold bitC
   split<;>simp
 . rw[(List.mem_replicate.1 h).2];simp
theorem one_cub{t:Tst}{b:Nat}(h1:t.form=4->cubOk t.pat):cubOk (oneTT t b):=by
 unfold oneTT
 split
 . rename_i h;exact h1 h
 split
 . exact pfx_cub _ _ _
 . exact pfx_cub _ _ _
end Go.Proofs.YtnlingegeangmaaGreatDoor
namespace Go.Proofs.YtnlingegeangmaaGreatDoor
open Go Go.Vx Go.Shelf
def eitT(t:Tst)(b:Nat):List Str:=
 if t.form=3 then (if t.op=1 then coverC b (t.hi.toNat+1) t.lo.toNat else coverC b t.lo.toNat 0++coverC b (tw b) (t.hi.toNat+1))
 else if t.op=1 then [oneTT t b] else splitT (xsT b) (oneTT t b)
def valT(t:Tst)(b:Nat):List Str:=
 if t.op<=2 then eitT t b else if t.op=3 then coverC b t.lo.toNat 0 else if t.op=4 then coverC b (t.lo.toNat+1) 0
 else if t.op=5 then coverC b (tw b) (t.lo.toNat+1) else coverC b (tw b) t.lo.toNat
theorem either_at(f:Str)(op form:Int)(vl vh vn:Nat)(pat:Str)(b:Nat)(h0:1<=b)(hb:b<=32)(hvl:vl<tw b)(hvh:vh<tw b)(hvn:vn<=b)(hpl:form=4->pat.length=b)(hpc:form=4->cubOk pat) :
    FSpec Tryz.prog T 242 [.agg (tcl f op form vl vh vn pat),.i .i64 (b:Nat)] (fun d rows=>d = .own 0 (eitT ⟨f,op,form,vl,vh,vn,pat⟩ b).length/\rows=[some (9,(eitT ⟨f,op,form,vl,vh,vn,pat⟩ b).map srow)]):=by
 have htb:=tw62 (show b<=62 by omega)
 have htop:=top_at b (by omega)
 refine FSpec.of_ok tok Tryz.func242 rfl Tryz.call242 (by simp) ?_
 unfold eitT
 dsimp only
 simp only[Int.toNat_natCast]
 by_cases h3:form=3
 . rw[if_pos h3]
   by_cases h1:op=1
   . rw[if_pos h1]
     have hc:=cover_at b vl (vh+1) hb (by omega) (by omega) b vl vh rfl rfl (by omega)
     generalize coverC b (vh+1) vl=C at *
     have hlm:(C.map srow).length=C.length:=by simp
     (try (conv=>whnf));repeat' (first|refine Ok.seq ?_|((first|refine Ok.region tok ?_|refine Ok.cond ?_|refine Ok.ret ?_);conv=>whnf)|(refine Or.inr (Or.inl ?_);(conv=>whnf);(repeat (refine aI ?_;conv=>whnf));refine⟨_,hc,?_⟩;rintro _ _ ⟨rfl,rfl⟩;conv=>whnf)|(refine bI ?_ ?_<;>intro<;>(conv=>whnf)<;>(try (exfalso;omega)))|fail)
     all_goals first
      | (exfalso;omega)
      | (refine Or.inr (Or.inl ?_);(conv=>whnf)
         exact⟨rfl,rfl⟩)
   . rw[if_neg h1]
     have hc1:=cover_at b 0 vl hb (by omega) (by omega) b 0 ((vl:Int) - 1) rfl rfl rfl
     have hc2:=cover_at b (vh+1) (tw b) hb (by omega) (by omega) b ((vh:Int)+1) ((tw b:Int) - 1) rfl rfl rfl
     have hl1:=coverC_len (bits:=b) (lo:=0) (H:=vl) (by show vl<=tw b;omega)
     have hl2:=coverC_len (bits:=b) (lo:=vh+1) (H:=tw b) (Nat.le_refl _)
     generalize coverC b vl 0=A at *
     generalize coverC b (tw b) (vh+1)=B at *
     have hlA:(A.map srow).length=A.length:=by simp
     have hlB:(B.map srow).length=B.length:=by simp
     (try (conv=>whnf));repeat' (first|(refine⟨B.map srow,.inl ⟨hlB.symm,rfl⟩,?_⟩;conv=>whnf)|refine Ok.seq ?_|((first|refine Ok.region tok ?_|refine Ok.region_plan (id:=4) tok follows [(2,4,[3]),(2,10,[4,3]),(4,10,[]),(2,11,[10,4,3]),(7,11,[8]),(4,11,[10]),(10,11,[]),(2,12,[4,3]),(7,12,[11,8]),(4,12,[]),(10,12,[11]),(11,12,[])] [.q 0,.q 1,.q 2,.q 3,.q 5,.q 6,.q 7,.q 8,.q 9,.l 4,.l 10,.l 11,.l 12,.q 13] (by kernel_rfl) ?_|refine Ok.cond ?_|refine Ok.skip ?_|refine Ok.ret ?_|refine nI ?_);conv=>whnf)|(refine Or.inl ?_;(conv=>whnf);(repeat (refine aI ?_;conv=>whnf));refine⟨_,htop,rfl,?_⟩;conv=>whnf)|(refine Or.inr (Or.inl ?_);(conv=>whnf);(repeat (refine aI ?_;conv=>whnf));refine⟨_,hc1,?_⟩;rintro _ _ ⟨rfl,rfl⟩;conv=>whnf)|(refine Or.inr (Or.inl ?_);(conv=>whnf);(repeat (refine aI ?_;conv=>whnf));refine⟨_,hc2,?_⟩;rintro _ _ ⟨rfl,rfl⟩;conv=>whnf)|((first|refine Alt2.l (aI ?_)|refine⟨_,_,rfl,rfl,?_⟩);conv=>whnf)|(refine bI ?_ ?_<;>intro<;>(conv=>whnf)<;>(try (exfalso;omega)))|(refine aJ ?_;conv=>whnf)|fail)
     all_goals first
      | (exfalso;omega)
      | (refine Or.inr (Or.inl ?_);(conv=>whnf)
         exact⟨by simp;rfl,by simp⟩)
 . rw[if_neg h3]
   have ho:=one_at f op form vh vl vn pat b hb (by omega) hvn
   have hcl:(oneTT ⟨f,op,form,vl,vh,vn,pat⟩ b).length=b:=one_len hpl (by simp;omega)
   have hcc:cubOk (oneTT ⟨f,op,form,vl,vh,vn,pat⟩ b):=one_cub hpc
   generalize oneTT ⟨f,op,form,vl,vh,vn,pat⟩ b=c at *
   have hct:CT c:=⟨by omega,hcc⟩
   by_cases h1:op=1
   . rw[if_pos h1]
     (try (conv=>whnf));repeat' (first|refine Ok.seq ?_|((first|refine Ok.region tok ?_|refine Ok.cond ?_|refine Ok.skip ?_|refine Ok.ret ?_);conv=>whnf)|(refine Or.inl ?_;(conv=>whnf);(repeat (refine aI ?_;conv=>whnf));refine⟨_,ho,rfl,?_⟩;conv=>whnf)|(refine bI ?_ ?_<;>intro<;>(conv=>whnf)<;>(try (exfalso;omega)))|fail)
     all_goals first
      | (exfalso;omega)
      | (refine Or.inr (Or.inl ?_);(conv=>whnf)
         exact⟨rfl,rfl⟩)
   . rw[if_neg h1]
     have hne:c ≠ []:=fun e=>by rw[e] at hcl;simp at hcl;omega
     have hpz:perr c=0:=by unfold perr;rw[if_neg (by omega),if_pos ⟨hct,hne⟩]
     have hpa:=parse_at c
     rw[zer_of ⟨hct,hne⟩,hpz] at hpa
     have hsp:=split_at (xsT b) c (xs_cn (by omega) h0) hct
     have hPc:=splitT_cn (xs_cn (show b<=256 by omega) h0) hct
     have hPl:=splitT_len (c:=xsT b) (d:=c) (by rw[xsT_len];omega)
     generalize splitT (xsT b) c=P at *
     have hlP:(P.map crow).length=P.length:=by simp
     (try (conv=>whnf));repeat' (first|refine Ok.seq ?_|((first|refine Ok.region tok ?_|refine Ok.region_plan (id:=10) tok follows [(2,3,[]),(1,3,[])] [.q 0,.q 2,.q 5,.l 1,.l 3,.q 4] (by kernel_rfl) ?_|refine Ok.cond ?_);conv=>whnf)|refine Ok.block ?_|(refine Ok.skip ?_;conv=>whnf)|(refine Or.inl ?_;(conv=>whnf);(repeat (refine aI ?_;conv=>whnf));refine⟨_,ho,rfl,?_⟩;conv=>whnf)|(refine Or.inr (Or.inl ?_);(conv=>whnf);(repeat (refine aI ?_;conv=>whnf));refine⟨_,hpa,?_⟩;rintro _ _ ⟨rfl,rfl⟩;conv=>whnf)|(refine Or.inr (Or.inl ?_);(conv=>whnf);(repeat (refine aI ?_;conv=>whnf));refine⟨_,xall_at b (by omega) h0,?_⟩;rintro _ _ ⟨rfl,rfl⟩;conv=>whnf)|(refine Or.inr (Or.inl ?_);(conv=>whnf);(repeat (refine aI ?_;conv=>whnf));refine⟨_,hsp , ?_⟩;rintro _ _ ⟨rm,rfl,rfl⟩<;>(conv=>whnf))|(refine bI ?_ ?_<;>intro<;>(conv=>whnf)<;>(try (exfalso;omega)))|fail)
     all_goals first
      | (exfalso;omega)
      | skip
     refine Ok.ghost 8 9 rfl ?_
     (conv=>whnf)
     refine Ok.loopU [52,53] [8,54] 1 2 (fun (i:Nat)=>[.own 0 i,.i .i64 (i:Nat)]) (fun _ b=>b) (fun (i:Nat) (_:Vx.Rows)=>[some (9,(P.take i).map srow)]) (fun (i:Nat)=>i<=P.length) (fun (i:Nat)=>P.length - i) (0) (Nat.zero_le _) ?_;(conv=>whnf);refine⟨by ((conv=>whnf);first|rfl|(simp[envCat,tkL0,nrow,frow,bcell,srow,tcells,crow];done)|(simp[envCat,tkL0,nrow,frow,bcell,srow,tcells,crow];rw[IntKind.wrap_i64];omega)),?_⟩
     intro i hi
     have hti:((P.take i).map srow).length=i:=by simp;omega
     (conv=>whnf)
     by_cases hil:i<P.length
     . obtain⟨x,hx⟩:∃ x,P[i]? = some x:=⟨_,gEt0 hil⟩
       have hxI:P[((i:Nat):Int).toNat]? = some x:=hx
       have hxt:=text_at x (hPc x (mOf0 hx)).1.1
       have hsn:(P.take (i+1)).map srow=(P.take i).map srow++[srow x]:=by rw[take_snoc hx,List.map_append];rfl
       (try (conv=>whnf));repeat' (first|refine Ok.seq ?_|((first|refine Ok.region tok ?_|refine Ok.cond ?_);conv=>whnf)|refine Ok.block ?_|((first|refine Ok.skip ?_|refine nI ?_|refine ix _ (by assumption) ?_);conv=>whnf)|(refine Or.inl ?_;(conv=>whnf);(repeat (refine aI ?_;conv=>whnf));refine⟨_,hxt,rfl,?_⟩;conv=>whnf)|((first|refine Alt2.l (aI ?_)|refine⟨_,.inl ⟨rfl,rfl⟩,?_⟩|refine⟨_,_,rfl,rfl,?_⟩);conv=>whnf)|(refine bI ?_ ?_<;>intro<;>(conv=>whnf)<;>(try (exfalso;omega)))|(refine aJ ?_;conv=>whnf)|fail)
       all_goals first
        | (exfalso;omega)
        | skip
       refine⟨i+1,by omega,by omega,?_⟩
       rw[hsn]
       (conv=>whnf)
       simp[envCat]
       omega
     . have hie:i=P.length:=by omega
       subst hie
       rw[List.take_length]
       (try (conv=>whnf));repeat' (first|refine Ok.seq ?_|((first|refine Ok.region tok ?_|refine Ok.cond ?_|refine Ok.exit ?_|refine Ok.ret ?_);conv=>whnf)|(refine bI ?_ ?_<;>intro<;>(conv=>whnf)<;>(try (exfalso;omega)))|fail)
       all_goals first
        | (exfalso;omega)
        | (refine Or.inr (Or.inl ?_);(conv=>whnf)
           exact⟨rfl,rfl⟩)
theorem values_at(f:Str)(op form:Int)(vl vh vn:Nat)(pat:Str)(b:Nat)(h0:1<=b)(hb:b<=32)(ho:1<=op/\op<=6)(hvl:vl<tw b)(hvh:vh<tw b)(hvn:vn<=b)(hpl:form=4->pat.length=b)(hpc:form=4->cubOk pat) :
    FSpec Tryz.prog T 218 [.agg (tcl f op form vl vh vn pat),.i .i64 (b:Nat)] (fun d rows=>d = .own 0 (valT ⟨f,op,form,vl,vh,vn,pat⟩ b).length/\rows=[some (9,(valT ⟨f,op,form,vl,vh,vn,pat⟩ b).map srow)]):=by
 have htb:=tw62 (show b<=62 by omega)
 have htop:=top_at b (by omega)
 refine FSpec.of_ok tok Tryz.func218 rfl Tryz.call218 (by simp) ?_
 unfold valT
 dsimp only
 simp only[Int.toNat_natCast]
 by_cases h2:op<=2
 . rw[if_pos h2]
   have he:=either_at f op form vl vh vn pat b h0 hb hvl hvh hvn hpl hpc
   generalize eitT ⟨f,op,form,vl,vh,vn,pat⟩ b=C at *
   have hlm:(C.map srow).length=C.length:=by simp
   (try (conv=>whnf));repeat' (first|refine Ok.seq ?_|((first|refine Ok.region tok ?_|refine Ok.region_draw tok follows (by kernel_rfl) ?_|refine Ok.cond ?_);conv=>whnf)|refine Ok.block ?_|((first|refine Ok.skip ?_|refine Ok.exit ?_|refine Ok.ret ?_);conv=>whnf)|(refine Or.inr (Or.inl ?_);(conv=>whnf);(repeat (refine aI ?_;conv=>whnf));refine⟨_,he,?_⟩;rintro _ _ ⟨rfl,rfl⟩;conv=>whnf)|(refine bI ?_ ?_<;>intro<;>(conv=>whnf)<;>(try (exfalso;omega)))|fail)
   all_goals first
    | (exfalso;omega)
    | (refine Or.inr (Or.inl ?_);(conv=>whnf)
       exact⟨rfl,rfl⟩)
 rw[if_neg h2]
 by_cases h3:op=3
 . rw[if_pos h3]
   have hc:=cover_at b 0 vl hb (by omega) (by omega) b 0 ((vl:Int) - 1) rfl rfl rfl
   generalize coverC b vl 0=C at *
   have hlm:(C.map srow).length=C.length:=by simp
   (try (conv=>whnf));repeat' (first|refine Ok.seq ?_|((first|refine Ok.region tok ?_|refine Ok.region_draw tok follows (by kernel_rfl) ?_|refine Ok.cond ?_);conv=>whnf)|refine Ok.block ?_|((first|refine Ok.skip ?_|refine Ok.exit ?_|refine Ok.ret ?_|refine nI ?_);conv=>whnf)|(refine Or.inr (Or.inl ?_);(conv=>whnf);(repeat (refine aI ?_;conv=>whnf));refine⟨_,hc,?_⟩;rintro _ _ ⟨rfl,rfl⟩;conv=>whnf)|(refine bI ?_ ?_<;>intro<;>(conv=>whnf)<;>(try (exfalso;omega)))|fail)
   all_goals first
    | (exfalso;omega)
    | (refine Or.inr (Or.inl ?_);(conv=>whnf)
       exact⟨rfl,rfl⟩)
 rw[if_neg h3]
 by_cases h4:op=4
 . rw[if_pos h4]
   have hc:=cover_at b 0 (vl+1) hb (by omega) (by omega) b 0 ((vl:Int)+1 - 1) rfl rfl (by omega)
   generalize coverC b (vl+1) 0=C at *
   have hlm:(C.map srow).length=C.length:=by simp
   (try (conv=>whnf));repeat' (first|refine Ok.seq ?_|((first|refine Ok.region tok ?_|refine Ok.region_draw tok follows (by kernel_rfl) ?_|refine Ok.cond ?_);conv=>whnf)|refine Ok.block ?_|((first|refine Ok.skip ?_|refine Ok.exit ?_|refine Ok.ret ?_|refine nI ?_);conv=>whnf)|(refine Or.inr (Or.inl ?_);(conv=>whnf);(repeat (refine aI ?_;conv=>whnf));refine⟨_,hc,?_⟩;rintro _ _ ⟨rfl,rfl⟩;conv=>whnf)|(refine bI ?_ ?_<;>intro<;>(conv=>whnf)<;>(try (exfalso;omega)))|fail)
   all_goals first
    | (exfalso;omega)
    | (refine Or.inr (Or.inl ?_);(conv=>whnf)
       exact⟨rfl,rfl⟩)
 rw[if_neg h4]
 by_cases h5:op=5
 . rw[if_pos h5]
   have hc:=cover_at b (vl+1) (tw b) hb (by omega) (by omega) b ((vl:Int)+1) ((tw b:Int) - 1) rfl rfl rfl
   generalize coverC b (tw b) (vl+1)=C at *
   have hlm:(C.map srow).length=C.length:=by simp
   (try (conv=>whnf));repeat' (first|refine Ok.seq ?_|((first|refine Ok.region tok ?_|refine Ok.region_draw tok follows (by kernel_rfl) ?_|refine Ok.cond ?_);conv=>whnf)|refine Ok.block ?_|((first|refine Ok.skip ?_|refine Ok.exit ?_|refine Ok.ret ?_|refine nI ?_);conv=>whnf)|(refine Or.inl ?_;(conv=>whnf);(repeat (refine aI ?_;conv=>whnf));refine⟨_,htop,rfl,?_⟩;conv=>whnf)|(refine Or.inr (Or.inl ?_);(conv=>whnf);(repeat (refine aI ?_;conv=>whnf));refine⟨_,hc,?_⟩;rintro _ _ ⟨rfl,rfl⟩;conv=>whnf)|(refine bI ?_ ?_<;>intro<;>(conv=>whnf)<;>(try (exfalso;omega)))|fail)
   all_goals first
    | (exfalso;omega)
    | (refine Or.inr (Or.inl ?_);(conv=>whnf)
       exact⟨rfl,rfl⟩)
 rw[if_neg h5]
 have hc:=cover_at b vl (tw b) hb (by omega) (by omega) b ((vl:Int) - 1+1) ((tw b:Int) - 1) rfl (by omega) rfl
 generalize coverC b (tw b) vl=C at *
 have hlm:(C.map srow).length=C.length:=by simp
 (try (conv=>whnf));repeat' (first|refine Ok.seq ?_|((first|refine Ok.region tok ?_|refine Ok.region_draw tok follows (by kernel_rfl) ?_|refine Ok.cond ?_);conv=>whnf)|refine Ok.block ?_|((first|refine Ok.skip ?_|refine Ok.exit ?_|refine Ok.ret ?_|refine nI ?_);conv=>whnf)|(refine Or.inl ?_;(conv=>whnf);(repeat (refine aI ?_;conv=>whnf));refine⟨_,htop,rfl,?_⟩;conv=>whnf)|(refine Or.inr (Or.inl ?_);(conv=>whnf);(repeat (refine aI ?_;conv=>whnf));refine⟨_,hc,?_⟩;rintro _ _ ⟨rfl,rfl⟩;conv=>whnf)|(refine bI ?_ ?_<;>intro<;>(conv=>whnf)<;>(try (exfalso;omega)))|fail)
 all_goals first
  | (exfalso;omega)
  | (refine Or.inr (Or.inl ?_);(conv=>whnf)
     exact⟨rfl,rfl⟩)
end Go.Proofs.YtnlingegeangmaaGreatDoor
namespace Go.Proofs.YtnlingegeangmaaGreatDoor
open Go Go.Vx Go.Shelf
theorem chkFrom_lay{all:List Fd}:∀ (r:List Fd) (i:Nat) (sum:Int),(chkFrom all r i sum).1=0->∀ f ∈ r,1<=f.bits/\f.bits<=32
 | [],_,_,_=>by simp
 | f :: r,i,sum,h=>by
  by_cases hb:badF (all.take i) f sum
  . rw[chkFrom_bad hb] at h;cases h
  . rw[chkFrom_ok hb] at h
    intro g hg
    rcases List.mem_cons.1 hg with rfl|hg
    . refine⟨Classical.byContradiction fun e=>hb ?_,Classical.byContradiction fun e=>hb ?_⟩
      . exact .inr (.inr (.inr (.inr (.inl (by omega)))))
      . exact .inr (.inr (.inr (.inr (.inr (.inl (by omega))))))
    . exact chkFrom_lay r _ _ h g hg
theorem chk_lay{l:List Fd}(h:(chkO l).1=0):LayF l/\l.length<=12:=by
 by_cases h1:12<l.length
 . rw[chkO_long h1] at h;cases h
 by_cases h2:l.length=0
 . rw[chkO_nil h2] at h;cases h
 rw[chkO_of h1 h2] at h
 exact⟨chkFrom_lay _ _ _ h,by omega⟩
theorem errT_zero{t:Tst}{b:Nat}(h:errT t b=0):FormOk t/\ValOk t b/\(t.form=4->DigOk t.pat b):=by
 by_cases h1:FormOk t
 . by_cases h2:ValOk t b
   . refine⟨h1,h2,fun h4=>Classical.byContradiction fun hd=>?_⟩
     by_cases h3:t.form=2/\t.lo.toNat % tw (b - t.len.toNat) ≠ 0
     . rw[errT_pre h1 h2 h3] at h;cases h
     . by_cases h5:t.form=3/\t.hi<t.lo
       . rw[errT_rng h1 h2 h3 h5] at h;cases h
       . rw[errT_dig h1 h2 h3 h5 ⟨h4,hd⟩] at h;cases h
   . rw[errT_val h1 h2] at h;cases h
 . rw[errT_form h1] at h;cases h
theorem coverF_one{bits H:Nat}:∀ (k lo:Nat),∀ s ∈ coverF bits H k lo,s.length=bits
 | 0,lo=>by simp[coverF]
 | k+1,lo=>by
  unfold coverF
  split
  . intro s hs
    rcases List.mem_cons.1 hs with rfl|hs
    . exact pfxT_len (Nat.sub_le _ _)
    . exact coverF_one k _ s hs
  . simp
theorem val_one{t:Tst}{b:Nat}(h0:1<=b)(hb:b<=32)(hpl:t.form=4->DigOk t.pat b)(hn:t.len.toNat<=b):∀ s ∈ valT t b,s.length=b:=by
 have hc:∀ H lo,∀ s ∈ coverC b H lo,s.length=b:=fun H lo=>coverF_one _ _
 have hol:=one_len (t:=t) (b:=b) (fun h=>(hpl h).1) hn
 have hoc:=one_cub (t:=t) (b:=b) (fun h=>(hpl h).2)
 intro s hs
 unfold valT eitT at hs
 repeat' split at hs
 all_goals first
  | exact hc _ _ s hs
  | (rcases mAp0.1 hs with h|h<;>exact hc _ _ s h)
  | (rw[List.mem_singleton.1 hs];exact hol)
  | (rw[((splitT_cn (xs_cn (by omega) h0) ⟨by omega,hoc⟩) s hs).2,xsT_len])
theorem val_len{t:Tst}{b:Nat}(h0:1<=b)(hb:b<=32)(h1:t.lo.toNat<tw b)(h2:t.hi.toNat<tw b):(valT t b).length<=400:=by
 have hc:∀ H lo,H<=tw b->(coverC b H lo).length<=66:=fun H lo h=>by
  have:=coverC_len (bits:=b) (lo:=lo) (H:=H) h
  omega
 unfold valT eitT
 repeat' split
 all_goals first
  | (refine Nat.le_trans (hc _ _ (by omega)) (by omega))
  | (rw[List.length_append]
     have a1:=hc t.lo.toNat 0 (by omega)
     have a2:=hc (tw b) (t.hi.toNat+1) (Nat.le_refl _)
     omega)
  | (simp;done)
  | (refine Nat.le_trans (splitT_len (by rw[xsT_len];omega)) (by omega))
theorem wid_app(l:List Fd)(k:Nat):wid l=wid (l.take k)+wid (l.drop k):=by
 unfold wid
 rw[<- List.sum_append,<- List.map_append,List.take_append_drop]
theorem lay_take{l:List Fd}(h:LayF l)(k:Nat):LayF (l.take k):=fun x hx=>h x (List.mem_of_mem_take hx)
theorem lay_drop{l:List Fd}(h:LayF l)(k:Nat):LayF (l.drop k):=fun x hx=>h x (List.mem_of_mem_drop hx)
open Classical in
noncomputable def errC(l:List Fd)(t:Tst):Int:=if (chkO l).1 ≠ 0 then (chkO l).1 else errF l t
theorem errC_chk{l:List Fd}{t:Tst}(h:(chkO l).1 ≠ 0):errC l t=(chkO l).1:=by unfold errC;rw[if_pos h]
theorem errC_f{l:List Fd}{t:Tst}(h:(chkO l).1=0):errC l t=errF l t:=by unfold errC;rw[if_neg (fun e=>e h)]
def wrapT(l:List Fd)(k:Nat)(x:Str):Str:=xsT (wid (l.take k))++x++xsT (wid (l.drop (k+1)))
def cubL(l:List Fd)(t:Tst):List Str:=match l[(findI t.f l 0).toNat]? with
 | some c=>(valT t c.bits.toNat).map (wrapT l (findI t.f l 0).toNat)
 | none=>[]
theorem cubes_err(l:List Fd)(r:List (List D))(hl:l.length<=1000)(f:Str)(op form lo hi len:Int)(pat:Str)(hs:pat.length<=1000000000000)(he:errC l ⟨f,op,form,lo,hi,len,pat⟩ ≠ 0) :
    FSpec Tryz.prog T 178 [.lst 93 (l.map frow) r,.agg (tcl f op form lo hi len pat)] (fun d rows=>d = .tup [.own 0 0,.i .i64 (errC l ⟨f,op,form,lo,hi,len,pat⟩)]/\rows=[some (9,[])]):=by
 have h1:(l.map frow).length=l.length:=by simp
 have hch:=check_at l r (by omega)
 have hfd:=find_at l r f (by omega)
 refine FSpec.of_ok tok Tryz.func178 rfl Tryz.call178 (by simp) ?_
 by_cases hc0:(chkO l).1=0
 . obtain⟨hlay,_⟩:=chk_lay hc0
   rw[errC_f hc0] at he ⊢
   rcases find_cases f l with hfi|⟨k,c,hfi,hc⟩
   . rw[errF_none hfi]
     rw[hfi] at hfd
     (try (conv=>whnf));repeat' (first|refine Ok.seq ?_|((first|refine Ok.region tok ?_|refine Ok.cond ?_|refine Ok.skip ?_|refine Ok.ret ?_);conv=>whnf)|(refine Or.inl ?_;(conv=>whnf);(repeat (refine aI ?_;conv=>whnf));refine⟨_,hch,rfl,?_⟩;conv=>whnf)|(refine Or.inl ?_;(conv=>whnf);(repeat (refine aI ?_;conv=>whnf));refine⟨_,hfd,rfl,?_⟩;conv=>whnf)|(refine bI ?_ ?_<;>intro<;>(conv=>whnf)<;>(try (exfalso;omega)))|fail)
     all_goals first
      | (exfalso;omega)
      | (refine Or.inr (Or.inr ?_);(conv=>whnf)
         exact⟨rfl,rfl⟩)
   . have hcb:=hlay _ (mOf0 hc)
     have hcI:l[((k:Nat):Int).toNat]? = some c:=hc
     have hft:=fit_at f op form lo hi len pat c.bits.toNat (by omega) (by omega) hs
     rw[show ((c.bits.toNat:Nat):Int)=c.bits by omega] at hft
     rw[errF_some hfi hc] at he ⊢
     rw[hfi] at hfd
     generalize errT ⟨f,op,form,lo,hi,len,pat⟩ c.bits.toNat=e at *
     (try (conv=>whnf));repeat' (first|refine Ok.seq ?_|((first|refine Ok.region tok ?_|refine Ok.cond ?_|refine Ok.skip ?_|refine Ok.ret ?_|refine ix _ (by assumption) ?_);conv=>whnf)|(refine Or.inl ?_;(conv=>whnf);(repeat (refine aI ?_;conv=>whnf));refine⟨_,hch,rfl,?_⟩;conv=>whnf)|(refine Or.inl ?_;(conv=>whnf);(repeat (refine aI ?_;conv=>whnf));refine⟨_,hfd,rfl,?_⟩;conv=>whnf)|(refine Or.inl ?_;(conv=>whnf);(repeat (refine aI ?_;conv=>whnf));refine⟨_,hft,rfl,?_⟩;conv=>whnf)|(refine bI ?_ ?_<;>intro<;>(conv=>whnf)<;>(try (exfalso;omega)))|fail)
     all_goals first
      | (exfalso;omega)
      | (refine Or.inr (Or.inr ?_);(conv=>whnf)
         exact⟨rfl,rfl⟩)
 . rw[errC_chk hc0]
   generalize (chkO l).1=e at *
   (try (conv=>whnf));repeat' (first|refine Ok.seq ?_|((first|refine Ok.region tok ?_|refine Ok.cond ?_|refine Ok.ret ?_);conv=>whnf)|(refine Or.inl ?_;(conv=>whnf);(repeat (refine aI ?_;conv=>whnf));refine⟨_,hch,rfl,?_⟩;conv=>whnf)|(refine bI ?_ ?_<;>intro<;>(conv=>whnf)<;>(try (exfalso;omega)))|fail)
   all_goals first
    | (exfalso;omega)
    | (refine Or.inr (Or.inr ?_);(conv=>whnf)
       exact⟨rfl,rfl⟩)
def gL(A B:Str)(C:List Str)(i:Nat):List Str:=(C.take i).map (fun x=>A++x++B)++C.drop i
theorem gL_len(A B:Str)(C:List Str){i:Nat}(h:i<=C.length):(gL A B C i).length=C.length:=by simp[gL];omega
theorem gL_zero(A B:Str)(C:List Str):gL A B C 0=C:=by simp[gL]
theorem gL_end(A B:Str)(C:List Str):gL A B C C.length=C.map (fun x=>A++x++B):=by simp[gL]
theorem gL_get{A B:Str}{C:List Str}{i:Nat}{x:Str}(h:C[i]? = some x):(gL A B C i)[i]? = some x:=by
 have hi:=(gSm0.1 h).1
 unfold gL
 rw[List.getElem?_append_right (by simp;omega)]
 simp[Nat.min_eq_left (Nat.le_of_lt hi),h]
theorem gL_set{A B:Str}{C:List Str}{i:Nat}{x:Str}(h:C[i]? = some x):(gL A B C i).set i (A++x++B)=gL A B C (i+1):=by
 obtain⟨hi,rfl⟩:=gSm0.1 h
 unfold gL
 have h1:((C.take i).map fun x=>A++x++B).length=i:=by simp;omega
 rw[List.set_append_right _ _ (by omega),h1,Nat.sub_self,List.drop_eq_getElem_cons hi,take_snoc h,List.map_append,List.set_cons_zero]
 simp only[List.map_cons,List.map_nil,List.append_assoc,List.cons_append,List.nil_append]
theorem cubL_at{l:List Fd}{t:Tst}{k:Nat}{c:Fd}(hfi:findI t.f l 0=(k:Nat))(hc:l[k]? = some c):cubL l t=(valT t c.bits.toNat).map (fun x=>xsT (wid (l.take k))++x++xsT (wid (l.drop (k+1)))):=by
 unfold cubL
 rw[hfi,Int.toNat_natCast,hc]
 rfl
theorem cubes_ok(l:List Fd)(r:List (List D))(hl:l.length<=1000)(f:Str)(op form lo hi len:Int)(pat:Str)(hs:pat.length<=1000000000000)(he:errC l ⟨f,op,form,lo,hi,len,pat⟩=0) :
    FSpec Tryz.prog T 178 [.lst 93 (l.map frow) r,.agg (tcl f op form lo hi len pat)] (fun d rows=>d = .tup [.own 0 (cubL l ⟨f,op,form,lo,hi,len,pat⟩).length,.i .i64 0]/\rows=[some (9,(cubL l ⟨f,op,form,lo,hi,len,pat⟩).map srow)]):=by
 have h1:(l.map frow).length=l.length:=by simp
 have hch:=check_at l r (by omega)
 have hfd:=find_at l r f (by omega)
 by_cases hc0:(chkO l).1=0
 case neg=>exact absurd he (by rw[errC_chk hc0];exact hc0)
 obtain⟨hlay,hl12⟩:=chk_lay hc0
 rw[errC_f hc0] at he
 rcases find_cases f l with hfi|⟨k,c,hfi,hc⟩
 . rw[errF_none hfi] at he;cases he
 rw[errF_some hfi hc] at he
 rw[cubL_at hfi hc]
 have hcb:=hlay _ (mOf0 hc)
 have hcI:l[((k:Nat):Int).toNat]? = some c:=hc
 have hkl:=(gSm0.1 hc).1
 obtain⟨b,hb⟩:∃ b:Nat,c.bits=(b:Nat):=⟨c.bits.toNat,by omega⟩
 have hft:=fit_at f op form lo hi len pat c.bits.toNat (by omega) (by omega) hs
 rw[he,show ((c.bits.toNat:Nat):Int)=c.bits by omega] at hft
 rw[show c.bits.toNat=b by omega] at he ⊢
 rw[hfi] at hfd
 obtain⟨hF,hV,hD⟩:=errT_zero he
 have hV2:=hV
 unfold ValOk at hV2
 have hA:=hF.a
 dsimp only at hV2 hA hD
 obtain⟨vl,rfl⟩:∃ v:Nat,lo=v:=⟨lo.toNat,by omega⟩
 obtain⟨vh,rfl⟩:∃ v:Nat,hi=v:=⟨hi.toNat,by omega⟩
 obtain⟨vn,rfl⟩:∃ v:Nat,len=v:=⟨len.toNat,by omega⟩
 have hva:=values_at f op form vl vh vn pat b (by omega) (by omega) (by omega) (by omega) (by omega) (by omega) (fun h=>(hD h).1) (fun h=>(hD h).2)
 have hvo:=val_one (t:=⟨f,op,form,vl,vh,vn,pat⟩) (b:=b) (by omega) (by omega) hD (by simp;omega)
 have hvn:=val_len (t:=⟨f,op,form,vl,vh,vn,pat⟩) (b:=b) (by omega) (by omega) (by simp;omega) (by simp;omega)
 rw[<- hb] at hva
 generalize valT ⟨f,op,form,vl,vh,vn,pat⟩ b=C at *
 have hlt:=lay_take hlay k
 have hld:=lay_drop hlay (k+1)
 have hw1:=wid_le hlt
 have hw2:=wid_le hld
 have ht1:(l.take k).length=k:=by simp;omega
 have ht2:(l.drop (k+1)).length=l.length - (k+1):=by simp
 have hx1:=xrep_at (wid (l.take k)) (by omega)
 have hx2:=xrep_at (wid (l.drop (k+1))) (by omega)
 have hxl1:=xsT_len (wid (l.take k))
 have hxl2:=xsT_len (wid (l.drop (k+1)))
 have hwa:=fun r=>width_at (l.take k) r (by omega) hlt
 have hwb:=fun r=>width_at (l.drop (k+1)) r (by omega) hld
 have hm1:(l.take k).map frow=((l.map frow++r).take k).drop 0:=by rw[List.drop_zero,List.take_append_of_le_length (by omega),List.map_take]
 have hm2:(l.drop (k+1)).map frow=((l.map frow++r).take (l.map frow).length).drop (k+1):=by rw[List.take_append_of_le_length (Nat.le_refl _),List.take_length,List.map_drop]
 generalize xsT (wid (l.take k))=X at *
 generalize xsT (wid (l.drop (k+1)))=Y at *
 have hlC:(C.map srow).length=C.length:=by simp
 refine FSpec.of_ok tok Tryz.func178 rfl Tryz.call178 (by simp) ?_
 (try (conv=>whnf));repeat' (first|((first|refine⟨k+1,(l.map frow).length,rfl,rfl,(by omega),(by omega),(l.drop (k+1)).map frow,_,hm2,rfl,?_⟩|refine⟨(l.take k).map frow,_,hm1,rfl,?_⟩);conv=>whnf)|refine Ok.seq ?_|((first|refine Ok.region tok ?_|refine Ok.cond ?_);conv=>whnf)|refine Ok.block ?_|((first|refine Ok.skip ?_|refine nI ?_|refine ix _ (by assumption) ?_);conv=>whnf)|(refine Or.inl ?_;(conv=>whnf);(repeat (refine aI ?_;conv=>whnf));refine⟨_,hch,rfl,?_⟩;conv=>whnf)|(refine Or.inl ?_;(conv=>whnf);(repeat (refine aI ?_;conv=>whnf));refine⟨_,hfd,rfl,?_⟩;conv=>whnf)|(refine Or.inl ?_;(conv=>whnf);(repeat (refine aI ?_;conv=>whnf));refine⟨_,hft,rfl,?_⟩;conv=>whnf)|(refine Or.inl ?_;(conv=>whnf);(repeat (refine aI ?_;conv=>whnf));refine⟨_,hwa _,rfl,?_⟩;conv=>whnf)|(refine Or.inl ?_;(conv=>whnf);(repeat (refine aI ?_;conv=>whnf));refine⟨_,hwb _,rfl,?_⟩;conv=>whnf)|(refine Or.inl ?_;(conv=>whnf);(repeat (refine aI ?_;conv=>whnf));refine⟨_,hx1,rfl,?_⟩;conv=>whnf)|(refine Or.inl ?_;(conv=>whnf);(repeat (refine aI ?_;conv=>whnf));refine⟨_,hx2,rfl,?_⟩;conv=>whnf)|(refine Or.inr (Or.inl ?_);(conv=>whnf);(repeat (refine aI ?_;conv=>whnf));refine⟨_,hva,?_⟩;rintro _ _ ⟨rfl,rfl⟩;conv=>whnf)|(refine⟨_,_,rfl,rfl,?_⟩;conv=>whnf)|(refine bI ?_ ?_<;>intro<;>(conv=>whnf)<;>(try (exfalso;omega)))|(refine aJ ?_;conv=>whnf)|fail)
 all_goals first
  | (exfalso;omega)
  | skip
 rw[show C.map srow=(gL X Y C 0).map srow by rw[gL_zero]]
 refine Ok.loopU [11,12,13,55] [56] 1 1 (fun (i:Nat)=>[.i .i64 (i:Nat)]) (fun _ b=>b) (fun (i:Nat) (_:Vx.Rows)=>[some (9,(gL X Y C i).map srow)]) (fun (i:Nat)=>i<=C.length) (fun (i:Nat)=>C.length - i) (0) (Nat.zero_le _) ?_;(conv=>whnf);refine⟨by ((conv=>whnf);first|rfl|(simp[envCat,tkL0,nrow,frow,bcell,srow,tcells,crow];done)|(simp[envCat,tkL0,nrow,frow,bcell,srow,tcells,crow];rw[IntKind.wrap_i64];omega)),?_⟩
 intro i hi
 have hgl:=gL_len X Y C hi
 have hgm:((gL X Y C i).map srow).length=C.length:=by rw[lMp0,hgl]
 (conv=>whnf)
 by_cases hil:i<C.length
 . obtain⟨x,hx⟩:∃ x,C[i]? = some x:=⟨_,gEt0 hil⟩
   have hg:=gL_get (A:=X) (B:=Y) hx
   have hgs:=gL_set (A:=X) (B:=Y) hx
   have hxl:=hvo x (mOf0 hx)
   have hgI:(gL X Y C i)[((i:Nat):Int).toNat]? = some x:=hg
   have hap:(X++x:Str).length=X.length+x.length:=List.length_append
   (try (conv=>whnf));repeat' (first|((first|refine rd rfl hgI ?_|refine st (X++x++Y) hgI (by simp) rfl ?_);conv=>whnf)|refine Ok.seq ?_|((first|refine Ok.region tok ?_|refine Ok.cond ?_);conv=>whnf)|refine Ok.block ?_|((first|refine Ok.skip ?_|refine nI ?_);conv=>whnf)|(refine bI ?_ ?_<;>intro<;>(conv=>whnf)<;>(try (exfalso;omega)))|(refine aJ ?_;conv=>whnf)|fail)
   all_goals first
    | (exfalso;omega)
    | skip
   refine⟨i+1,by omega,by omega,?_⟩
   rw[<- hgs]
   (conv=>whnf)
   rfl
 . have hie:i=C.length:=by omega
   subst hie
   rw[gL_end]
   (try (conv=>whnf));repeat' (first|refine Ok.seq ?_|((first|refine Ok.region tok ?_|refine Ok.cond ?_|refine Ok.exit ?_|refine Ok.ret ?_);conv=>whnf)|(refine bI ?_ ?_<;>intro<;>(conv=>whnf)<;>(try (exfalso;omega)))|fail)
   all_goals first
    | (exfalso;omega)
    | (refine Or.inr (Or.inl ?_);(conv=>whnf)
       exact⟨by simp;rfl,rfl⟩)
end Go.Proofs.YtnlingegeangmaaGreatDoor
namespace Go.Vx
open Go.RowKit Go.Instr
def structB(T:Tab)(t:TypeId):Bool:=match T t with|some ⟨_,_,.struct _,_⟩=>true|_=>false
def methB(P:Program)(t:TypeId)(m:String)(f:FuncId):Bool:=match P.info? t with
 | some i=>(match i.methods.find? (fun x=>x.name == m) with
  | some mm=>mm.path.isEmpty && (match mm.func with|some (g,false)=>Nat.beq g f|_=>false)
  | none=>false)
 | none=>false
theorem MethC.of{P:Program}{T:Tab}(hT:TOk P T){t:TypeId}{f:FuncId}{m:String}(hs:structB T t=true)(hm:methB P t m f=true)(hc:∀ args w,(callFunc f args).run P w = .ok (.enter f args) w):MethC P m t f:=by
 unfold structB at hs
 split at hs
 case h_2=>cases hs
 rename_i fs z hti
 obtain⟨fa,hu,-⟩:=(hT _ _ hti).kind
 unfold methB at hm
 split at hm
 case h_2=>cases hm
 rename_i i hi
 split at hm
 case h_2=>cases hm
 rename_i mm hfind
 simp only[Bool.and_eq_true] at hm
 obtain⟨hp,hm⟩:=hm
 split at hm
 case h_2=>cases hm
 rename_i g hg
 have hgf:g=f:=Nat.eq_of_beq_eq_true hm
 subst hgf
 have hpath:mm.path=#[]:=by simpa using hp
 refine⟨fun x args w=>?_⟩
 have hr:∀ w,(method (P.types.size+Made.depth) t x m).run P w = .ok (g,x) w:=by
  intro w
  obtain⟨n,hn⟩:∃ n,P.types.size+Made.depth=n+1:=⟨P.types.size+99,rfl⟩
  rw[hn]
  simp[method,typeInfo,hi,hfind,hpath,hg,follow,receiverAt,run_under hu,Place.get]
 have hprog:(program:Sem Program).run P w = .ok P w:=by simp
 simp only[callMethod,Sem.run_bind,hprog,Result.andThen_ok,hr,hc]
end Go.Vx
namespace Go.Proofs.YtnlingegeangmaaGreatDoor
open Go Go.Vx Go.Shelf
inductive Tr where
 | leaf (p:Prop)
 | test (t:Tst)
 | neg (x:Tr)
 | and (x y:Tr)
 | or (x y:Tr)
def Tr.ty:Tr->Nat
 | .leaf _=>311|.test _=>313|.neg _=>315|.and _ _=>319|.or _ _=>320
def Tr.cs:Tr->List D
 | .leaf p=>[.b p]|.test t=>tcells t|.neg x=>[.ifc x.ty (.agg x.cs)]
 | .and x y=>[.ifc x.ty (.agg x.cs),.ifc y.ty (.agg y.cs)]|.or x y=>[.ifc x.ty (.agg x.cs),.ifc y.ty (.agg y.cs)]
@[reducible] def Tr.d(x:Tr):D:=.ifc x.ty (.agg x.cs)
def Tr.isO:Tr->Bool|.or _ _=>true|_=>false
def Tr.isJ:Tr->Bool|.or _ _=>true|.and _ _=>true|_=>false
def cnt:Bool->Nat|true=>1|false=>0
def Tr.sz:Tr->Nat|.leaf _=>1|.test _=>1|.neg x=>x.sz+1|.and x y=>x.sz+y.sz+1|.or x y=>x.sz+y.sz+1
def Tr.nest:Tr->Nat
 | .leaf _=>0|.test _=>0|.neg x=>x.nest+cnt x.isJ+1
 | .and x y=>max (x.nest+cnt x.isO) (y.nest+cnt y.isJ)|.or x y=>max x.nest (y.nest+cnt y.isO)
theorem cnt_le(b:Bool):cnt b<=1:=by cases b<;>simp[cnt]
theorem nest_le(x:Tr):x.nest<=2*x.sz:=by
 induction x with
 | leaf _=>simp[Tr.nest]
 | test _=>simp[Tr.nest]
 | neg x ih=>have:=cnt_le x.isJ;simp only[Tr.nest,Tr.sz];omega
 | and x y h1 h2=>have:=cnt_le x.isO;have:=cnt_le y.isJ;simp only[Tr.nest,Tr.sz];omega
 | or x y h1 h2=>have:=cnt_le y.isO;simp only[Tr.nest,Tr.sz];omega
theorem bff{p:Prop}(h:¬ p):D.b False=D.b p:=by congr 1;exact propext ⟨False.elim,h⟩
theorem btt{p:Prop}(h:p):D.b True=D.b p:=by congr 1;exact propext ⟨fun _=>h,fun _=>trivial⟩
theorem joined_at(x:Tr):FSpec Tryz.prog T 324 [x.d] (fun d _=>d = .b (x.isJ=true)):=by
 refine FSpec.of_ok tok Tryz.func324 rfl Tryz.call324 (by simp) ?_
 cases x
 all_goals
  (try (conv=>whnf));repeat' (first|refine Ok.seq ?_|((first|refine Ok.region tok ?_|refine Ok.cond ?_);conv=>whnf)|refine Ok.block ?_|((first|refine Ok.skip ?_|refine Ok.ret ?_);conv=>whnf)|fail)
  refine Or.inl ?_;(conv=>whnf)
  first|exact btt rfl|exact bff (by simp[Tr.isJ])
theorem isOr_at(x:Tr):FSpec Tryz.prog T 331 [x.d] (fun d _=>d = .b (x.isO=true)):=by
 refine FSpec.of_ok tok Tryz.func331 rfl Tryz.call331 (by simp) ?_
 cases x
 all_goals
  (try (conv=>whnf));repeat' (first|refine Ok.seq ?_|((first|refine Ok.region tok ?_|refine Ok.cond ?_);conv=>whnf)|refine Ok.block ?_|((first|refine Ok.skip ?_|refine Ok.ret ?_);conv=>whnf)|fail)
  refine Or.inl ?_;(conv=>whnf)
  first|exact btt rfl|exact bff (by simp[Tr.isO])
theorem count_at(b:Bool):FSpec Tryz.prog T 330 [.b (b=true)] (fun d _=>d = .i .i64 (cnt b:Nat)):=by
 refine FSpec.of_ok tok Tryz.func330 rfl Tryz.call330 (by simp) ?_
 cases b
 all_goals
  (try (conv=>whnf));repeat' (first|refine Ok.seq ?_|((first|refine Ok.region tok ?_|refine Ok.cond ?_|refine Ok.skip ?_|refine Ok.ret ?_);conv=>whnf)|(refine bI ?_ ?_<;>intro<;>(conv=>whnf)<;>(try (exfalso;omega)))|fail)
  all_goals first
   | (rename_i h;cases h;done)
   | (rename_i h;exact absurd rfl h)
   | (refine Or.inl ?_;(conv=>whnf)
      rfl)
theorem mLeaf:MethC Tryz.prog "reach/expr.nesting" 311 313:=.of tok (by kernel_rfl) (by kernel_rfl) Tryz.call313
theorem mTest:MethC Tryz.prog "reach/expr.nesting" 313 317:=.of tok (by kernel_rfl) (by kernel_rfl) Tryz.call317
theorem mNot:MethC Tryz.prog "reach/expr.nesting" 315 321:=.of tok (by kernel_rfl) (by kernel_rfl) Tryz.call321
theorem mAnd:MethC Tryz.prog "reach/expr.nesting" 319 327:=.of tok (by kernel_rfl) (by kernel_rfl) Tryz.call327
theorem mOr:MethC Tryz.prog "reach/expr.nesting" 320 333:=.of tok (by kernel_rfl) (by kernel_rfl) Tryz.call333
theorem leafN(cs:List D)(p:Prop)(h:cs=[.b p]):FSpec Tryz.prog T 313 [.agg cs] (fun d _=>d = .i .i64 0):=by
 subst h
 refine FSpec.of_ok tok Tryz.func313 rfl Tryz.call313 (by simp) ?_
 (try (conv=>whnf));repeat' (first|refine Ok.seq ?_|((first|refine Ok.region tok ?_|refine Ok.ret ?_);conv=>whnf)|fail)
 refine Or.inl ?_;(conv=>whnf)
 rfl
theorem testN(t:Tst):FSpec Tryz.prog T 317 [.agg (tcells t)] (fun d _=>d = .i .i64 0):=by
 refine FSpec.of_ok tok Tryz.func317 rfl Tryz.call317 (by simp) ?_
 (try (conv=>whnf));repeat' (first|refine Ok.seq ?_|((first|refine Ok.region tok ?_|refine Ok.ret ?_);conv=>whnf)|fail)
 refine Or.inl ?_;(conv=>whnf)
 rfl
theorem deeper_at(x y:Tr)(a b:Nat)(ha:a ≤ 1)(hb:b ≤ 1)(hx:x.sz ≤ 1000)(hy:y.sz ≤ 1000)(fx fy:FuncId)(mx:MethC Tryz.prog "reach/expr.nesting" x.ty fx)(my:MethC Tryz.prog "reach/expr.nesting" y.ty fy)
    (sx:FSpec Tryz.prog T fx [.agg x.cs] (fun d _=>d = .i .i64 (x.nest:Nat)))(sy:FSpec Tryz.prog T fy [.agg y.cs] (fun d _=>d = .i .i64 (y.nest:Nat))) :
    FSpec Tryz.prog T 325 [.agg [x.d,y.d],.i .i64 (a:Nat),.i .i64 (b:Nat)] (fun d _=>d = .i .i64 (max (x.nest+a) (y.nest+b):Nat)):=by
 have h1:=nest_le x
 have h2:=nest_le y
 refine FSpec.of_ok tok Tryz.func325 rfl Tryz.call325 (by simp) ?_
 (try (conv=>whnf));repeat' (first|refine Ok.seq ?_|((first|refine Ok.region tok ?_|refine Ok.region_plan (id:=1) tok follows [(1,2,[]),(1,7,[2]),(6,7,[]),(2,7,[]),(1,10,[4,2]),(6,10,[9,7]),(2,10,[4]),(7,10,[9])] [.q 0,.q 1,.q 3,.q 5,.q 6,.q 8,.l 2,.q 4,.l 7,.q 9,.l 10,.q 11] (by kernel_rfl) ?_|refine Ok.ret ?_|refine nI ?_|refine⟨_,by assumption,?_⟩|refine aJ ?_|refine num_any ?_);conv=>whnf)|fail)
 refine Or.inl ?_;(conv=>whnf)
 refine congrArg (D.i .i64) ?_
 split<;>omega
theorem nest_at(x:Tr)(hx:x.sz ≤ 1000):∃ f,MethC Tryz.prog "reach/expr.nesting" x.ty f ∧ FSpec Tryz.prog T f [.agg x.cs] (fun d _=>d = .i .i64 (x.nest:Nat)):=by
 induction x with
 | leaf p=>exact⟨_,mLeaf,leafN _ p rfl⟩
 | test t=>exact⟨_,mTest,testN t⟩
 | neg x ih=>
  simp only[Tr.sz] at hx
  obtain⟨fx,mx,sx⟩:=ih (by omega)
  have hn:=nest_le x
  refine⟨_,mNot,?_⟩
  refine FSpec.of_ok tok Tryz.func321 rfl Tryz.call321 (by simp) ?_
  have hj:=joined_at x
  cases hJ:x.isJ
  all_goals
   rw[hJ] at hj
   (try (conv=>whnf));repeat' (first|refine Ok.seq ?_|((first|refine Ok.region tok ?_|refine Ok.cond ?_|refine Ok.skip ?_|refine Ok.ret ?_|refine nI ?_);conv=>whnf)|(refine Or.inl ?_;(conv=>whnf);(repeat (refine aI ?_;conv=>whnf));refine⟨_,hj,rfl,?_⟩;conv=>whnf)|(refine Or.inl ?_;(conv=>whnf);(repeat (refine aI ?_;conv=>whnf));refine⟨_,mx,_,sx,rfl,?_⟩;conv=>whnf)|(refine bI ?_ ?_<;>intro<;>(conv=>whnf)<;>(try (exfalso;omega)))|fail)
   all_goals first
    | (rename_i h;cases h;done)
    | (rename_i h;exact absurd rfl h)
    | (refine Or.inl ?_;(conv=>whnf)
       show D.i .i64 _=D.i .i64 ((x.nest+cnt x.isJ+1:Nat):Int)
       rw[hJ]
       refine congrArg (D.i .i64) ?_
       simp only[cnt]
       omega)
 | and x y ih1 ih2=>
  simp only[Tr.sz] at hx
  obtain⟨fx,mx,sx⟩:=ih1 (by omega)
  obtain⟨fy,my,sy⟩:=ih2 (by omega)
  refine⟨_,mAnd,?_⟩
  refine FSpec.of_ok tok Tryz.func327 rfl Tryz.call327 (by simp) ?_
  (try (conv=>whnf));repeat' (first|refine Ok.seq ?_|((first|refine Ok.region tok ?_|refine Ok.region_draw tok follows (by kernel_rfl) ?_|refine Ok.ret ?_|refine⟨_,isOr_at x,rfl,?_⟩|refine⟨_,joined_at y,rfl,?_⟩|refine⟨_,count_at x.isO,rfl,?_⟩|refine⟨_,count_at y.isJ,rfl,?_⟩|refine⟨_,deeper_at x y _ _ (cnt_le _) (cnt_le _) (by omega) (by omega) fx fy mx my sx sy,rfl,?_⟩);conv=>whnf)|fail)
  refine Or.inl ?_;(conv=>whnf)
  rfl
 | or x y ih1 ih2=>
  simp only[Tr.sz] at hx
  obtain⟨fx,mx,sx⟩:=ih1 (by omega)
  obtain⟨fy,my,sy⟩:=ih2 (by omega)
  refine⟨_,mOr,?_⟩
  refine FSpec.of_ok tok Tryz.func333 rfl Tryz.call333 (by simp) ?_
  (try (conv=>whnf));repeat' (first|refine Ok.seq ?_|((first|refine Ok.region tok ?_|refine Ok.region_draw tok follows (by kernel_rfl) ?_|refine Ok.ret ?_|refine⟨_,isOr_at y,rfl,?_⟩|refine⟨_,count_at y.isO,rfl,?_⟩|refine⟨_,deeper_at x y 0 _ (by omega) (cnt_le _) (by omega) (by omega) fx fy mx my sx sy,rfl,?_⟩);conv=>whnf)|fail)
  refine Or.inl ?_;(conv=>whnf)
  rfl
end Go.Proofs.YtnlingegeangmaaGreatDoor
namespace Go.Proofs.YtnlingegeangmaaGreatDoor
open Go Go.Vx Go.Shelf
theorem edrop_at{α:Type}{l:List α}{i:Nat}{x:α}(h:l[i]? = some x):l.drop i=x :: l.drop (i+1):=by
 obtain⟨h1,rfl⟩:=gSm0.1 h
 exact List.drop_eq_getElem_cons h1
@[reducible] def qrow(x:Tr):List D:=[x.d]
def zT(t:Tst):Prop:=eqDs (tcells t) [.s [],.i .i64 0,.i .i64 0,.i .i64 0,.i .i64 0,.i .i64 0,.s []]
def shapeT(c:Nd)(rs:List Tr):Option (List Tr):=
 if c.kind=1\/c.kind=2 then some (.leaf (c.kind=1) :: rs)
 else if c.kind=3 then some (.test c.t :: rs)
 else if c.kind=4 then match rs with|x :: r=>some (.neg x :: r)|[]=>none
 else if c.kind=5 then match rs with|y :: x :: r=>some (.and x y :: r)|_=>none
 else if c.kind=6 then match rs with|y :: x :: r=>some (.or x y :: r)|_=>none
 else none
open Classical in
noncomputable def stepT(c:Nd)(rs:List Tr):Option (List Tr):=if c.kind ≠ 3/\¬ zT c.t then none else shapeT c rs
noncomputable def buildR:List Nd->List Tr->Option (List Tr)
 | [],rs=>some rs
 | c :: e,rs=>match stepT c rs with|some rs'=>buildR e rs'|none=>none
def oneT:List Tr->Option Tr|[x]=>some x|_=>none
noncomputable def bldO(e:List Nd):Option Tr:=(buildR e []).bind oneT
def szs(rs:List Tr):Nat:=(rs.map Tr.sz).sum
theorem shapeT_sz{c:Nd}{rs rs':List Tr}(h:shapeT c rs=some rs'):szs rs'<=szs rs+1:=by
 unfold shapeT at h
 split at h
 . cases h;simp[szs,Tr.sz];omega
 split at h
 . cases h;simp[szs,Tr.sz];omega
 split at h
 . split at h
   . cases h;simp[szs,Tr.sz];omega
   . cases h
 split at h
 . split at h
   . cases h;simp[szs,Tr.sz];omega
   . cases h
 split at h
 . split at h
   . cases h;simp[szs,Tr.sz];omega
   . cases h
 . cases h
theorem buildR_sz:∀ (e:List Nd) (rs rs':List Tr),buildR e rs=some rs'->szs rs'<=szs rs+e.length
 | [],rs,rs',h=>by unfold buildR at h;cases h;simp
 | c :: e,rs,rs',h=>by
  unfold buildR at h
  split at h
  . rename_i r1 h1
    have h2:=buildR_sz e _ _ h
    unfold stepT at h1
    split at h1
    . cases h1
    . have:=shapeT_sz h1
      simp only[List.length_cons]
      omega
  . cases h
theorem bldO_sz{e:List Nd}{x:Tr}(h:bldO e=some x):x.sz<=e.length:=by
 unfold bldO at h
 cases hb:buildR e [] with
 | none=>rw[hb] at h;cases h
 | some l=>
  rw[hb] at h
  have:=buildR_sz _ _ _ hb
  match l,h with
  | [y],h=>cases h;simpa[szs] using this
def bldD:Option Tr->D|some x=>.tup [x.d,.b True]|none=>.tup [.nilI,.b False]
theorem bad_z{c:Nd}{rs:List Tr}(h:c.kind ≠ 3)(h2:¬ zT c.t):stepT c rs=none:=by unfold stepT;rw[if_pos ⟨h,h2⟩]
theorem stepT_ok{c:Nd}{rs:List Tr}(h:¬ (c.kind ≠ 3/\¬ zT c.t)):stepT c rs=shapeT c rs:=by unfold stepT;rw[if_neg h]
theorem bld_none{e:List Nd}{c:Nd}{r:List Nd}{rs:List Tr}(h:buildR e []=buildR (c :: r) rs)(hs:stepT c rs=none):bldO e=none:=by
 have h2:buildR (c :: r) rs=none:=by unfold buildR;rw[hs]
 unfold bldO
 rw[h,h2]
 rfl
theorem bld_step{e:List Nd}{c:Nd}{r:List Nd}{rs rs':List Tr}(h:buildR e []=buildR (c :: r) rs)(hs:stepT c rs=some rs'):buildR e []=buildR r rs':=by
 rw[h]
 conv=>lhs;unfold buildR
 rw[hs]
theorem push_nil(rs:List Tr)(x:Tr):((rs.reverse++[]).map qrow)++[qrow x]=((x :: rs).reverse++[]).map qrow:=by simp
theorem push_cons(rs:List Tr)(x y:Tr)(j:List Tr):((rs.reverse++y :: j).map qrow).set rs.length (qrow x)=((x :: rs).reverse++j).map qrow:=by
 rw[List.map_append,List.set_append_right _ _ (by simp)]
 simp
theorem pile_top(x:Tr)(r j:List Tr):((x :: r).reverse++j)[r.length]? = some x:=by simp
theorem pile_top2(x y:Tr)(r j:List Tr):((y :: x :: r).reverse++j)[r.length]? = some x:=by simp
theorem set_top(x x':Tr)(r j:List Tr):((x :: r).reverse++j).set r.length x'=(x' :: r).reverse++j:=by simp
theorem set_top2(x y x':Tr)(r j:List Tr):((y :: x :: r).reverse++j).set r.length x'=(x' :: r).reverse++(y :: j):=by simp
theorem sh12{c:Nd}{rs:List Tr}(h:c.kind=1\/c.kind=2):shapeT c rs=some (.leaf (c.kind=1) :: rs):=by unfold shapeT;rw[if_pos h]
theorem sh3{c:Nd}{rs:List Tr}(h:c.kind=3):shapeT c rs=some (.test c.t :: rs):=by unfold shapeT;rw[if_neg (by omega),if_pos h]
theorem sh4{c:Nd}{rs:List Tr}(h:c.kind=4):shapeT c rs=match rs with|x :: r=>some (.neg x :: r)|[]=>none:=by unfold shapeT;rw[if_neg (by omega),if_neg (by omega),if_pos h]
theorem sh5{c:Nd}{rs:List Tr}(h:c.kind=5):shapeT c rs=match rs with|y :: x :: r=>some (.and x y :: r)|_=>none:=by unfold shapeT;rw[if_neg (by omega),if_neg (by omega),if_neg (by omega),if_pos h]
theorem sh6{c:Nd}{rs:List Tr}(h:c.kind=6):shapeT c rs=match rs with|y :: x :: r=>some (.or x y :: r)|_=>none:=by unfold shapeT;rw[if_neg (by omega),if_neg (by omega),if_neg (by omega),if_neg (by omega),if_pos h]
theorem sh0{c:Nd}{rs:List Tr}(h:c.kind<1\/6<c.kind):shapeT c rs=none:=by unfold shapeT;rw[if_neg (by omega),if_neg (by omega),if_neg (by omega),if_neg (by omega),if_neg (by omega)]
theorem bld_end{e:List Nd}{rs:List Tr}(h:buildR e []=buildR [] rs):bldO e=oneT rs:=by
 have h2:buildR e []=some rs:=h.trans (by unfold buildR;rfl)
 unfold bldO
 rw[h2]
 rfl
theorem build_at(e:List Nd)(r1:List (List D))(hl:e.length<=2000000):FSpec Tryz.prog T 177 [.lst 174 (e.map nrow) r1] (fun d _=>d=bldD (bldO e)):=by
 have h1:(e.map nrow).length=e.length:=by simp
 refine FSpec.of_ok tok Tryz.func177 rfl Tryz.call177 (by simp) ?_
 (try (conv=>whnf));repeat' (first|refine Ok.seq ?_|(refine Ok.region tok ?_;conv=>whnf)|refine Ok.block ?_|fail)
 refine Ok.ghost 4 241 rfl ?_
 (conv=>whnf)
 refine Ok.loopU [9,10] [4,11] 1 0 (fun (x:Nat × Nat × List Tr × List Tr)=>[.own 0 x.2.1,.i .i64 (x.1:Nat)]) (fun _ b=>b) (fun (x:Nat × Nat × List Tr × List Tr) (_:Vx.Rows)=>[some (241,(x.2.2.1.reverse++x.2.2.2).map qrow)]) (fun (x:Nat × Nat × List Tr × List Tr)=>x.1<=e.length/\x.2.2.1.length=x.2.1/\x.2.1+x.2.2.2.length<=x.1/\buildR e []=buildR (e.drop x.1) x.2.2.1) (fun (x:Nat × Nat × List Tr × List Tr)=>e.length - x.1) ((0,0,[],[])) (⟨Nat.zero_le _,rfl,Nat.le_refl _,rfl⟩) ?_;(conv=>whnf);refine⟨by ((conv=>whnf);first|rfl|(simp[envCat,tkL0,nrow,frow,tcells,qrow];done)|(simp[envCat,tkL0,nrow,frow,tcells,qrow];rw[IntKind.wrap_i64];omega)),?_⟩
 rintro⟨i,n,rs,j⟩ ⟨hi,hn,hj,hb⟩
 dsimp only at hi hn hj hb ⊢
 have hlm:((rs.reverse++j).map qrow).length=n+j.length:=by simp[hn]
 (conv=>whnf)
 by_cases hil:i<e.length
 . obtain⟨c,hc⟩:∃ c,e[i]? = some c:=⟨_,gEt0 hil⟩
   have hcI:e[((i:Nat):Int).toNat]? = some c:=hc
   rw[edrop_at hc] at hb
   by_cases hz:c.kind ≠ 3/\¬ zT c.t
   . rw[bld_none hb (bad_z hz.1 hz.2)]
     have hz1:=hz.1
     have hz2:=hz.2
     (try (conv=>whnf));repeat' (first|((first|refine⟨_,eqTest,by kernel_rfl,?_⟩|refine⟨fun _=>?_,fun h=>absurd (Classical.not_not.1 h) hz2⟩);conv=>whnf)|refine Ok.seq ?_|((first|refine Ok.region tok ?_|refine Ok.cond ?_);conv=>whnf)|refine Ok.block ?_|((first|refine Ok.skip ?_|refine Ok.ret ?_|refine ix _ (by assumption) ?_);conv=>whnf)|(refine bI ?_ ?_<;>intro<;>(conv=>whnf)<;>(try (exfalso;omega)))|fail)
     all_goals first
      | (exfalso;omega)
      | (refine Or.inl ?_;(conv=>whnf)
         rfl)
   . have hst:=stepT_ok (rs:=rs) hz
     have hz3:c.kind=3\/zT c.t:=by
      by_cases h:c.kind=3
      . exact .inl h
      . exact .inr (Classical.byContradiction fun h2=>hz ⟨h,h2⟩)
     by_cases hk3:c.kind=3
     . have hb2:=bld_step hb (hst.trans (sh3 hk3))
       cases j with
       | nil=>
        simp only[List.length_nil,Nat.add_zero] at hj hlm
        (try (conv=>whnf));repeat' (first|(refine And.intro ⟨by kernel_rfl⟩ ?_;conv=>whnf)|refine Ok.seq ?_|((first|refine Ok.region tok ?_|refine Ok.cond ?_);conv=>whnf)|refine Ok.block ?_|((first|refine Ok.skip ?_|refine nI ?_|refine ix _ (by assumption) ?_|refine Alt2.l (aI ?_)|refine⟨_,.inl ⟨rfl,rfl⟩,?_⟩|refine⟨_,_,rfl,rfl,?_⟩);conv=>whnf)|(refine bI ?_ ?_<;>intro<;>(conv=>whnf)<;>(try (exfalso;omega)))|(refine aJ ?_;conv=>whnf)|fail)
        all_goals first
         | (exfalso;omega)
         | skip
        all_goals
         refine⟨(i+1,n+1,Tr.test c.t :: rs,[]),by dsimp only;omega,⟨by dsimp only;omega,by simp[hn],by simp;omega,hb2⟩,?_⟩
         rw[<- push_nil]
         (conv=>whnf)
         simp[envCat,hn]
         try exact⟨rfl,rfl⟩
       | cons y j=>
        simp only[List.length_cons] at hj hlm
        (try (conv=>whnf));repeat' (first|(refine And.intro ⟨by kernel_rfl⟩ ?_;conv=>whnf)|refine Ok.seq ?_|((first|refine Ok.region tok ?_|refine Ok.cond ?_);conv=>whnf)|refine Ok.block ?_|((first|refine Ok.skip ?_|refine nI ?_|refine ix _ (by assumption) ?_|refine Alt2.r (aI ?_)|refine⟨_,.inl ⟨rfl,rfl⟩,?_⟩|refine⟨_,_,rfl,rfl,?_⟩);conv=>whnf)|(refine bI ?_ ?_<;>intro<;>(conv=>whnf)<;>(try (exfalso;omega)))|((first|refine aJ ?_|refine⟨_,rfl,?_⟩);conv=>whnf)|fail)
        all_goals first
         | (exfalso;omega)
         | skip
        all_goals
         refine⟨(i+1,n+1,Tr.test c.t :: rs,j),by dsimp only;omega,⟨by dsimp only;omega,by simp[hn],by simp;omega,hb2⟩,?_⟩
         rw[<- push_cons rs _ y j,hn]
         (conv=>whnf)
         simp[envCat]
         try rfl
     have hz4:zT c.t:=hz3.resolve_left hk3
     by_cases hk1:c.kind=1\/c.kind=2
     . have hb2:=bld_step hb (hst.trans (sh12 hk1))
       cases j with
       | nil=>
        simp only[List.length_nil,Nat.add_zero] at hj hlm
        (try (conv=>whnf));repeat' (first|((first|refine⟨_,eqTest,by kernel_rfl,?_⟩|refine⟨fun h=>absurd hz4 h,fun _=>?_⟩|refine And.intro ⟨by kernel_rfl⟩ ?_);conv=>whnf)|refine Ok.seq ?_|((first|refine Ok.region tok ?_|refine Ok.cond ?_);conv=>whnf)|refine Ok.block ?_|((first|refine Ok.skip ?_|refine nI ?_|refine ix _ (by assumption) ?_|refine Alt2.l (aI ?_)|refine⟨_,.inl ⟨rfl,rfl⟩,?_⟩|refine⟨_,_,rfl,rfl,?_⟩);conv=>whnf)|(refine bI ?_ ?_<;>intro<;>(conv=>whnf)<;>(try (exfalso;omega)))|(refine aJ ?_;conv=>whnf)|fail)
        all_goals first
         | (exfalso;omega)
         | skip
        all_goals
         refine⟨(i+1,n+1,Tr.leaf (c.kind=1) :: rs,[]),by dsimp only;omega,⟨by dsimp only;omega,by simp[hn],by simp;omega,hb2⟩,?_⟩
         rw[<- push_nil]
         (conv=>whnf)
         simp[envCat,hn]
         try exact⟨rfl,rfl⟩
       | cons y j=>
        simp only[List.length_cons] at hj hlm
        (try (conv=>whnf));repeat' (first|((first|refine⟨_,eqTest,by kernel_rfl,?_⟩|refine⟨fun h=>absurd hz4 h,fun _=>?_⟩|refine And.intro ⟨by kernel_rfl⟩ ?_);conv=>whnf)|refine Ok.seq ?_|((first|refine Ok.region tok ?_|refine Ok.cond ?_);conv=>whnf)|refine Ok.block ?_|((first|refine Ok.skip ?_|refine nI ?_|refine ix _ (by assumption) ?_|refine Alt2.r (aI ?_)|refine⟨_,.inl ⟨rfl,rfl⟩,?_⟩|refine⟨_,_,rfl,rfl,?_⟩);conv=>whnf)|(refine bI ?_ ?_<;>intro<;>(conv=>whnf)<;>(try (exfalso;omega)))|((first|refine aJ ?_|refine⟨_,rfl,?_⟩);conv=>whnf)|fail)
        all_goals first
         | (exfalso;omega)
         | skip
        all_goals
         refine⟨(i+1,n+1,Tr.leaf (c.kind=1) :: rs,j),by dsimp only;omega,⟨by dsimp only;omega,by simp[hn],by simp;omega,hb2⟩,?_⟩
         rw[<- push_cons rs _ y j,hn]
         (conv=>whnf)
         simp[envCat]
         try rfl
     by_cases hk4:c.kind=4
     . match rs,hn with
       | [],hn=>
        simp only[List.length_nil] at hn
        subst hn
        rw[bld_none hb (hst.trans (sh4 hk4))]
        (try (conv=>whnf));repeat' (first|((first|refine⟨_,eqTest,by kernel_rfl,?_⟩|refine⟨fun h=>absurd hz4 h,fun _=>?_⟩);conv=>whnf)|refine Ok.seq ?_|((first|refine Ok.region tok ?_|refine Ok.cond ?_);conv=>whnf)|refine Ok.block ?_|((first|refine Ok.skip ?_|refine Ok.ret ?_|refine nI ?_|refine ix _ (by assumption) ?_);conv=>whnf)|(refine bI ?_ ?_<;>intro<;>(conv=>whnf)<;>(try (exfalso;omega)))|fail)
        all_goals first
         | (exfalso;omega)
         | (refine Or.inl ?_;(conv=>whnf)
            rfl)
       | x :: r,hn=>
        simp only[List.length_cons] at hn
        obtain⟨m,rfl⟩:∃ m,n=m+1:=⟨n - 1,by omega⟩
        have hm:r.length=m:=by omega
        have hb2:=bld_step hb (hst.trans (sh4 hk4))
        have hmI:(((m+1:Nat):Int) - 1).toNat=m:=by omega
        have hg1:((x :: r).reverse++j)[(((m+1:Nat):Int) - 1).toNat]? = some x:=by rw[hmI,<- hm];exact pile_top x r j
        (try (conv=>whnf));repeat' (first|((first|refine⟨_,eqTest,by kernel_rfl,?_⟩|refine⟨fun h=>absurd hz4 h,fun _=>?_⟩|refine And.intro ⟨by kernel_rfl⟩ ?_|refine rd rfl hg1 ?_|refine st (Tr.neg x) hg1 (by simp) rfl ?_);conv=>whnf)|refine Ok.seq ?_|((first|refine Ok.region tok ?_|refine Ok.cond ?_);conv=>whnf)|refine Ok.block ?_|((first|refine Ok.skip ?_|refine nI ?_|refine ix _ (by assumption) ?_);conv=>whnf)|(refine bI ?_ ?_<;>intro<;>(conv=>whnf)<;>(try (exfalso;omega)))|(refine aJ ?_;conv=>whnf)|fail)
        all_goals first
         | (exfalso;omega)
         | skip
        all_goals
         refine⟨(i+1,m+1,Tr.neg x :: r,j),by dsimp only;omega,⟨by dsimp only;omega,by simp[hm],by dsimp only;omega,hb2⟩,?_⟩
         rw[hmI,<- hm,set_top]
         (conv=>whnf)
         rfl
     by_cases hk5:c.kind=5
     . match rs,hn with
       | [],hn=>
        simp only[List.length_nil] at hn
        subst hn
        rw[bld_none hb (hst.trans (sh5 hk5))]
        (try (conv=>whnf));repeat' (first|((first|refine⟨_,eqTest,by kernel_rfl,?_⟩|refine⟨fun h=>absurd hz4 h,fun _=>?_⟩);conv=>whnf)|refine Ok.seq ?_|((first|refine Ok.region tok ?_|refine Ok.cond ?_);conv=>whnf)|refine Ok.block ?_|((first|refine Ok.skip ?_|refine Ok.ret ?_|refine nI ?_|refine ix _ (by assumption) ?_);conv=>whnf)|(refine bI ?_ ?_<;>intro<;>(conv=>whnf)<;>(try (exfalso;omega)))|fail)
        all_goals first
         | (exfalso;omega)
         | (refine Or.inl ?_;(conv=>whnf)
            rfl)
       | [y],hn=>
        simp only[List.length_cons,List.length_nil] at hn
        subst hn
        rw[bld_none hb (hst.trans (sh5 hk5))]
        (try (conv=>whnf));repeat' (first|((first|refine⟨_,eqTest,by kernel_rfl,?_⟩|refine⟨fun h=>absurd hz4 h,fun _=>?_⟩);conv=>whnf)|refine Ok.seq ?_|((first|refine Ok.region tok ?_|refine Ok.cond ?_);conv=>whnf)|refine Ok.block ?_|((first|refine Ok.skip ?_|refine Ok.ret ?_|refine nI ?_|refine ix _ (by assumption) ?_);conv=>whnf)|(refine bI ?_ ?_<;>intro<;>(conv=>whnf)<;>(try (exfalso;omega)))|fail)
        all_goals first
         | (exfalso;omega)
         | (refine Or.inl ?_;(conv=>whnf)
            rfl)
       | y :: x :: r,hn=>
        simp only[List.length_cons] at hn
        obtain⟨m,rfl⟩:∃ m,n=m+2:=⟨n - 2,by omega⟩
        have hm:r.length=m:=by omega
        have hb2:=bld_step hb (hst.trans (sh5 hk5))
        have hmI:(((m+2:Nat):Int) - 1).toNat=m+1:=by omega
        have hmJ:(((m+2:Nat):Int) - 1 - 1).toNat=m:=by omega
        have hg1:((y :: x :: r).reverse++j)[(((m+2:Nat):Int) - 1).toNat]? = some y:=by rw[hmI,<- hm];exact pile_top y (x :: r) j
        have hg2:((y :: x :: r).reverse++j)[(((m+2:Nat):Int) - 1 - 1).toNat]? = some x:=by rw[hmJ,<- hm];exact pile_top2 x y r j
        (try (conv=>whnf));repeat' (first|((first|refine⟨_,eqTest,by kernel_rfl,?_⟩|refine⟨fun h=>absurd hz4 h,fun _=>?_⟩|refine And.intro ⟨by kernel_rfl⟩ ?_|refine rd rfl hg1 ?_|refine rd rfl hg2 ?_|refine st (Tr.and x y) hg2 (by simp) rfl ?_);conv=>whnf)|(refine⟨m+1,rfl,(by show ((m+2:Nat):Int) - 1=((m+1:Nat):Int);omega),(by omega),?_⟩;conv=>whnf)|refine Ok.seq ?_|((first|refine Ok.region tok ?_|refine Ok.region_plan (id:=23) tok follows [(4,11,[]),(8,11,[]),(10,11,[])] [.q 0,.q 1,.q 2,.q 3,.q 4,.q 5,.q 6,.q 7,.q 8,.q 9,.l 10,.l 11] (by kernel_rfl) ?_|refine Ok.cond ?_);conv=>whnf)|refine Ok.block ?_|((first|refine Ok.skip ?_|refine nI ?_|refine ix _ (by assumption) ?_);conv=>whnf)|(refine bI ?_ ?_<;>intro<;>(conv=>whnf)<;>(try (exfalso;omega)))|(refine aJ ?_;conv=>whnf)|fail)
        all_goals first
         | (exfalso;omega)
         | skip
        all_goals
         refine⟨(i+1,m+1,Tr.and x y :: r,y :: j),by dsimp only;omega,⟨by dsimp only;omega,by simp[hm],by simp;omega,hb2⟩,?_⟩
         rw[hmJ,<- hm,set_top2]
         (conv=>whnf)
         rfl
     by_cases hk6:c.kind=6
     . match rs,hn with
       | [],hn=>
        simp only[List.length_nil] at hn
        subst hn
        rw[bld_none hb (hst.trans (sh6 hk6))]
        (try (conv=>whnf));repeat' (first|((first|refine⟨_,eqTest,by kernel_rfl,?_⟩|refine⟨fun h=>absurd hz4 h,fun _=>?_⟩);conv=>whnf)|refine Ok.seq ?_|((first|refine Ok.region tok ?_|refine Ok.cond ?_);conv=>whnf)|refine Ok.block ?_|((first|refine Ok.skip ?_|refine Ok.ret ?_|refine nI ?_|refine ix _ (by assumption) ?_);conv=>whnf)|(refine bI ?_ ?_<;>intro<;>(conv=>whnf)<;>(try (exfalso;omega)))|fail)
        all_goals first
         | (exfalso;omega)
         | (refine Or.inl ?_;(conv=>whnf)
            rfl)
       | [y],hn=>
        simp only[List.length_cons,List.length_nil] at hn
        subst hn
        rw[bld_none hb (hst.trans (sh6 hk6))]
        (try (conv=>whnf));repeat' (first|((first|refine⟨_,eqTest,by kernel_rfl,?_⟩|refine⟨fun h=>absurd hz4 h,fun _=>?_⟩);conv=>whnf)|refine Ok.seq ?_|((first|refine Ok.region tok ?_|refine Ok.cond ?_);conv=>whnf)|refine Ok.block ?_|((first|refine Ok.skip ?_|refine Ok.ret ?_|refine nI ?_|refine ix _ (by assumption) ?_);conv=>whnf)|(refine bI ?_ ?_<;>intro<;>(conv=>whnf)<;>(try (exfalso;omega)))|fail)
        all_goals first
         | (exfalso;omega)
         | (refine Or.inl ?_;(conv=>whnf)
            rfl)
       | y :: x :: r,hn=>
        simp only[List.length_cons] at hn
        obtain⟨m,rfl⟩:∃ m,n=m+2:=⟨n - 2,by omega⟩
        have hm:r.length=m:=by omega
        have hb2:=bld_step hb (hst.trans (sh6 hk6))
        have hmI:(((m+2:Nat):Int) - 1).toNat=m+1:=by omega
        have hmJ:(((m+2:Nat):Int) - 1 - 1).toNat=m:=by omega
        have hg1:((y :: x :: r).reverse++j)[(((m+2:Nat):Int) - 1).toNat]? = some y:=by rw[hmI,<- hm];exact pile_top y (x :: r) j
        have hg2:((y :: x :: r).reverse++j)[(((m+2:Nat):Int) - 1 - 1).toNat]? = some x:=by rw[hmJ,<- hm];exact pile_top2 x y r j
        (try (conv=>whnf));repeat' (first|((first|refine⟨_,eqTest,by kernel_rfl,?_⟩|refine⟨fun h=>absurd hz4 h,fun _=>?_⟩|refine And.intro ⟨by kernel_rfl⟩ ?_|refine rd rfl hg1 ?_|refine rd rfl hg2 ?_|refine st (Tr.or x y) hg2 (by simp) rfl ?_);conv=>whnf)|(refine⟨m+1,rfl,(by show ((m+2:Nat):Int) - 1=((m+1:Nat):Int);omega),(by omega),?_⟩;conv=>whnf)|refine Ok.seq ?_|((first|refine Ok.region tok ?_|refine Ok.region_plan (id:=23) tok follows [(4,11,[]),(8,11,[]),(10,11,[])] [.q 0,.q 1,.q 2,.q 3,.q 4,.q 5,.q 6,.q 7,.q 8,.q 9,.l 10,.l 11] (by kernel_rfl) ?_|refine Ok.cond ?_);conv=>whnf)|refine Ok.block ?_|((first|refine Ok.skip ?_|refine nI ?_|refine ix _ (by assumption) ?_);conv=>whnf)|(refine bI ?_ ?_<;>intro<;>(conv=>whnf)<;>(try (exfalso;omega)))|(refine aJ ?_;conv=>whnf)|fail)
        all_goals first
         | (exfalso;omega)
         | skip
        all_goals
         refine⟨(i+1,m+1,Tr.or x y :: r,y :: j),by dsimp only;omega,⟨by dsimp only;omega,by simp[hm],by simp;omega,hb2⟩,?_⟩
         rw[hmJ,<- hm,set_top2]
         (conv=>whnf)
         rfl
     rw[bld_none hb (hst.trans (sh0 (by omega)))]
     (try (conv=>whnf));repeat' (first|((first|refine⟨_,eqTest,by kernel_rfl,?_⟩|refine⟨fun h=>absurd hz4 h,fun _=>?_⟩);conv=>whnf)|refine Ok.seq ?_|((first|refine Ok.region tok ?_|refine Ok.cond ?_);conv=>whnf)|refine Ok.block ?_|((first|refine Ok.skip ?_|refine Ok.ret ?_|refine nI ?_|refine ix _ (by assumption) ?_);conv=>whnf)|(refine bI ?_ ?_<;>intro<;>(conv=>whnf)<;>(try (exfalso;omega)))|fail)
     all_goals first
      | (exfalso;omega)
      | (refine Or.inl ?_;(conv=>whnf)
         rfl)
 . have hie:i=e.length:=by omega
   subst hie
   rw[List.drop_length] at hb
   have hbe:=bld_end hb
   match rs,hn with
   | [],hn=>
    simp only[List.length_nil] at hn
    subst hn
    rw[hbe]
    (try (conv=>whnf));repeat' (first|refine Ok.seq ?_|((first|refine Ok.region tok ?_|refine Ok.cond ?_|refine Ok.exit ?_|refine Ok.ret ?_);conv=>whnf)|(refine bI ?_ ?_<;>intro<;>(conv=>whnf)<;>(try (exfalso;omega)))|fail)
    all_goals first
     | (exfalso;omega)
     | (refine Or.inl ?_;(conv=>whnf)
        rfl)
   | [x],hn=>
    simp only[List.length_cons,List.length_nil] at hn
    subst hn
    rw[hbe]
    have hg0:([x].reverse++j)[(0:Int).toNat]? = some x:=by simp
    (try (conv=>whnf));repeat' (first|(refine rd rfl hg0 ?_;conv=>whnf)|refine Ok.seq ?_|((first|refine Ok.region tok ?_|refine Ok.cond ?_|refine Ok.skip ?_|refine Ok.exit ?_|refine Ok.ret ?_);conv=>whnf)|(refine bI ?_ ?_<;>intro<;>(conv=>whnf)<;>(try (exfalso;omega)))|(refine aJ ?_;conv=>whnf)|fail)
    all_goals first
     | (exfalso;omega)
     | (refine Or.inl ?_;(conv=>whnf)
        rfl)
   | x :: y :: r,hn=>
    simp only[List.length_cons] at hn
    rw[hbe]
    (try (conv=>whnf));repeat' (first|refine Ok.seq ?_|((first|refine Ok.region tok ?_|refine Ok.cond ?_|refine Ok.exit ?_|refine Ok.ret ?_);conv=>whnf)|(refine bI ?_ ?_<;>intro<;>(conv=>whnf)<;>(try (exfalso;omega)))|fail)
    all_goals first
     | (exfalso;omega)
     | (refine Or.inl ?_;(conv=>whnf)
        rfl)
end Go.Proofs.YtnlingegeangmaaGreatDoor
namespace Go.Proofs.YtnlingegeangmaaGreatDoor
open Go Go.Vx Go.Shelf
def TxtOk(e:List Nd):Prop:=∀ c ∈ e,c.t.f.length<=1000000000000/\c.t.pat.length<=1000000000000
end Go.Proofs.YtnlingegeangmaaGreatDoor
namespace Go.Proofs.YtnlingegeangmaaGreatDoor
open Go Go.Vx Go.Shelf
open Classical in
noncomputable def tstE(l:List Fd):List Nd->Int
 | []=>0
 | c :: r=>if c.kind=3/\errC l c.t ≠ 0 then errC l c.t else tstE l r
theorem tstE_bad{l:List Fd}{c:Nd}{r:List Nd}(h:c.kind=3)(h2:errC l c.t ≠ 0):tstE l (c :: r)=errC l c.t:=by unfold tstE;rw[if_pos ⟨h,h2⟩]
theorem tstE_ok{l:List Fd}{c:Nd}{r:List Nd}(h:¬ (c.kind=3/\errC l c.t ≠ 0)):tstE l (c :: r)=tstE l r:=by conv=>lhs;unfold tstE;rw[if_neg h]
noncomputable def nestE(l:List Fd)(e:List Nd):Option Tr->Int|none=>52|some x=>if 32<x.nest then 53 else tstE l e
open Classical in
/-- What Check tells. -/
noncomputable def chkE(l:List Fd)(e:List Nd):Int:=if (chkO l).1 ≠ 0 then (chkO l).1 else if 64<e.length then 51 else nestE l e (bldO e)
theorem chkE_f{l:List Fd}{e:List Nd}(h:(chkO l).1 ≠ 0):chkE l e=(chkO l).1:=by unfold chkE;rw[if_pos h]
theorem chkE_l{l:List Fd}{e:List Nd}(h:(chkO l).1=0)(h2:64<e.length):chkE l e=51:=by unfold chkE;rw[if_neg (fun x=>x h),if_pos h2]
theorem chkE_b{l:List Fd}{e:List Nd}(h:(chkO l).1=0)(h2:¬ 64<e.length)(h3:bldO e=none):chkE l e=52:=by unfold chkE;rw[if_neg (fun x=>x h),if_neg h2,h3];rfl
theorem chkE_d{l:List Fd}{e:List Nd}{x:Tr}(h:(chkO l).1=0)(h2:¬ 64<e.length)(h3:bldO e=some x)(h4:32<x.nest):chkE l e=53:=by unfold chkE;rw[if_neg (fun x=>x h),if_neg h2,h3];exact if_pos h4
theorem chkE_t{l:List Fd}{e:List Nd}{x:Tr}(h:(chkO l).1=0)(h2:¬ 64<e.length)(h3:bldO e=some x)(h4:¬ 32<x.nest):chkE l e=tstE l e:=by unfold chkE;rw[if_neg (fun x=>x h),if_neg h2,h3];exact if_neg h4
open Classical in
noncomputable def chkD(l:List Fd)(e:List Nd):D:=if chkE l e=0 then (match bldO e with|some x=>.tup [x.d,.i .i64 0]|none=>.u) else .tup [.nilI,.i .i64 (chkE l e)]
theorem chkD_err{l:List Fd}{e:List Nd}{k:Int}(h:chkE l e=k)(h2:k ≠ 0):chkD l e = .tup [.nilI,.i .i64 k]:=by unfold chkD;rw[h,if_neg h2]
theorem chkD_ok{l:List Fd}{e:List Nd}{x:Tr}(h:chkE l e=0)(h2:bldO e=some x):chkD l e = .tup [x.d,.i .i64 0]:=by unfold chkD;rw[if_pos h,h2]
theorem echk_at(l:List Fd)(r:List (List D))(e:List Nd)(r2:List (List D))(hl:l.length<=2000000)(he:e.length<=2000000)(htx:TxtOk e) :
    FSpec Tryz.prog T 153 [.lst 93 (l.map frow) r,.lst 174 (e.map nrow) r2] (fun d rows=>d=chkD l e/\rows=[]):=by
 have h1:(l.map frow).length=l.length:=by simp
 have h2:(e.map nrow).length=e.length:=by simp
 have hch:=check_at l r hl
 refine FSpec.of_ok tok Tryz.func153 rfl Tryz.call153 (by simp) ?_
 by_cases c1:(chkO l).1=0
 case neg=>
  rw[chkD_err (chkE_f c1) c1]
  generalize (chkO l).1=k at *
  (try (conv=>whnf));repeat' (first|refine Ok.seq ?_|((first|refine Ok.region tok ?_|refine Ok.cond ?_|refine Ok.ret ?_);conv=>whnf)|(refine Or.inl ?_;(conv=>whnf);(repeat (refine aI ?_;conv=>whnf));refine⟨_,hch,rfl,?_⟩;conv=>whnf)|(refine bI ?_ ?_<;>intro<;>(conv=>whnf)<;>(try (exfalso;omega)))|fail)
  all_goals first
   | (exfalso;omega)
   | (refine Or.inl ?_;(conv=>whnf)
      exact⟨rfl,rfl⟩)
 by_cases c2:64<e.length
 . rw[chkD_err (chkE_l c1 c2) (by decide)]
   (try (conv=>whnf));repeat' (first|refine Ok.seq ?_|((first|refine Ok.region tok ?_|refine Ok.cond ?_|refine Ok.skip ?_|refine Ok.ret ?_);conv=>whnf)|(refine Or.inl ?_;(conv=>whnf);(repeat (refine aI ?_;conv=>whnf));refine⟨_,hch,rfl,?_⟩;conv=>whnf)|(refine bI ?_ ?_<;>intro<;>(conv=>whnf)<;>(try (exfalso;omega)))|fail)
   all_goals first
    | (exfalso;omega)
    | (refine Or.inl ?_;(conv=>whnf)
       exact⟨rfl,rfl⟩)
 have hbl:=build_at e r2 he
 cases hb:bldO e with
 | none=>
  rw[chkD_err (chkE_b c1 c2 hb) (by decide)]
  rw[hb] at hbl
  (try (conv=>whnf));repeat' (first|refine Ok.seq ?_|((first|refine Ok.region tok ?_|refine Ok.cond ?_|refine Ok.skip ?_|refine Ok.ret ?_);conv=>whnf)|(refine Or.inl ?_;(conv=>whnf);(repeat (refine aI ?_;conv=>whnf));refine⟨_,hch,rfl,?_⟩;conv=>whnf)|(refine Or.inr (Or.inl ?_);(conv=>whnf);(repeat (refine aI ?_;conv=>whnf));refine⟨_,hbl,?_⟩;rintro _ _ ⟨rfl,rfl⟩;conv=>whnf)|(refine bI ?_ ?_<;>intro<;>(conv=>whnf)<;>(try (exfalso;omega)))|fail)
  all_goals first
   | (exfalso;omega)
   | (rename_i h;exact absurd (fun h2=>h2) h)
   | (refine Or.inl ?_;(conv=>whnf)
      exact⟨rfl,rfl⟩)
 | some x=>
  rw[hb] at hbl
  have hsz:=bldO_sz hb
  obtain⟨fx,mx,sx⟩:=nest_at x (by omega)
  have hnx:=nest_le x
  by_cases c4:32<x.nest
  . rw[chkD_err (chkE_d c1 c2 hb c4) (by decide)]
    (try (conv=>whnf));repeat' (first|(refine⟨fun h=>absurd trivial h,fun _=>?_⟩;conv=>whnf)|refine Ok.seq ?_|((first|refine Ok.region tok ?_|refine Ok.cond ?_|refine Ok.skip ?_|refine Ok.ret ?_);conv=>whnf)|(refine Or.inl ?_;(conv=>whnf);(repeat (refine aI ?_;conv=>whnf));refine⟨_,hch,rfl,?_⟩;conv=>whnf)|(refine Or.inr (Or.inl ?_);(conv=>whnf);(repeat (refine aI ?_;conv=>whnf));refine⟨_,hbl,?_⟩;rintro _ _ ⟨rfl,rfl⟩;conv=>whnf)|(refine Or.inl ?_;(conv=>whnf);(repeat (refine aI ?_;conv=>whnf));refine⟨_,mx,_,sx,rfl,?_⟩;conv=>whnf)|(refine bI ?_ ?_<;>intro<;>(conv=>whnf)<;>(try (exfalso;omega)))|fail)
    all_goals first
     | (exfalso;omega)
     | (refine Or.inl ?_;(conv=>whnf)
        exact⟨rfl,rfl⟩)
  . have hce:=chkE_t c1 c2 hb c4
    (try (conv=>whnf));repeat' (first|(refine⟨fun h=>absurd trivial h,fun _=>?_⟩;conv=>whnf)|refine Ok.seq ?_|((first|refine Ok.region tok ?_|refine Ok.cond ?_);conv=>whnf)|refine Ok.block ?_|(refine Ok.skip ?_;conv=>whnf)|(refine Or.inl ?_;(conv=>whnf);(repeat (refine aI ?_;conv=>whnf));refine⟨_,hch,rfl,?_⟩;conv=>whnf)|(refine Or.inr (Or.inl ?_);(conv=>whnf);(repeat (refine aI ?_;conv=>whnf));refine⟨_,hbl,?_⟩;rintro _ _ ⟨rfl,rfl⟩;conv=>whnf)|(refine Or.inl ?_;(conv=>whnf);(repeat (refine aI ?_;conv=>whnf));refine⟨_,mx,_,sx,rfl,?_⟩;conv=>whnf)|(refine bI ?_ ?_<;>intro<;>(conv=>whnf)<;>(try (exfalso;omega)))|fail)
    all_goals first
     | (exfalso;omega)
     | skip
    refine Ok.loopU [0,8,35,36] [37] 0 0 (fun (i:Nat)=>[.i .i64 (i:Nat)]) (fun _ b=>b) (fun _ r=>r) (fun (i:Nat)=>i<=e.length/\tstE l e=tstE l (e.drop i)) (fun (i:Nat)=>e.length - i) (0) (⟨Nat.zero_le _,rfl⟩) ?_;(conv=>whnf);refine⟨by ((conv=>whnf);first|rfl|(simp[envCat, tkL0, nrow, frow, bcell, srow, tcells, crow, qrow];done)|(simp[envCat, tkL0, nrow, frow, bcell, srow, tcells, crow, qrow];rw[IntKind.wrap_i64];omega)),?_⟩
    rintro i ⟨hi,ht⟩
    (conv=>whnf)
    by_cases hil:i<e.length
    . obtain⟨c,hc⟩:∃ c,e[i]? = some c:=⟨_,gEt0 hil⟩
      have hcI:e[((i:Nat):Int).toNat]? = some c:=hc
      have htc:=htx c (mOf0 hc)
      rw[fdrop_at hc] at ht
      by_cases hk:c.kind=3
      . by_cases hE:errC l c.t=0
        . have hcu:=cubes_ok l r (by have:=(chk_lay (l:=l) (by assumption)).2;omega) c.t.f c.t.op c.t.form c.t.lo c.t.hi c.t.len c.t.pat htc.2 hE
          generalize cubL l ⟨c.t.f,c.t.op,c.t.form,c.t.lo,c.t.hi,c.t.len,c.t.pat⟩=Q at *
          rw[tstE_ok (fun h=>h.2 hE)] at ht
          (try (conv=>whnf));repeat' (first|refine Ok.seq ?_|((first|refine Ok.region tok ?_|refine Ok.cond ?_);conv=>whnf)|refine Ok.block ?_|((first|refine Ok.skip ?_|refine nI ?_|refine ix _ (by assumption) ?_);conv=>whnf)|(refine Or.inr (Or.inl ?_);(conv=>whnf);(repeat (refine aI ?_;conv=>whnf));refine⟨_,hcu,?_⟩;rintro _ _ ⟨rfl,rfl⟩;conv=>whnf)|(refine bI ?_ ?_<;>intro<;>(conv=>whnf)<;>(try (exfalso;omega)))|fail)
          all_goals first
           | (exfalso;omega)
           | (refine⟨i+1,by omega,⟨by omega,ht⟩,?_⟩
              (conv=>whnf)
              rfl)
        . have hcu:=cubes_err l r (by have:=(chk_lay (l:=l) (by assumption)).2;omega) c.t.f c.t.op c.t.form c.t.lo c.t.hi c.t.len c.t.pat htc.2 hE
          rw[tstE_bad hk hE] at ht
          rw[chkD_err (hce.trans ht) hE]
          have hE2:errC l ⟨c.t.f,c.t.op,c.t.form,c.t.lo,c.t.hi,c.t.len,c.t.pat⟩=errC l c.t:=rfl
          rw[hE2] at hcu
          generalize errC l c.t=k at *
          (try (conv=>whnf));repeat' (first|refine Ok.seq ?_|((first|refine Ok.region tok ?_|refine Ok.cond ?_);conv=>whnf)|refine Ok.block ?_|((first|refine Ok.skip ?_|refine Ok.ret ?_|refine ix _ (by assumption) ?_);conv=>whnf)|(refine Or.inr (Or.inl ?_);(conv=>whnf);(repeat (refine aI ?_;conv=>whnf));refine⟨_,hcu,?_⟩;rintro _ _ ⟨rfl,rfl⟩;conv=>whnf)|(refine bI ?_ ?_<;>intro<;>(conv=>whnf)<;>(try (exfalso;omega)))|fail)
          all_goals first
           | (exfalso;omega)
           | (refine Or.inl ?_;(conv=>whnf)
              exact⟨rfl,rfl⟩)
      . rw[tstE_ok (fun h=>hk h.1)] at ht
        (try (conv=>whnf));repeat' (first|refine Ok.seq ?_|((first|refine Ok.region tok ?_|refine Ok.cond ?_);conv=>whnf)|refine Ok.block ?_|((first|refine Ok.skip ?_|refine Ok.exit ?_|refine nI ?_|refine ix _ (by assumption) ?_);conv=>whnf)|(refine bI ?_ ?_<;>intro<;>(conv=>whnf)<;>(try (exfalso;omega)))|fail)
        all_goals first
         | (exfalso;omega)
         | (refine⟨i+1,by omega,⟨by omega,ht⟩,?_⟩
            (conv=>whnf)
            rfl)
    . have hie:i=e.length:=by omega
      subst hie
      rw[List.drop_length] at ht
      rw[chkD_ok (hce.trans ht) hb]
      (try (conv=>whnf));repeat' (first|refine Ok.seq ?_|((first|refine Ok.region tok ?_|refine Ok.cond ?_|refine Ok.exit ?_|refine Ok.ret ?_);conv=>whnf)|(refine bI ?_ ?_<;>intro<;>(conv=>whnf)<;>(try (exfalso;omega)))|fail)
      all_goals first
       | (exfalso;omega)
       | (refine Or.inl ?_;(conv=>whnf)
          exact⟨rfl,rfl⟩)
end Go.Proofs.YtnlingegeangmaaGreatDoor
namespace Go.Proofs.YtnlingegeangmaaGreatDoor
open Go Go.Vx
open Classical
def SI.fd(x:SI):Fd:=⟨x.s,x.n⟩
def Node.nd(x:Node):Nd:=⟨x.kind,⟨x.field,x.op,x.form,x.lo,x.hi,x.len,x.pat⟩⟩
def fds(l:List SI):List Fd:=l.map SI.fd
def nds(l:List Node):List Nd:=l.map Node.nd
theorem fds_row(l:List SI):(fds l).map frow=l.map SI.row:=by simp[fds,Function.comp_def,SI.fd,SI.row]
theorem nds_row(l:List Node):(nds l).map nrow=l.map Node.row:=by simp[nds,Function.comp_def,Node.nd,Node.row]
abbrev Er:=Int × Str
noncomputable def orE(a b:Er):Er:=if a.1 ≠ 0 then a else b
theorem orE_l{a:Er}(b:Er)(h:a.1 ≠ 0):orE a b=a:=if_pos h
theorem orE_r{a:Er}(b:Er)(h:a.1=0):orE a b=b:=if_neg (fun x=>x h)
noncomputable def firstE{α:Type}(f:List α->α->Er)(pre:List α):List α->Er
 | []=>(0,[])
 | x :: l=>if (f pre x).1 ≠ 0 then f pre x else firstE f (pre++[x]) l
section
variable {α : Type} {f : List α → α → Er} {l : List α} {k : Nat} {x : α}
theorem firstE_split(hx:l[k]? = some x):firstE f (l.take k) (l.drop k)=if (f (l.take k) x).1 ≠ 0 then f (l.take k) x else firstE f (l.take (k+1)) (l.drop (k+1)):=by
 rw[fdrop_at hx,List.take_add_one,hx]
 rfl
theorem firstE_bad(hx:l[k]? = some x)(h:(f (l.take k) x).1 ≠ 0):firstE f (l.take k) (l.drop k)=f (l.take k) x:=by rw[firstE_split hx,if_pos h]
theorem firstE_ok(hx:l[k]? = some x)(h:(f (l.take k) x).1=0):firstE f (l.take k) (l.drop k)=firstE f (l.take (k+1)) (l.drop (k+1)):=by rw[firstE_split hx,if_neg (fun g=>g h)]
theorem firstE_nil(h:l.length<=k):firstE f (l.take k) (l.drop k)=(0,[]):=by rw[List.drop_eq_nil_of_le h];rfl
theorem firstE_zero:(firstE f [] l).1=0->∀ (k:Nat) x,l[k]? = some x->(f (l.take k) x).1=0:=by
 have key:∀ (r pre:List α),(firstE f pre r).1=0->∀ (k:Nat) x,r[k]? = some x->(f (pre++r.take k) x).1=0:=by
  intro r
  induction r with
  | nil=>intro pre _ k x h;simp at h
  | cons y r ih=>
   intro pre h k x hx
   unfold firstE at h
   split at h
   . rename_i h1;exact absurd h h1
   . rename_i h1
     cases k with
     | zero=>simp at hx;subst hx;simpa using Classical.not_not.1 h1
     | succ k=>
      have:=ih _ h k x (by simpa using hx)
      simpa using this
 intro h k x hx
 simpa using key l [] h k x hx
theorem firstE_emp:(firstE f [] l).1=0->firstE f [] l=(0,[]):=by
 have key:∀ (r pre:List α),(firstE f pre r).1=0->firstE f pre r=(0,[]):=by
  intro r
  induction r with
  | nil=>intro pre _;rfl
  | cons y r ih=>
   intro pre h
   unfold firstE at h ⊢
   split at h
   . rename_i h1;exact absurd h h1
   . rename_i h1
     rw[if_neg h1]
     exact ih _ h
 exact key l []
end
def resvL:List Str:=[[110,101,116,119,111,114,107],[104,101,97,100,101,114],[114,111,117,116,105,110,103],[115,108,105,109],[98,111,120],[105,110],[111,117,116],[103,117,97,114,100],[112,101,114,109,105,116],[100,101,110,121],[114,117,108,101],[102,114,111,109],[109,97,116,99,104],[115,101,116],[116,111],[100,114,111,112],[111,119,110],[114,111,117,116,101],[108,105,110,107],[99,111,115,116],[115,108,105,99,101],[119,104,101,114,101],[97,110,121],[110,111,110,101],[97,116],[110,111]]
def Rsv(s:Str):Prop:=s ∈ resvL
def MName(s:Str):Prop:=NameP s/\¬ Rsv s
noncomputable def resvE(_:List SI)(f:SI):Er:=if Rsv f.s then (70,f.s) else (0,[])
noncomputable def headO(c:ConfigB):Er:=
 if 256<c.title.length then (71,[110,101,116,119,111,114,107]) else
 if (chkO (fds c.fields)).1=2\/c.fields=[] then (70,[]) else
 if (chkO (fds c.fields)).1 ≠ 0 then (70,((c.fields[(chkO (fds c.fields)).2.toNat]?).getD ⟨[],0⟩).s) else
 orE (firstE resvE [] c.fields) (if (c.routing ≠ []/\¬ ∃ f ∈ c.fields,f.s=c.routing)\/(c.slim/\c.routing=[]) then (73,c.routing) else (0,[]))
def nPorts(l:List BoxB):Nat:=(l.map fun b=>b.ins.length+b.outs.length).sum
def nLines(l:List BoxB):Nat:=(l.map fun b=>b.guards.length).sum
def nRules(l:List BoxB):Nat:=(l.map fun b=>b.rules.length).sum
def nRoutes(l:List BoxB):Nat:=(l.map fun b=>b.owns.length+b.routes.length).sum
def cntL(c:ConfigB):List (Nat × Nat × Str):=
 [(c.boxes.length,16,[98,111,120,101,115]),(nPorts c.boxes,48,[112,111,114,116,115]),(nLines c.boxes,64,[103,117,97,114,100,115]),(nRules c.boxes,64,[114,117,108,101,115]),(nRoutes c.boxes,64,[114,111,117,116,101,115]),(c.links.length,48,[108,105,110,107,115]),(c.slices.length,8,[115,108,105,99,101,115])]
def cntE(_:List (Nat × Nat × Str))(x:Nat × Nat × Str):Er:=if x.2.1<x.1 then (71,x.2.2) else (0,[])
noncomputable def countO(c:ConfigB):Er:=firstE cntE [] (cntL c)
def dot(n p:Str):Str:=n++[46]++p
noncomputable def portE(n:Str)(pre:List Str)(p:Str):Er:=if ¬ MName p then (36,dot n p) else if p ∈ pre then (72,dot n p) else (0,[])
noncomputable def boxE(pre:List BoxB)(b:BoxB):Er:=
 if ¬ MName b.name then (36,b.name) else if ∃ x ∈ pre,x.name=b.name then (72,b.name) else firstE (portE b.name) [] (b.ins++b.outs)
noncomputable def nameO(c:ConfigB):Er:=firstE boxE [] c.boxes
noncomputable def sideE(want other:List Str)(pre:List Str)(s:Str):Er:=if s ∉ want then (if s ∉ other then (73,[]) else (74,[])) else if s ∈ pre then (72,[]) else (0,[])
theorem sideE_unk{want other pre:List Str}{s:Str}(h:s ∉ want)(h2:s ∉ other):sideE want other pre s=(73,[]):=by unfold sideE;rw[if_pos h,if_pos h2]
theorem sideE_side{want other pre:List Str}{s:Str}(h:s ∉ want)(h2:s ∈ other):sideE want other pre s=(74,[]):=by unfold sideE;rw[if_pos h,if_neg (fun g=>g h2)]
theorem sideE_dbl{want other pre:List Str}{s:Str}(h:s ∈ want)(h2:s ∈ pre):sideE want other pre s=(72,[]):=by unfold sideE;rw[if_neg (fun g=>g h),if_pos h2]
theorem sideE_ok{want other pre:List Str}{s:Str}(h:s ∈ want)(h2:s ∉ pre):sideE want other pre s=(0,[]):=by unfold sideE;rw[if_neg (fun g=>g h),if_neg h2]
noncomputable def sidesI(l want other:List Str):Int:=(firstE (sideE want other) [] l).1
noncomputable def setE(fs:List Fd)(pre:List SI)(s:SI):Er:=
 if findI s.s fs 0<0 then (41,[]) else if ∃ t ∈ pre,t.s=s.s then (45,[]) else
 if s.n<0\/(tw ((fs[(findI s.s fs 0).toNat]?).getD ⟨[],0⟩).bits.toNat:Int) - 1<s.n then (42,[]) else (0,[])
noncomputable def wordI(fs:List Fd)(l:List SI):Int:=if 12<l.length then 2 else if (chkO fs).1 ≠ 0 then (chkO fs).1 else (firstE (setE fs) [] l).1
noncomputable def ruleI(c:ConfigB)(b:BoxB)(pre:List RuleB)(r:RuleB):Int:=
 if r.prio<0\/65535<r.prio then 76 else if ∃ s ∈ pre,s.prio=r.prio then 76 else
 if sidesI r.frm b.ins b.outs ≠ 0 then sidesI r.frm b.ins b.outs else
 if chkE (fds c.fields) (nds r.mtch) ≠ 0 then 77 else if wordI (fds c.fields) r.sets ≠ 0 then 79 else
 if 4<r.dst.length then 71 else sidesI r.dst b.outs b.ins
def rbits(c:ConfigB):Int:=if c.routing=[] then 0 else if findI c.routing (fds c.fields) 0<0 then 0 else (((fds c.fields)[(findI c.routing (fds c.fields) 0).toNat]?).getD ⟨[],0⟩).bits
noncomputable def prefI(c:ConfigB)(b:BoxB)(pre:List Pfx)(p:Pfx):Int:=
 if rbits c=0\/p.len<0\/rbits c<p.len\/p.value<0\/(tw (rbits c).toNat:Int)<=p.value then 78 else
 if p.value % (tw (rbits c - p.len).toNat:Int) ≠ 0 then 78 else
 if ∃ q ∈ pre,q.value=p.value/\q.len=p.len then 78 else sidesI [p.dst] b.outs b.ins
noncomputable def told(e:Int)(t:Str):Er:=if e ≠ 0 then (e,t) else (0,[])
noncomputable def guardE(c:ConfigB)(b:BoxB)(_:List LineB)(g:LineB):Er:=
 if g.port ∉ b.ins++b.outs then (73,b.name++[32,103,117,97,114,100,32]++g.port) else if chkE (fds c.fields) (nds g.mtch) ≠ 0 then (77,b.name++[32,103,117,97,114,100,32]++g.port) else (0,[])
noncomputable def ruleE(c:ConfigB)(b:BoxB)(pre:List RuleB)(r:RuleB):Er:=told (ruleI c b pre r) (b.name++[32,114,117,108,101,32]++Lib.itoa r.prio)
noncomputable def ownE(c:ConfigB)(b:BoxB)(pre:List Pfx)(p:Pfx):Er:=told (prefI c b pre p) (b.name++[32,111,119,110])
noncomputable def routE(c:ConfigB)(b:BoxB)(pre:List Pfx)(p:Pfx):Er:=told (prefI c b pre p) (b.name++[32,114,111,117,116,101])
noncomputable def doesE(c:ConfigB)(_:List BoxB)(b:BoxB):Er:=
 orE (firstE (guardE c b) [] b.guards) (orE (firstE (ruleE c b) [] b.rules) (orE (firstE (ownE c b) [] b.owns) (firstE (routE c b) [] b.routes)))
noncomputable def deedO(c:ConfigB):Er:=firstE (doesE c) [] c.boxes
def fullsB(b:BoxB):List Str:=(b.ins++b.outs).map (dot b.name)
def fullIn(c:ConfigB):List Str:=c.boxes.flatMap fun b=>b.ins.map (dot b.name)
def fullOut(c:ConfigB):List Str:=c.boxes.flatMap fun b=>b.outs.map (dot b.name)
noncomputable def linkE(c:ConfigB)(pre:List Link)(x:Link):Er:=
 if sidesI [x.frm] (fullOut c) (fullIn c) ≠ 0 then (sidesI [x.frm] (fullOut c) (fullIn c),x.frm) else
 if sidesI [x.dst] (fullIn c) (fullOut c) ≠ 0 then (sidesI [x.dst] (fullIn c) (fullOut c),x.dst) else
 if x.cost<1\/9999<x.cost then (71,x.frm) else if ∃ y ∈ pre,y.frm=x.frm then (75,x.frm) else (0,[])
noncomputable def linkO(c:ConfigB):Er:=firstE (linkE c) [] c.links
noncomputable def sportE(c:ConfigB)(pre:List Str)(p:Str):Er:=if p ∉ fullIn c/\p ∉ fullOut c then (73,p) else if p ∈ pre then (72,p) else (0,[])
noncomputable def sliceE(c:ConfigB)(pre:List SlcB)(s:SlcB):Er:=
 if ¬ MName s.name then (36,s.name) else if ∃ x ∈ pre,x.name=s.name then (72,s.name) else
 orE (firstE (sportE c) [] s.ports) (if chkE (fds c.fields) (nds s.whr) ≠ 0 then (77,s.name) else (0,[]))
noncomputable def sliceO(c:ConfigB):Er:=firstE (sliceE c) [] c.slices
noncomputable def checkO(c:ConfigB):Er:=orE (headO c) (orE (countO c) (orE (nameO c) (orE (deedO c) (orE (linkO c) (sliceO c)))))
end Go.Proofs.YtnlingegeangmaaGreatDoor
namespace Go.Proofs.YtnlingegeangmaaGreatDoor
open Go Go.Vx
def plcF(s:Str):List Str->Nat->Int
 | [],_=>-1
 | x :: l,k=>if x=s then (k:Int) else plcF s l (k+1)
def plc(l:List Str)(s:Str):Int:=plcF s l 0
theorem plcF_all(s:Str):∀ (l:List Str) (k:Nat),(plcF s l k<0 ↔ s ∉ l)/\-1<=plcF s l k/\(s ∈ l->(k:Int)<=plcF s l k)/\plcF s l k<(k+l.length:Nat)/\(s ∈ l->l[(plcF s l k).toNat - k]? = some s)/\∀ i:Nat,plcF s l k<(k+i:Nat) ↔ s ∉ l\/s ∈ l.take i
 | [],k=>⟨by simp[plcF],by simp[plcF],by simp,by simp[plcF];omega,by simp,fun i=>by simp[plcF];omega⟩
 | x :: l,k=>by
  unfold plcF
  split
  . rename_i h
    subst h
    refine⟨⟨fun h=>absurd h (by omega),fun h=>absurd (List.mem_cons_self) h⟩,by omega,fun _=>by omega,by simp;omega,fun _=>by simp,fun i=>?_⟩
    cases i with
    | zero=>simp
    | succ i=>
     simp
     omega
  . rename_i h
    obtain⟨h1,h2,h3,h4,h5,h6⟩:=plcF_all s l (k+1)
    have hne:¬ s=x:=fun e=>h e.symm
    refine⟨by rw[h1];simp[hne],h2,fun hm=>?_,by simp at h4 ⊢;omega,fun hm=>?_,fun i=>?_⟩
    . have:=h3 (by simpa[hne] using hm)
      omega
    . have hm':s ∈ l:=by simpa[hne] using hm
      have:=h3 hm'
      have h7:=h5 hm'
      rw[show (plcF s l (k+1)).toNat - k=((plcF s l (k+1)).toNat - (k+1))+1 by omega,List.getElem?_cons_succ]
      exact h7
    . cases i with
      | zero=>
       simp only[List.take_zero,List.not_mem_nil,or_false,Nat.add_zero,List.mem_cons,not_or]
       constructor
       . intro hx
         refine⟨hne,fun hm=>?_⟩
         have:=h3 hm
         omega
       . rintro⟨_,hm⟩
         have:=h1.2 hm
         omega
      | succ i=>
       rw[show k+(i+1)=k+1+i by omega,h6 i]
       simp[hne]
theorem plc_lt(l:List Str)(s:Str):plc l s<l.length:=by
 have:=(plcF_all s l 0).2.2.2.1
 rw[Nat.zero_add] at this
 exact this
theorem plc_at{l:List Str}{s:Str}(h:s ∈ l):0<=plc l s/\l[(plc l s).toNat]? = some s:=by
 have h1:=(plcF_all s l 0).2.2.1 h
 have h2:=(plcF_all s l 0).2.2.2.2.1 h
 rw[Nat.sub_zero] at h2
 exact⟨h1,h2⟩
end Go.Proofs.YtnlingegeangmaaGreatDoor
namespace Go.Proofs.YtnlingegeangmaaGreatDoor
open Go Go.Vx
def fI(o:Option Int):D:=.i .i64 (o.getD 0)
theorem mtSI:MTy Tryz.prog 145 D.s fI:=by
 refine⟨⟨9,3,Tryz.underlying145,keyS Tryz.underlying9,fun w=>?_⟩,fun o=>rfl⟩
 kernel_rfl
def deskD(x:D)(b:Box)(g:Nat):D:=.agg (x :: b.row++[.mv (some g)])
def PMap(l:List (Str × Int × Nat))(ps:List Str):Prop:=(∀ s,s ∉ ps->lk l s=none)/\∀ (k:Nat) s,ps[k]? = some s->lk l s=some (k:Int)
theorem port_at(b:Box)(hi:b.ins.l.length<=1048576)(ho:b.outs.l.length<=1048576)(k:Nat)(x:Str)(hx:(b.ins.l++b.outs.l)[k]? = some x)(kk:Int)(hk:kk=k):FSpec Tryz.prog T 122 [.agg b.row,.i .i64 kk] (fun d _=>d = .s x):=by
 subst hk
 have h1:(b.ins.l.map srow).length=b.ins.l.length:=by simp
 have h2:(b.outs.l.map srow).length=b.outs.l.length:=by simp
 refine FSpec.of_ok tok Tryz.func122 rfl Tryz.call122 (by simp) ?_
 by_cases hkl:k<b.ins.l.length
 . rw[List.getElem?_append_left hkl] at hx
   have hx2:(b.ins.l.map srow)[k]? = some [.s x]:=by simp[hx,srow]
   (try (conv=>whnf));repeat' (first|refine Ok.seq ?_|((first|refine Ok.region tok ?_|refine Ok.cond ?_|refine Ok.ret ?_|refine ix _ (by assumption) ?_);conv=>whnf)|(refine bI ?_ ?_<;>intro<;>(conv=>whnf)<;>(try (exfalso;omega)))|fail)
   refine Or.inl ?_;(conv=>whnf)
   rfl
 . rw[List.getElem?_append_right (by omega)] at hx
   have hxl:=(gSm0.1 hx).1
   have hx2:(b.outs.l.map srow)[k - b.ins.l.length]? = some [.s x]:=by simp[hx,srow]
   have e1:((k:Int) - b.ins.l.length).toNat=k - b.ins.l.length:=by omega
   (try (conv=>whnf));repeat' (first|refine Ok.seq ?_|((first|refine Ok.region tok ?_|refine Ok.cond ?_|refine Ok.skip ?_|refine Ok.ret ?_|refine nI ?_|refine ixI_new (by omega) (by omega) fun _ _=>?_);conv=>whnf)|(refine bI ?_ ?_<;>intro<;>(conv=>whnf)<;>(try (exfalso;omega)))|fail)
   all_goals
    rename_i y hy
    rw[h1,e1,hx] at hy
    cases hy
    refine Or.inl ?_;(conv=>whnf)
    rfl
open Classical in
/-- The side that is wanted. -/
noncomputable def wantL(p:Prop)(b:BoxB):List Str:=if p then b.ins else b.outs
theorem wantL_tt(b:BoxB):wantL True b=b.ins:=if_pos trivial
theorem wantL_ff(b:BoxB):wantL False b=b.outs:=if_neg id
theorem wantL_y{p:Prop}(h:p)(b:BoxB):wantL p b=b.ins:=if_pos h
theorem wantL_n{p:Prop}(h:¬ p)(b:BoxB):wantL p b=b.outs:=if_neg h
noncomputable def deskH(g:Nat)(l:List (Str × Int × Nat))(c:Nat):Objs:=[(g,mObj D.s fI l c)]
noncomputable def sideV(b:BoxB)(p:Prop)(s:Str):Int:=(sideE (wantL p b) (wantL (¬ p) b) [] s).1
section
variable {l : List (Str × Int × Nat)} {u v : List Str} {s : Str}
theorem PMap.some_iff(hl:PMap l (u++v)):(lk l s).isSome=true ↔ s ∈ u++v:=by
 constructor
 . intro h
   refine Classical.byContradiction fun hn=>?_
   rw[hl.1 s hn] at h
   cases h
 . intro h
   obtain⟨k,hk⟩:=List.getElem?_of_mem h
   rw[hl.2 k s hk]
   rfl
theorem PMap.left(hl:PMap l (u++v))(h:s ∈ u):∃ k:Nat,lk l s=some (k:Int)/\k<u.length:=by
 obtain⟨k,hk⟩:=List.getElem?_of_mem h
 have hku:=(gSm0.1 hk).1
 exact⟨k,hl.2 k s (by rw[List.getElem?_append_left hku];exact hk),hku⟩
theorem PMap.right(hl:PMap l (u++v))(h:s ∈ v):∃ k:Nat,lk l s=some ((u.length+k:Nat):Int):=by
 obtain⟨k,hk⟩:=List.getElem?_of_mem h
 exact⟨k,hl.2 _ s (by rw[List.getElem?_append_right (by omega),Nat.add_sub_cancel_left];exact hk)⟩
theorem PMap.lt_iff(hl:PMap l (u++v))(h:s ∈ u++v):(lk l s).getD 0<u.length ↔ s ∈ u:=by
 constructor
 . intro hk
   refine Classical.byContradiction fun hn=>?_
   obtain⟨k,e⟩:=hl.right ((mAp0.1 h).resolve_left hn)
   rw[e] at hk
   simp at hk
   omega
 . intro hu
   obtain⟨k,e,hk⟩:=hl.left hu
   rw[e]
   simp
   omega
theorem PMap.not_both(hl:PMap l (u++v))(h:s ∈ u):s ∉ v:=by
 intro hv
 obtain⟨k,e,hk⟩:=hl.left h
 obtain⟨k2,e2⟩:=hl.right hv
 rw[e] at e2
 simp at e2
 omega
end
theorem side_at(cf:Config)(b:Box)(g:Nat)(l:List (Str × Int × Nat))(ck:Nat)(hl:PMap l (b.ins.l++b.outs.l))(s:Str)(p:Prop) :
    FSpecH Tryz.prog T (deskH g l ck) 176 [deskD (.ep cf.row) b g,.s s,.b p] (fun d rows M=>(d = .i .i64 (sideV b.b p s)/\rows=[])/\M=[]):=by
 refine FSpecH.of_ok0 tok Tryz.func176 rfl Tryz.call176 (by simp) ?_
 have h1:(b.ins.l.map srow).length=b.ins.l.length:=by simp
 have hs:=hl.some_iff (s:=s)
 have hlt:=hl.lt_iff (s:=s)
 have hnb:=hl.not_both (s:=s)
 (try (conv=>whnf));repeat' (first|(refine⟨_,_,_,_,_,_,_,_,mtSI,(by first|exact .head _|exact .tail _ (.head _)|exact .tail _ (.tail _ (.head _))|exact .tail _ (.tail _ (.tail _ (.head _)))|exact List.mem_append_left _ (by assumption)),rfl,?_⟩;conv=>whnf)|refine OkM.seq ?_|((first|refine OkM.region tok ?_|refine OkM.cond ?_|refine OkM.skip ?_|refine OkM.ret ?_);conv=>whnf)|(refine bI ?_ ?_<;>intro<;>(conv=>whnf)<;>(try (exfalso;omega)))|fail)
 all_goals
  refine Or.inl ?_;(conv=>whnf)
  refine⟨?_,rfl⟩
  show D.i _ _=_
  congr 1
  unfold sideV
  rename_i hx
 . have hn:s ∉ b.ins.l++b.outs.l:=fun h=>hx (hs.2 h)
   have h2:∀ q,s ∉ wantL q b.b:=fun q h=>by
    by_cases hq:q
    . rw[wantL_y hq] at h;exact hn (List.mem_append_left _ h)
    . rw[wantL_n hq] at h;exact hn (List.mem_append_right _ h)
   rw[sideE_unk (h2 _) (h2 _)]
 . rename_i hy
   have hm:=hs.1 (Classical.not_not.1 hy)
   have hlt:=hlt hm
   rw[h1] at hx
   have h2:s ∉ wantL p b.b/\s ∈ wantL (¬ p) b.b:=by
    by_cases hq:p
    . rw[wantL_y hq,wantL_n (fun g=>g hq)]
      have hnu:s ∉ b.ins.l:=fun h=>hx ⟨fun _=>hq,fun _=>hlt.2 h⟩
      exact⟨hnu,(mAp0.1 hm).resolve_left hnu⟩
    . rw[wantL_n hq,wantL_y hq]
      have hu:s ∈ b.ins.l:=Classical.byContradiction fun h=>hx ⟨fun g=>absurd (hlt.1 g) h,fun g=>absurd g hq⟩
      exact⟨hnb hu,hu⟩
   rw[sideE_side h2.1 h2.2]
 . rename_i hy
   have hm:=hs.1 (Classical.not_not.1 hy)
   have hlt:=hlt hm
   rw[h1] at hx
   have hx:=Classical.not_not.1 hx
   have h2:s ∈ wantL p b.b:=by
    by_cases hq:p
    . rw[wantL_y hq];exact hlt.1 (hx.2 hq)
    . rw[wantL_n hq]
      exact (mAp0.1 hm).resolve_left fun h=>hq (hx.1 (hlt.2 h))
   rw[sideE_ok h2 (by simp)]
def KMap(l:List (Str × Int × Nat))(ps:List Str):Prop:=∀ s,(lk l s).isSome=true ↔ s ∈ ps
theorem KMap.nil:KMap [] []:=fun s=>by simp[lk_nil]
theorem KMap.put{l:List (Str × Int × Nat)}{ps:List Str}(h:KMap l ps)(c:Nat)(s:Str)(a:Int):KMap (mput l c s a).1 (ps++[s]):=fun t=>by
 rw[mput_lk]
 by_cases ht:t=s
 . simp[ht]
 . rw[if_neg ht,h t]
   simp[ht]
theorem sidesI_zero{want other:List Str}{l:List Str}{i:Nat}{s:Str}(h:l[i]? = some s)(hs:(sideE want other [] s).1 ≠ 0):firstE (sideE want other) (l.take i) (l.drop i)=sideE want other [] s:=by
 have hw:s ∉ want:=fun hw=>hs (by rw[sideE_ok hw (by simp)])
 have:sideE want other (l.take i) s=sideE want other [] s:=by
  by_cases ho:s ∈ other
  . rw[sideE_side hw ho,sideE_side hw ho]
  . rw[sideE_unk hw ho,sideE_unk hw ho]
 rw[firstE_bad h (by rw[this];exact hs),this]
theorem sideE_want{want other pre:List Str}{s:Str}(hs:(sideE want other pre s).1=0):s ∈ want:=by
 refine Classical.byContradiction fun h=>?_
 by_cases ho:s ∈ other
 . rw[sideE_side h ho] at hs;cases hs
 . rw[sideE_unk h ho] at hs;cases hs
theorem msides_at(cf:Config)(b:Box)(g:Nat)(l:List (Str × Int × Nat))(ck:Nat)(hl:PMap l (b.ins.l++b.outs.l))(names:List Str){rl sl:List (List D)}(hr:rl=names.map srow)(hn:names.length<=1048576)(p:Prop) :
    FSpecH Tryz.prog T (deskH g l ck) 173 [deskD (.ep cf.row) b g,.lst 9 rl sl,.b p] (fun d rows M=>(d = .i .i64 (sidesI names (wantL p b.b) (wantL (¬ p) b.b))/\rows=[])/\M=[]):=by
 subst hr
 refine FSpecH.of_ok0 tok Tryz.func173 rfl Tryz.call173 (by simp) ?_
 have h1:(names.map srow).length=names.length:=by simp
 (try (conv=>whnf));repeat' (first|(refine⟨_,_,_,_,_,mtSI,fun _ _=>?_⟩;conv=>whnf)|refine OkM.seq ?_|(refine OkM.region tok ?_;conv=>whnf)|refine OkM.block ?_|fail)
 rename_i gc hgc
 refine OkM.loopU [2,3,7,14,15] [16] 0 1 (fun (x:Nat × List (Str × Int × Nat) × Nat)=>[.i .i64 (x.1:Nat)]) (fun _ b=>b) (fun _ r=>r) (fun (x:Nat × List (Str × Int × Nat) × Nat)=>[(gc,mObj D.s fI x.2.1 x.2.2)]) (fun (x:Nat × List (Str × Int × Nat) × Nat)=>x.1<=names.length/\KMap x.2.1 (names.take x.1)/\sidesI names (wantL p b.b) (wantL (¬ p) b.b)=(firstE (sideE (wantL p b.b) (wantL (¬ p) b.b)) (names.take x.1) (names.drop x.1)).1) (fun (x:Nat × List (Str × Int × Nat) × Nat)=>names.length - x.1) ((0,[],0)) (⟨Nat.zero_le _,KMap.nil,rfl⟩) (by first|exact .refl _|exact .cons _ (.refl _)|exact List.nil_sublist _) ?_;(conv=>whnf);refine⟨by ((conv=>whnf);first|rfl|(simp[envCat, tkL0, SI.row, Node.row, Pfx.row, Link.row, srow, Line.row, Rule.row, Box.row, Slc.row, Config.row];done)|(simp[envCat, tkL0, SI.row, Node.row, Pfx.row, Link.row, srow, Line.row, Rule.row, Box.row, Slc.row, Config.row];rw[IntKind.wrap_i64];omega)),?_⟩
 rintro⟨i,lc,cc⟩ ⟨hi,hkm,hfe⟩
 dsimp only at hi hkm hfe ⊢
 (conv=>whnf)
 by_cases hil:i<names.length
 . obtain⟨s,hsi⟩:∃ s,names[i]? = some s:=⟨_,gEt0 hil⟩
   have hsI:names[((i:Nat):Int).toNat]? = some s:=hsi
   have htk:names.take (i+1)=names.take i++[s]:=by rw[List.take_add_one,hsi];rfl
   (try (conv=>whnf));repeat' (first|((first|refine⟨_,_,_,_,_,_,_,_,mtSI,(by first|exact .head _|exact .tail _ (.head _)|exact .tail _ (.tail _ (.head _))|exact .tail _ (.tail _ (.tail _ (.head _)))|exact List.mem_append_left _ (by assumption)),rfl,?_⟩|refine⟨_,_,_,_,_,_,_,0,_,_,mtSI,rfl,rfl,rfl,?_⟩);conv=>whnf)|(refine Or.inr (Or.inl ?_);(conv=>whnf);(repeat (refine aI ?_;conv=>whnf));refine⟨_,(side_at cf b g l ck hl s p).more (fun x hx=>List.mem_append_left _ hx),?_⟩;rintro _ _ _ ⟨⟨rfl,rfl⟩,rfl⟩<;>(conv=>whnf))|refine OkM.seq ?_|((first|refine OkM.region tok ?_|refine OkM.cond ?_);conv=>whnf)|refine OkM.block ?_|((first|refine OkM.skip ?_|refine OkM.ret ?_|refine nI ?_|refine ix _ (by assumption) ?_);conv=>whnf)|(refine bI ?_ ?_<;>intro<;>(conv=>whnf)<;>(try (exfalso;omega)))|fail)
   . rename_i hx
     refine Or.inl ?_;(conv=>whnf)
     refine⟨?_,rfl⟩
     rw[hfe,sidesI_zero hsi hx]
     rfl
   . rename_i hx hy
     have hw:=sideE_want (Classical.not_not.1 hx)
     have hp:=(hkm s).1 hy
     refine Or.inl ?_;(conv=>whnf)
     refine⟨?_,rfl⟩
     rw[hfe,firstE_bad hsi (by rw[sideE_dbl hw hp];decide),sideE_dbl hw hp]
     rfl
   . rename_i hx hy
     have hw:=sideE_want (Classical.not_not.1 hx)
     have hp:s ∉ names.take i:=fun h=>hy ((hkm s).2 h)
     refine⟨(i+1,(mput lc cc s i).1,(mput lc cc s i).2),by dsimp only;omega,⟨by dsimp only;omega,by dsimp only;rw[htk];exact hkm.put cc s i,?_⟩,.refl _,?_⟩
     . rw[hfe,firstE_ok hsi (by rw[sideE_ok hw hp])]
     . (conv=>whnf)
       rfl
 . obtain rfl:i=names.length:=by omega
   rw[firstE_nil (Nat.le_refl _)] at hfe
   (try (conv=>whnf));repeat' (first|refine OkM.seq ?_|((first|refine OkM.region tok ?_|refine OkM.cond ?_|refine OkM.exit ?_|refine OkM.ret ?_);conv=>whnf)|(refine bI ?_ ?_<;>intro<;>(conv=>whnf)<;>(try (exfalso;omega)))|fail)
   all_goals first
    | (exfalso;omega)
    | (refine Or.inl ?_;(conv=>whnf)
       exact⟨by rw[hfe];rfl,rfl⟩)
end Go.Proofs.YtnlingegeangmaaGreatDoor
namespace Go.Proofs.YtnlingegeangmaaGreatDoor
open Go Go.Vx
def plRow(x:Nat × Prop):List D:=[.i .i64 (x.1:Nat),.b x.2]
def plcs(bs:List BoxB):List (Nat × Prop):=bs.zipIdx.flatMap fun x=>(x.1.ins.map fun _=>(x.2,True))++x.1.outs.map fun _=>(x.2,False)
def fullsL(bs:List BoxB):List Str:=bs.flatMap fullsB
def NMap(l:List (Str × Int × Nat))(ps:List Str):Prop:=∀ s,(s ∉ ps->lk l s=none)/\(s ∈ ps->lk l s=some (plc ps s))
theorem plcF_app(s:Str)(t:List Str):∀ (l:List Str) (k:Nat),s ∈ l->plcF s (l++t) k=plcF s l k
 | [],_,h=>by cases h
 | x :: l,k,h=>by
  simp only[List.cons_append,plcF]
  split
  . rfl
  . rename_i hx
    refine plcF_app s t l (k+1) ?_
    rcases List.mem_cons.1 h with rfl|h
    . exact absurd rfl hx
    . exact h
theorem plcF_new(s:Str):∀ (l:List Str) (k:Nat),s ∉ l->plcF s (l++[s]) k=(k+l.length:Nat)
 | [],k,_=>by simp[plcF]
 | x :: l,k,h=>by
  simp only[List.cons_append,plcF]
  rw[if_neg fun e=>h (by rw[e];simp)]
  rw[plcF_new s l (k+1) fun g=>h (by simp[g])]
  simp only[List.length_cons]
  omega
theorem NMap.nil:NMap [] []:=fun s=>⟨fun _=>rfl,fun h=>by cases h⟩
theorem NMap.old{l:List (Str × Int × Nat)}{ps:List Str}(h:NMap l ps){s:Str}(hs:s ∈ ps):NMap l (ps++[s]):=fun t=>by
 by_cases ht:t ∈ ps
 . refine⟨fun g=>absurd (List.mem_append_left _ ht) g,fun _=>?_⟩
   rw[(h t).2 ht]
   congr 1
   exact (plcF_app t [s] ps 0 ht).symm
 . refine⟨fun _=>(h t).1 ht,fun g=>?_⟩
   rcases mAp0.1 g with g|g
   . exact absurd g ht
   . simp at g;subst g;exact absurd hs ht
theorem NMap.new{l:List (Str × Int × Nat)}{ps:List Str}(h:NMap l ps){s:Str}(hs:s ∉ ps)(c:Nat)(a:Int)(ha:a=(ps.length:Nat)):NMap (mput l c s a).1 (ps++[s]):=fun t=>by
 subst ha
 rw[mput_lk]
 by_cases hts:t=s
 . subst hts
   rw[if_pos rfl]
   refine⟨fun g=>absurd (List.mem_append_right _ (by simp)) g,fun _=>?_⟩
   congr 1
   have:=plcF_new t ps 0 hs
   rw[Nat.zero_add] at this
   exact this.symm
 . rw[if_neg hts]
   by_cases ht:t ∈ ps
   . refine⟨fun g=>absurd (List.mem_append_left _ ht) g,fun _=>?_⟩
     rw[(h t).2 ht]
     congr 1
     exact (plcF_app t [s] ps 0 ht).symm
   . refine⟨fun _=>(h t).1 ht,fun g=>?_⟩
     rcases mAp0.1 g with g|g
     . exact absurd g ht
     . simp at g;exact absurd g hts
theorem fullsL_take{bs:List BoxB}{i:Nat}{b:BoxB}(h:bs[i]? = some b):fullsL (bs.take (i+1))=fullsL (bs.take i)++b.ins.map (dot b.name)++b.outs.map (dot b.name):=by
 unfold fullsL
 rw[List.take_add_one,h,List.flatMap_append]
 simp[fullsB]
theorem plcs_take{bs:List BoxB}{i:Nat}{b:BoxB}(h:bs[i]? = some b):plcs (bs.take (i+1))=plcs (bs.take i)++(b.ins.map fun _=>(i,True))++b.outs.map fun _=>(i,False):=by
 have hi:=(gSm0.1 h).1
 unfold plcs
 rw[List.take_add_one,h,List.zipIdx_append,List.flatMap_append]
 simp[Nat.min_eq_left (Nat.le_of_lt hi)]
theorem plcs_len(bs:List BoxB):(plcs bs).length=(fullsL bs).length:=by
 have key:∀ (l:List BoxB) (k:Nat),((l.zipIdx k).flatMap fun x=>(x.1.ins.map fun _=>(x.2,True))++x.1.outs.map fun _=>(x.2,False)).length=(fullsL l).length:=by
  intro l
  induction l with
  | nil=>intro k;rfl
  | cons b l ih=>
   intro k
   simp only[List.zipIdx_cons,List.flatMap_cons,List.length_append,ih,fullsL,fullsB,lMp0]
 exact key bs 0
theorem fullsL_le(bs:List BoxB){i:Nat}{b:BoxB}(h:bs[i]? = some b):(fullsL (bs.take i)).length+b.ins.length+b.outs.length<=(fullsL bs).length:=by
 have e:fullsL bs=fullsL (bs.take (i+1))++fullsL (bs.drop (i+1)):=by
  unfold fullsL
  rw[<- List.flatMap_append,List.take_append_drop]
 rw[e,fullsL_take h]
 simp only[List.length_append,lMp0]
 omega
theorem numbered_at(c:Config)(hc:c.Ok)(htx:∀ b ∈ c.boxes.l,b.name.length<=1048576/\(∀ s ∈ b.ins.l,s.length<=1048576)/\∀ s ∈ b.outs.l,s.length<=1048576)(hpn:(fullsL c.b.boxes).length<=1000) :
    FSpecH Tryz.prog T [] 124 [.agg c.row] (fun d rows M=>∃ g lst ck,d = .tup [.own 0 (plcs c.b.boxes).length,.mv (some g)]/\rows=[some (211,(plcs c.b.boxes).map plRow)]/\M=[(g,mObj D.s fI lst ck)]/\NMap lst (fullsL c.b.boxes)/\mWf lst ck/\mKeys lst):=by
 have hcb:=hc.boxes
 have hbl:(c.boxes.l.map Box.row).length=c.boxes.l.length:=by simp
 refine FSpecH.of_ok tok Tryz.func124 rfl Tryz.call124 (by simp) ?_
 (try (conv=>whnf));repeat' (first|(refine⟨_,_,_,_,_,mtSI,fun _ _=>?_⟩;conv=>whnf)|refine OkM.seq ?_|(refine OkM.region tok ?_;conv=>whnf)|fail)
 rename_i g hg
 refine Or.inr ?_
 (conv=>whnf)
 (try (conv=>whnf));repeat' (first|refine OkM.seq ?_|(refine OkM.region tok ?_;conv=>whnf)|refine OkM.block ?_|fail)
 refine OkM.ghostB 1 0 211 rfl rfl ?_
 (conv=>whnf)
 refine OkM.loopU [4,5,6,12,13] [14] 1 3 (fun (x:Nat × List (Str × Int × Nat) × Nat)=>[.i .i64 (x.1:Nat)]) (fun (x:Nat × List (Str × Int × Nat) × Nat) (_:List (List D))=>[c.row,[.own 0 (plcs (c.b.boxes.take x.1)).length],[.mv (some g)]]) (fun (x:Nat × List (Str × Int × Nat) × Nat) (_:Vx.Rows)=>[some (211,(plcs (c.b.boxes.take x.1)).map plRow)]) (fun (x:Nat × List (Str × Int × Nat) × Nat)=>[(g,mObj D.s fI x.2.1 x.2.2)]) (fun (x:Nat × List (Str × Int × Nat) × Nat)=>x.1<=c.boxes.l.length/\NMap x.2.1 (fullsL (c.b.boxes.take x.1))/\mWf x.2.1 x.2.2/\mKeys x.2.1) (fun (x:Nat × List (Str × Int × Nat) × Nat)=>c.boxes.l.length - x.1) ((0,[],0)) (⟨Nat.zero_le _,NMap.nil,mWf.nil,List.nodup_nil⟩) (by first|exact .refl _|exact .cons _ (.refl _)|exact List.nil_sublist _) ?_;(conv=>whnf);refine⟨by ((conv=>whnf);first|rfl|(simp[envCat, tkL0, SI.row, Node.row, Pfx.row, Link.row, srow, Line.row, Rule.row, Box.row, Slc.row, Config.row, plRow];done)|(simp[envCat, tkL0, SI.row, Node.row, Pfx.row, Link.row, srow, Line.row, Rule.row, Box.row, Slc.row, Config.row, plRow];rw[IntKind.wrap_i64];omega)),?_⟩
 rintro⟨i,lst,ck⟩ ⟨hi,hnm,hwf,hky⟩
 dsimp only at hi hnm hwf hky ⊢
 (conv=>whnf)
 by_cases hil:i<c.boxes.l.length
 . obtain⟨b,hb⟩:∃ b,c.boxes.l[i]? = some b:=⟨_,gEt0 hil⟩
   have hbI:c.boxes.l[((i:Nat):Int).toNat]? = some b:=hb
   have hbb:c.b.boxes[i]? = some b.b:=by simp[Config.b,hb]
   -- both calls
   have hbx:=hc.box b (mOf0 hb)
   have hbi:=hbx.ins
   have hbo:=hbx.outs
   obtain⟨hbn,hbins,hbouts⟩:=htx b (mOf0 hb)
   have hPL:=plcs_len (c.b.boxes.take i)
   have hcap:(fullsL (c.b.boxes.take i)).length+b.ins.l.length+b.outs.l.length<=(fullsL c.b.boxes).length:=fullsL_le c.b.boxes hbb
   (try (conv=>whnf));repeat' (first|refine OkM.seq ?_|((first|refine OkM.region tok ?_|refine OkM.cond ?_);conv=>whnf)|refine OkM.block ?_|((first|refine OkM.skip ?_|refine ix _ (by assumption) ?_);conv=>whnf)|(refine bI ?_ ?_<;>intro<;>(conv=>whnf)<;>(try (exfalso;omega)))|fail)
   refine Or.inr ?_;(conv=>whnf);refine⟨_,_,Tryz.func152,rfl,Tryz.call152,?_⟩;(conv=>whnf)
   (try (conv=>whnf));repeat' (first|refine OkM.seq ?_|(refine OkM.region tok ?_;conv=>whnf)|refine OkM.block ?_|fail)
   refine OkM.loopU [0,2,3,4,5,14,15,52,53,54,55,56,60,61,62] [16] 1 4 (fun (y:Nat × List (Str × Int × Nat) × Nat)=>[.i .i64 (y.1:Nat)]) (fun (y:Nat × List (Str × Int × Nat) × Nat) (_:List (List D))=>[c.row,[.own 0 ((plcs (c.b.boxes.take i)).length+y.1)],[.mv (some g)],b.row]) (fun (y:Nat × List (Str × Int × Nat) × Nat) (_:Vx.Rows)=>[some (211,(plcs (c.b.boxes.take i)++(b.ins.l.take y.1).map fun _=>(i,True)).map plRow)]) (fun (y:Nat × List (Str × Int × Nat) × Nat)=>[(g,mObj D.s fI y.2.1 y.2.2)]) (fun (y:Nat × List (Str × Int × Nat) × Nat)=>y.1<=b.ins.l.length/\NMap y.2.1 (fullsL (c.b.boxes.take i)++(b.ins.l.take y.1).map (dot b.name))/\mWf y.2.1 y.2.2/\mKeys y.2.1) (fun (y:Nat × List (Str × Int × Nat) × Nat)=>b.ins.l.length - y.1) ((0,lst,ck)) (⟨Nat.zero_le _,by simpa using hnm,hwf,hky⟩) (by first|exact .refl _|exact .cons _ (.refl _)|exact List.nil_sublist _) ?_;(conv=>whnf);refine⟨by ((conv=>whnf);first|rfl|(simp[envCat, tkL0, SI.row, Node.row, Pfx.row, Link.row, srow, Line.row, Rule.row, Box.row, Slc.row, Config.row, plRow];done)|(simp[envCat, tkL0, SI.row, Node.row, Pfx.row, Link.row, srow, Line.row, Rule.row, Box.row, Slc.row, Config.row, plRow];rw[IntKind.wrap_i64];omega)),?_⟩
   rintro⟨j,l0,c0⟩ ⟨hj,hnm0a,hwf0a,hky0a⟩
   dsimp only at hj hnm0a hwf0a hky0a ⊢
   (conv=>whnf)
   have hnl0:(b.ins.l.map srow).length=b.ins.l.length:=by simp
   have hpl0:((plcs (c.b.boxes.take i)++(b.ins.l.take j).map fun _=>(i,True)).map plRow).length=(plcs (c.b.boxes.take i)).length+j:=by simp;omega
   by_cases hjl:j<b.ins.l.length
   . obtain⟨s,hs⟩:∃ s,b.ins.l[j]? = some s:=⟨_,gEt0 hjl⟩
     have hsI:b.ins.l[((j:Nat):Int).toNat]? = some s:=hs
     have htk:b.ins.l.take (j+1)=b.ins.l.take j++[s]:=by rw[List.take_add_one,hs];rfl
     have hsl:=hbins s (mOf0 hs)
     have hcI:(c.boxes.l.map Box.row)[i]? = some b.row:=by simp[hb]
     (try (conv=>whnf));repeat' (first|((first|refine⟨_,_,_,_,_,_,_,_,mtSI,(by first|exact .head _|exact .tail _ (.head _)|exact .tail _ (.tail _ (.head _))|exact .tail _ (.tail _ (.tail _ (.head _)))|exact List.mem_append_left _ (by assumption)),rfl,?_⟩|refine⟨_,_,_,_,_,_,_,0,_,_,mtSI,rfl,rfl,rfl,?_⟩);conv=>whnf)|refine OkM.seq ?_|((first|refine OkM.region tok ?_|refine OkM.cond ?_);conv=>whnf)|refine OkM.block ?_|((first|refine OkM.skip ?_|refine nI ?_|refine ix _ (by assumption) ?_|refine Alt2.l (aI ?_)|refine⟨_,.inl ⟨rfl,rfl⟩,?_⟩|refine⟨_,_,rfl,rfl,?_⟩);conv=>whnf)|(refine bI ?_ ?_<;>intro<;>(conv=>whnf)<;>(try (exfalso;omega)))|(refine aJ ?_;conv=>whnf)|fail)
     . rename_i hx
       have hq:dot b.name s ∉ fullsL (c.b.boxes.take i)++(b.ins.l.take j).map (dot b.name):=fun h=>hx (by show (lk _ (dot b.name s)).isSome=true;rw[(hnm0a _).2 h];rfl)
       refine⟨(j+1,(mput l0 c0 (dot b.name s) (((plcs (c.b.boxes.take i)).length+j:Nat):Int)).1,(mput l0 c0 (dot b.name s) (((plcs (c.b.boxes.take i)).length+j:Nat):Int)).2),by dsimp only;omega,⟨by dsimp only;omega,?_,mput_born hwf0a _ _,mput_keys hky0a _ _⟩,.refl _,?_⟩
       . dsimp only
         rw[htk,List.map_append,<- List.append_assoc]
         exact hnm0a.new hq _ _ (by simp only[List.length_append,lMp0,List.length_take,hPL];omega)
       . rw[htk]
         (conv=>whnf);simp[envCat,plRow];exact⟨rfl,by omega,rfl⟩
     . rename_i hx
       have hq:dot b.name s ∈ fullsL (c.b.boxes.take i)++(b.ins.l.take j).map (dot b.name):=Classical.byContradiction fun h=>hx (by show ¬ (lk _ (dot b.name s)).isSome=true;rw[(hnm0a _).1 h];simp)
       refine⟨(j+1,l0,c0),by dsimp only;omega,⟨by dsimp only;omega,?_,hwf0a,hky0a⟩,.refl _,?_⟩
       . dsimp only
         rw[htk,List.map_append,<- List.append_assoc]
         exact hnm0a.old hq
       . rw[htk]
         (conv=>whnf);simp[envCat,plRow];exact⟨rfl,by omega,rfl⟩
   obtain rfl:j=b.ins.l.length:=by omega
   rw[List.take_length] at hnm0a ⊢
   (conv=>whnf)
   (try (conv=>whnf));repeat' (first|refine OkM.seq ?_|((first|refine OkM.region tok ?_|refine OkM.cond ?_|refine OkM.exit ?_);conv=>whnf)|(refine bI ?_ ?_<;>intro<;>(conv=>whnf)<;>(try (exfalso;omega)))|fail)
   refine Or.inr ?_;(conv=>whnf);refine⟨_,_,Tryz.func152,rfl,Tryz.call152,?_⟩;(conv=>whnf)
   (try (conv=>whnf));repeat' (first|refine OkM.seq ?_|(refine OkM.region tok ?_;conv=>whnf)|refine OkM.block ?_|fail)
   refine OkM.loopU [0,2,3,4,5,14,15,52,53,54,60,61,62] [16] 1 4 (fun (y:Nat × List (Str × Int × Nat) × Nat)=>[.i .i64 (y.1:Nat)]) (fun (y:Nat × List (Str × Int × Nat) × Nat) (_:List (List D))=>[c.row,[.own 0 (((plcs (c.b.boxes.take i)++b.ins.l.map fun _=>(i,True))).length+y.1)],[.mv (some g)],b.row]) (fun (y:Nat × List (Str × Int × Nat) × Nat) (_:Vx.Rows)=>[some (211,((plcs (c.b.boxes.take i)++b.ins.l.map fun _=>(i,True))++(b.outs.l.take y.1).map fun _=>(i,False)).map plRow)]) (fun (y:Nat × List (Str × Int × Nat) × Nat)=>[(g,mObj D.s fI y.2.1 y.2.2)]) (fun (y:Nat × List (Str × Int × Nat) × Nat)=>y.1<=b.outs.l.length/\NMap y.2.1 ((fullsL (c.b.boxes.take i)++b.ins.l.map (dot b.name))++(b.outs.l.take y.1).map (dot b.name))/\mWf y.2.1 y.2.2/\mKeys y.2.1) (fun (y:Nat × List (Str × Int × Nat) × Nat)=>b.outs.l.length - y.1) ((0,l0,c0)) (⟨Nat.zero_le _,by simpa using hnm0a,hwf0a,hky0a⟩) (by first|exact .refl _|exact .cons _ (.refl _)|exact List.nil_sublist _) ?_;(conv=>whnf);refine⟨by ((conv=>whnf);first|rfl|(simp[envCat, tkL0, SI.row, Node.row, Pfx.row, Link.row, srow, Line.row, Rule.row, Box.row, Slc.row, Config.row, plRow];done)|(simp[envCat, tkL0, SI.row, Node.row, Pfx.row, Link.row, srow, Line.row, Rule.row, Box.row, Slc.row, Config.row, plRow];rw[IntKind.wrap_i64];omega)),?_⟩
   rintro⟨j,l1,c1⟩ ⟨hj,hnm1a,hwf1a,hky1a⟩
   dsimp only at hj hnm1a hwf1a hky1a ⊢
   (conv=>whnf)
   have hnl1:(b.outs.l.map srow).length=b.outs.l.length:=by simp
   have hpl1:(((plcs (c.b.boxes.take i)++b.ins.l.map fun _=>(i,True))++(b.outs.l.take j).map fun _=>(i,False)).map plRow).length=((plcs (c.b.boxes.take i)++b.ins.l.map fun _=>(i,True))).length+j:=by simp;omega
   by_cases hjl:j<b.outs.l.length
   . obtain⟨s,hs⟩:∃ s,b.outs.l[j]? = some s:=⟨_,gEt0 hjl⟩
     have hsI:b.outs.l[((j:Nat):Int).toNat]? = some s:=hs
     have htk:b.outs.l.take (j+1)=b.outs.l.take j++[s]:=by rw[List.take_add_one,hs];rfl
     have hsl:=hbouts s (mOf0 hs)
     have hcI:(c.boxes.l.map Box.row)[i]? = some b.row:=by simp[hb]
     (try (conv=>whnf));repeat' (first|((first|refine⟨_,_,_,_,_,_,_,_,mtSI,(by first|exact .head _|exact .tail _ (.head _)|exact .tail _ (.tail _ (.head _))|exact .tail _ (.tail _ (.tail _ (.head _)))|exact List.mem_append_left _ (by assumption)),rfl,?_⟩|refine⟨_,_,_,_,_,_,_,0,_,_,mtSI,rfl,rfl,rfl,?_⟩);conv=>whnf)|refine OkM.seq ?_|((first|refine OkM.region tok ?_|refine OkM.cond ?_);conv=>whnf)|refine OkM.block ?_|((first|refine OkM.skip ?_|refine nI ?_|refine ix _ (by assumption) ?_|refine Alt2.l (aI ?_)|refine⟨_,.inl ⟨rfl,rfl⟩,?_⟩|refine⟨_,_,rfl,rfl,?_⟩);conv=>whnf)|(refine bI ?_ ?_<;>intro<;>(conv=>whnf)<;>(try (exfalso;omega)))|(refine aJ ?_;conv=>whnf)|fail)
     . rename_i hx
       have hq:dot b.name s ∉ (fullsL (c.b.boxes.take i)++b.ins.l.map (dot b.name))++(b.outs.l.take j).map (dot b.name):=fun h=>hx (by show (lk _ (dot b.name s)).isSome=true;rw[(hnm1a _).2 h];rfl)
       refine⟨(j+1,(mput l1 c1 (dot b.name s) ((((plcs (c.b.boxes.take i)++b.ins.l.map fun _=>(i,True))).length+j:Nat):Int)).1,(mput l1 c1 (dot b.name s) ((((plcs (c.b.boxes.take i)++b.ins.l.map fun _=>(i,True))).length+j:Nat):Int)).2),by dsimp only;omega,⟨by dsimp only;omega,?_,mput_born hwf1a _ _,mput_keys hky1a _ _⟩,.refl _,?_⟩
       . dsimp only
         rw[htk,List.map_append,<- List.append_assoc]
         exact hnm1a.new hq _ _ (by simp only[List.length_append,lMp0,List.length_take,hPL];omega)
       . rw[htk]
         (conv=>whnf);simp[envCat,plRow];exact⟨rfl,by omega,rfl⟩
     . rename_i hx
       have hq:dot b.name s ∈ (fullsL (c.b.boxes.take i)++b.ins.l.map (dot b.name))++(b.outs.l.take j).map (dot b.name):=Classical.byContradiction fun h=>hx (by show ¬ (lk _ (dot b.name s)).isSome=true;rw[(hnm1a _).1 h];simp)
       refine⟨(j+1,l1,c1),by dsimp only;omega,⟨by dsimp only;omega,?_,hwf1a,hky1a⟩,.refl _,?_⟩
       . dsimp only
         rw[htk,List.map_append,<- List.append_assoc]
         exact hnm1a.old hq
       . rw[htk]
         (conv=>whnf);simp[envCat,plRow];exact⟨rfl,by omega,rfl⟩
   obtain rfl:j=b.outs.l.length:=by omega
   rw[List.take_length] at hnm1a ⊢
   (conv=>whnf)
   (try (conv=>whnf));repeat' (first|refine OkM.seq ?_|((first|refine OkM.region tok ?_|refine OkM.cond ?_|refine OkM.exit ?_|refine nI ?_);conv=>whnf)|(refine bI ?_ ?_<;>intro<;>(conv=>whnf)<;>(try (exfalso;omega)))|fail)
   refine⟨(i+1,l1,c1),by dsimp only;omega,⟨by dsimp only;omega,?_,hwf1a,hky1a⟩,.refl _,?_⟩
   . dsimp only
     rw[fullsL_take hbb]
     exact hnm1a
   . rw[plcs_take hbb]
     (conv=>whnf);simp[envCat,plRow];exact⟨Nat.add_assoc _ _ _,rfl⟩
 . obtain rfl:i=c.boxes.l.length:=by omega
   have htl:c.b.boxes.take c.boxes.l.length=c.b.boxes:=tkL0 (by simp[Config.b])
   rw[htl] at hnm ⊢
   (conv=>whnf)
   (try (conv=>whnf));repeat' (first|refine OkM.seq ?_|((first|refine OkM.region tok ?_|refine OkM.of_ok (Ok.region_draw tok follows (by kernel_rfl) ?_)|refine OkM.cond ?_|refine OkM.exit ?_|refine OkM.ret ?_);conv=>whnf)|(refine bI ?_ ?_<;>intro<;>(conv=>whnf)<;>(try (exfalso;omega)))|fail)
   first
    | (refine Or.inr (Or.inl ?_);(conv=>whnf)
       exact⟨g,lst,ck,rfl,rfl,rfl,hnm,hwf,hky⟩)
    | (refine Or.inl ?_;(conv=>whnf)
       exact⟨g,lst,ck,rfl,rfl,rfl,hnm,hwf,hky⟩)
end Go.Proofs.YtnlingegeangmaaGreatDoor
namespace Go.Proofs.YtnlingegeangmaaGreatDoor
open Go Go.Vx
theorem portE_bad{n p:Str}{pre:List Str}(h:¬ MName p):portE n pre p=(36,dot n p):=if_pos h
theorem portE_dbl{n p:Str}{pre:List Str}(h:MName p)(h2:p ∈ pre):portE n pre p=(72,dot n p):=by unfold portE;rw[if_neg fun g=>g h,if_pos h2]
theorem portE_ok{n p:Str}{pre:List Str}(h:MName p)(h2:p ∉ pre):portE n pre p=(0,[]):=by unfold portE;rw[if_neg fun g=>g h,if_neg h2]
theorem boxE_bad{pre:List BoxB}{b:BoxB}(h:¬ MName b.name):boxE pre b=(36,b.name):=if_pos h
theorem boxE_dbl{pre:List BoxB}{b:BoxB}(h:MName b.name)(h2:b.name ∈ pre.map BoxB.name):boxE pre b=(72,b.name):=by
 unfold boxE
 rw[if_neg fun g=>g h,if_pos (by obtain⟨x,hx,e⟩:=List.mem_map.1 h2;exact⟨x,hx,e⟩)]
theorem boxE_ok{pre:List BoxB}{b:BoxB}(h:MName b.name)(h2:b.name ∉ pre.map BoxB.name):boxE pre b=firstE (portE b.name) [] (b.ins++b.outs):=by
 unfold boxE
 rw[if_neg fun g=>g h,if_neg (by rintro⟨x,hx,e⟩;exact h2 (List.mem_map.2 ⟨x,hx,e⟩))]
theorem mnames_at(hN:∀ s,FSpec Tryz.prog T 121 [.s s] (fun d _=>d = .b (MName s)))(c:Config)(hc:c.Ok)(htx:∀ b ∈ c.boxes.l,b.name.length<=1048576/\(∀ s ∈ b.ins.l,s.length<=1048576)/\∀ s ∈ b.outs.l,s.length<=1048576) :
    FSpecH Tryz.prog T [] 80 [.agg c.row] (fun d rows M=>(d = .tup [.i .i64 (nameO c.b).1,.s (nameO c.b).2]/\rows=[])/\M=[]):=by
 have hcb:=hc.boxes
 have hbl:(c.boxes.l.map Box.row).length=c.boxes.l.length:=by simp
 refine FSpecH.of_ok0 tok Tryz.func80 rfl Tryz.call80 (by simp) ?_
 (try (conv=>whnf));repeat' (first|(refine⟨_,_,_,_,_,mtSI,fun _ _=>?_⟩;conv=>whnf)|refine OkM.seq ?_|(refine OkM.region tok ?_;conv=>whnf)|refine OkM.block ?_|fail)
 rename_i g hg
 refine OkM.loopU [4,16,17] [18] 0 1 (fun (x:Nat × List (Str × Int × Nat) × Nat)=>[.i .i64 (x.1:Nat)]) (fun _ b=>b) (fun _ r=>r) (fun (x:Nat × List (Str × Int × Nat) × Nat)=>[(g,mObj D.s fI x.2.1 x.2.2)]) (fun (x:Nat × List (Str × Int × Nat) × Nat)=>x.1<=c.boxes.l.length/\KMap x.2.1 ((c.b.boxes.take x.1).map BoxB.name)/\nameO c.b=firstE boxE (c.b.boxes.take x.1) (c.b.boxes.drop x.1)) (fun (x:Nat × List (Str × Int × Nat) × Nat)=>c.boxes.l.length - x.1) ((0,[],0)) (⟨Nat.zero_le _,KMap.nil,rfl⟩) (by first|exact .refl _|exact .cons _ (.refl _)|exact List.nil_sublist _) ?_;(conv=>whnf);refine⟨by ((conv=>whnf);first|rfl|(simp[envCat, tkL0, SI.row, Node.row, Pfx.row, Link.row, srow, Line.row, Rule.row, Box.row, Slc.row, Config.row, plRow];done)|(simp[envCat, tkL0, SI.row, Node.row, Pfx.row, Link.row, srow, Line.row, Rule.row, Box.row, Slc.row, Config.row, plRow];rw[IntKind.wrap_i64];omega)),?_⟩
 rintro⟨i,lst,ck⟩ ⟨hi,hkm,hfe⟩
 dsimp only at hi hkm hfe ⊢
 (conv=>whnf)
 by_cases hil:i<c.boxes.l.length
 . obtain⟨b,hb⟩:∃ b,c.boxes.l[i]? = some b:=⟨_,gEt0 hil⟩
   have hbI:c.boxes.l[((i:Nat):Int).toNat]? = some b:=hb
   have hbb:c.b.boxes[i]? = some b.b:=by simp[Config.b,hb]
   have htkb:c.b.boxes.take (i+1)=c.b.boxes.take i++[b.b]:=by rw[List.take_add_one,hbb];rfl
   have hbx:=hc.box b (mOf0 hb)
   have hbi:=hbx.ins
   have hbo:=hbx.outs
   obtain⟨hbn,hbins,hbouts⟩:=htx b (mOf0 hb)
   have hil':(b.ins.l.map srow).length=b.ins.l.length:=by simp
   have hol':(b.outs.l.map srow).length=b.outs.l.length:=by simp
   (try (conv=>whnf));repeat' (first|((first|refine⟨_,_,_,_,_,_,_,_,mtSI,(by first|exact .head _|exact .tail _ (.head _)|exact .tail _ (.tail _ (.head _))|exact .tail _ (.tail _ (.tail _ (.head _)))|exact List.mem_append_left _ (by assumption)),rfl,?_⟩|refine⟨_,_,_,_,_,mtSI,fun _ _=>?_⟩|refine⟨_,_,_,_,_,_,_,0,_,_,mtSI,rfl,rfl,rfl,?_⟩);conv=>whnf)|refine OkM.seq ?_|((first|refine OkM.region tok ?_|refine OkM.of_ok (Ok.region_draw tok follows (by kernel_rfl) ?_)|refine OkM.cond ?_);conv=>whnf)|refine OkM.block ?_|((first|refine OkM.skip ?_|refine OkM.ret ?_|refine nI ?_|refine ix _ (by assumption) ?_);conv=>whnf)|(refine Or.inl ?_;(conv=>whnf);refine Or.inl ?_;(conv=>whnf);(repeat (refine aI ?_;conv=>whnf));refine⟨_,hN b.name,rfl,?_⟩;conv=>whnf)|(refine bI ?_ ?_<;>intro<;>(conv=>whnf)<;>(try (exfalso;omega)))|fail)
   . rename_i hx
     refine Or.inl ?_;(conv=>whnf)
     refine⟨?_,rfl⟩
     rw[hfe,firstE_bad hbb (by rw[boxE_bad hx];simp),boxE_bad hx]
     rfl
   . rename_i hx hy
     have hx:=Classical.not_not.1 hx
     have hm:=(hkm _).1 hy
     refine Or.inl ?_;(conv=>whnf)
     refine⟨?_,rfl⟩
     rw[hfe,firstE_bad hbb (by rw[boxE_dbl hx hm];simp),boxE_dbl hx hm]
     rfl
   rename_i hx hy g2 hg2
   have hx:=Classical.not_not.1 hx
   have hm:b.b.name ∉ (c.b.boxes.take i).map BoxB.name:=fun h=>hy ((hkm _).2 h)
   rw[firstE_split hbb,boxE_ok hx hm] at hfe
   change nameO c.b=if (firstE (portE b.name) [] (b.ins.l++b.outs.l)).1 ≠ 0 then firstE (portE b.name) [] (b.ins.l++b.outs.l) else firstE boxE (c.b.boxes.take (i+1)) (c.b.boxes.drop (i+1)) at hfe
   refine OkM.loopU [4,6,9,16,17,18,50] [51] 0 2 (fun (y:Nat × List (Str × Int × Nat) × Nat)=>[.i .i64 (y.1:Nat)]) (fun _ b=>b) (fun _ r=>r) (fun (y:Nat × List (Str × Int × Nat) × Nat)=>[(g2,mObj D.s fI y.2.1 y.2.2),(g,mObj D.s fI (mput lst ck b.name i).1 (mput lst ck b.name i).2)]) (fun (y:Nat × List (Str × Int × Nat) × Nat)=>y.1<=(b.ins.l++b.outs.l).length/\KMap y.2.1 ((b.ins.l++b.outs.l).take y.1)/\firstE (portE b.name) [] (b.ins.l++b.outs.l)=firstE (portE b.name) ((b.ins.l++b.outs.l).take y.1) ((b.ins.l++b.outs.l).drop y.1)) (fun (y:Nat × List (Str × Int × Nat) × Nat)=>(b.ins.l++b.outs.l).length - y.1) ((0,[],0)) (⟨Nat.zero_le _,KMap.nil,rfl⟩) (by first|exact .refl _|exact .cons _ (.refl _)|exact List.nil_sublist _) ?_;(conv=>whnf);refine⟨by ((conv=>whnf);first|rfl|(simp[envCat, tkL0, SI.row, Node.row, Pfx.row, Link.row, srow, Line.row, Rule.row, Box.row, Slc.row, Config.row, plRow];done)|(simp[envCat, tkL0, SI.row, Node.row, Pfx.row, Link.row, srow, Line.row, Rule.row, Box.row, Slc.row, Config.row, plRow];rw[IntKind.wrap_i64];omega)),?_⟩
   rintro⟨j,l2,c2⟩ ⟨hj,hkm2,hfe2⟩
   dsimp only at hj hkm2 hfe2 ⊢
   (conv=>whnf)
   have hpl:(b.ins.l++b.outs.l).length=b.ins.l.length+b.outs.l.length:=by simp
   by_cases hjl:j<(b.ins.l++b.outs.l).length
   . obtain⟨s,hs⟩:∃ s,(b.ins.l++b.outs.l)[j]? = some s:=⟨_,gEt0 hjl⟩
     have hsl:s.length<=1048576:=by
      rcases mAp0.1 (mOf0 hs) with h|h
      . exact hbins s h
      . exact hbouts s h
     have htk:(b.ins.l++b.outs.l).take (j+1)=(b.ins.l++b.outs.l).take j++[s]:=by rw[List.take_add_one,hs];rfl
     (try (conv=>whnf));repeat' (first|((first|refine⟨_,_,_,_,_,_,_,_,mtSI,(by first|exact .head _|exact .tail _ (.head _)|exact .tail _ (.tail _ (.head _))|exact .tail _ (.tail _ (.tail _ (.head _)))|exact List.mem_append_left _ (by assumption)),rfl,?_⟩|refine⟨_,_,_,_,_,_,_,0,_,_,mtSI,rfl,rfl,rfl,?_⟩);conv=>whnf)|refine OkM.seq ?_|((first|refine OkM.region tok ?_|refine OkM.of_ok (Ok.region_draw tok follows (by kernel_rfl) ?_)|refine OkM.cond ?_);conv=>whnf)|refine OkM.block ?_|((first|refine OkM.skip ?_|refine OkM.ret ?_|refine nI ?_);conv=>whnf)|(refine Or.inl ?_;(conv=>whnf);refine Or.inl ?_;(conv=>whnf);(repeat (refine aI ?_;conv=>whnf));refine⟨_,port_at b hbi hbo j s hs _ rfl,rfl,?_⟩;conv=>whnf)|(refine Or.inl ?_;(conv=>whnf);refine Or.inl ?_;(conv=>whnf);(repeat (refine aI ?_;conv=>whnf));refine⟨_,hN s,rfl,?_⟩;conv=>whnf)|(refine bI ?_ ?_<;>intro<;>(conv=>whnf)<;>(try (exfalso;omega)))|(refine aJ ?_;conv=>whnf)|fail)
     . rename_i hz
       rw[firstE_bad hs (by rw[portE_bad hz];simp),portE_bad hz] at hfe2
       rw[hfe2,if_pos (by simp)] at hfe
       refine Or.inl ?_;(conv=>whnf)
       refine⟨?_,rfl⟩
       rw[hfe]
       rfl
     . rename_i hz hv
       have hz:=Classical.not_not.1 hz
       have hp:=(hkm2 s).1 hv
       rw[firstE_bad hs (by rw[portE_dbl hz hp];simp),portE_dbl hz hp] at hfe2
       rw[hfe2,if_pos (by simp)] at hfe
       refine Or.inl ?_;(conv=>whnf)
       refine⟨?_,rfl⟩
       rw[hfe]
       rfl
     . rename_i hz hv
       have hz:=Classical.not_not.1 hz
       have hp:s ∉ (b.ins.l++b.outs.l).take j:=fun h=>hv ((hkm2 s).2 h)
       refine⟨(j+1,(mput l2 c2 s j).1,(mput l2 c2 s j).2),by dsimp only;omega,⟨by dsimp only;omega,by dsimp only;rw[htk];exact hkm2.put c2 s j,?_⟩,.refl _,?_⟩
       . rw[hfe2,firstE_ok hs (by rw[portE_ok hz hp])]
       . (conv=>whnf)
         rfl
   . obtain rfl:j=(b.ins.l++b.outs.l).length:=by omega
     rw[firstE_nil (Nat.le_refl _)] at hfe2
     rw[hfe2,if_neg (by simp)] at hfe
     (try (conv=>whnf));repeat' (first|refine OkM.seq ?_|((first|refine OkM.region tok ?_|refine OkM.cond ?_|refine OkM.exit ?_|refine nI ?_);conv=>whnf)|(refine bI ?_ ?_<;>intro<;>(conv=>whnf)<;>(try (exfalso;omega)))|fail)
     refine⟨(i+1,(mput lst ck b.name i).1,(mput lst ck b.name i).2),by dsimp only;omega,⟨by dsimp only;omega,?_,hfe⟩,.cons _ (.refl _),?_⟩
     . dsimp only
       rw[htkb,List.map_append]
       exact hkm.put ck b.name i
     . (conv=>whnf)
       rfl
 . obtain rfl:i=c.boxes.l.length:=by omega
   rw[firstE_nil (by simp[Config.b])] at hfe
   (try (conv=>whnf));repeat' (first|refine OkM.seq ?_|((first|refine OkM.region tok ?_|refine OkM.cond ?_|refine OkM.exit ?_|refine OkM.ret ?_);conv=>whnf)|(refine bI ?_ ?_<;>intro<;>(conv=>whnf)<;>(try (exfalso;omega)))|fail)
   all_goals first
    | (exfalso;omega)
    | (refine Or.inl ?_;(conv=>whnf)
       exact⟨by rw[hfe];rfl,rfl⟩)
end Go.Proofs.YtnlingegeangmaaGreatDoor
namespace Go.Proofs.YtnlingegeangmaaGreatDoor
open Go Go.Vx
theorem mresv_at(s:Str):FSpec Tryz.prog T 119 [.s s] (fun d _=>d = .b (Rsv s)):=by
 refine FSpec.of_ok tok Tryz.func119 rfl Tryz.call119 (by simp) ?_
 (try (conv=>whnf));repeat' (first|refine Ok.seq ?_|((first|refine Ok.region tok ?_|refine Ok.cond ?_);conv=>whnf)|refine Ok.block ?_|((first|refine Ok.skip ?_|refine Ok.ret ?_);conv=>whnf)|(refine bI ?_ ?_<;>intro<;>(conv=>whnf)<;>(try (exfalso;omega)))|fail)
 all_goals first
  | (rename_i h
     refine Or.inl ?_;(conv=>whnf)
     exact b_tt (show s ∈ resvL by rw[h];simp[resvL]))
  | (refine Or.inl ?_;(conv=>whnf)
     exact b_ff fun hm=>by
      simp only[Rsv,resvL,List.mem_cons,List.not_mem_nil,or_false] at hm
      iterate 25 (rcases hm with hm|hm;· exact absurd hm (by assumption))
      exact absurd hm (by assumption))
theorem misName_at(s:Str):FSpec Tryz.prog T 121 [.s s] (fun d _=>d = .b (MName s)):=by
 refine FSpec.of_ok tok Tryz.func121 rfl Tryz.call121 (by simp) ?_
 by_cases h0:s=[]
 . (try (conv=>whnf));repeat' (first|refine Ok.seq ?_|((first|refine Ok.region tok ?_|refine Ok.cond ?_);conv=>whnf)|refine Ok.block ?_|((first|refine Ok.skip ?_|refine Ok.ret ?_);conv=>whnf)|(refine Or.inl ?_;(conv=>whnf);(repeat (refine aI ?_;conv=>whnf));refine⟨_,mresv_at s,rfl,?_⟩;conv=>whnf)|(refine bI ?_ ?_<;>intro<;>(conv=>whnf)<;>(try (exfalso;omega)))|fail)
   all_goals first
    | (exfalso;omega)
    | (refine Or.inl ?_;(conv=>whnf)
       exact b_ff fun hn=>hn.1.1 h0)
    | (exact absurd h0 (by assumption))
 by_cases h1:24<s.length
 . (try (conv=>whnf));repeat' (first|refine Ok.seq ?_|((first|refine Ok.region tok ?_|refine Ok.cond ?_|refine Ok.ret ?_);conv=>whnf)|(refine bI ?_ ?_<;>intro<;>(conv=>whnf)<;>(try (exfalso;omega)))|fail)
   all_goals first
    | (exfalso;omega)
    | (refine Or.inl ?_;(conv=>whnf)
       exact b_ff fun hn=>absurd hn.1.2.1 (by omega))
 by_cases h2:Rsv s
 . (try (conv=>whnf));repeat' (first|refine Ok.seq ?_|((first|refine Ok.region tok ?_|refine Ok.cond ?_);conv=>whnf)|refine Ok.block ?_|((first|refine Ok.skip ?_|refine Ok.ret ?_);conv=>whnf)|(refine Or.inl ?_;(conv=>whnf);(repeat (refine aI ?_;conv=>whnf));refine⟨_,mresv_at s,rfl,?_⟩;conv=>whnf)|(refine bI ?_ ?_<;>intro<;>(conv=>whnf)<;>(try (exfalso;omega)))|fail)
   all_goals first
    | (exfalso;omega)
    | (refine Or.inl ?_;(conv=>whnf)
       exact b_ff fun hn=>hn.2 h2)
    | (exact absurd h2 (by assumption))
 (try (conv=>whnf));repeat' (first|refine Ok.seq ?_|((first|refine Ok.region tok ?_|refine Ok.cond ?_);conv=>whnf)|refine Ok.block ?_|((first|refine Ok.skip ?_|refine Ok.ret ?_);conv=>whnf)|(refine Or.inl ?_;(conv=>whnf);(repeat (refine aI ?_;conv=>whnf));refine⟨_,mresv_at s,rfl,?_⟩;conv=>whnf)|(refine bI ?_ ?_<;>intro<;>(conv=>whnf)<;>(try (exfalso;omega)))|fail)
 all_goals first
  | (exfalso;omega)
  | (exact absurd (by assumption) h0)
  | (exact absurd (by assumption) h2)
  | skip
 have hle:s.length<=24:=by omega
 refine Ok.loopU [0,18] [19] 0 0 (fun (i:Nat)=>[.i .i64 (i:Nat)]) (fun _ b=>b) (fun _ r=>r) (fun (i:Nat)=>i<=s.length/\∀ (j:Nat) c,j<i->s[j]? = some c->nameAt j c) (fun (i:Nat)=>s.length - i) (0) (⟨Nat.zero_le _,fun j c hj=>absurd hj (by omega)⟩) ?_;(conv=>whnf);refine⟨by ((conv=>whnf);first|rfl|(simp[envCat, tkL0, SI.row, Node.row, Pfx.row, Link.row, srow, Line.row, Rule.row, Box.row, Slc.row, Config.row];done)|(simp[envCat, tkL0, SI.row, Node.row, Pfx.row, Link.row, srow, Line.row, Rule.row, Box.row, Slc.row, Config.row];rw[IntKind.wrap_i64];omega)),?_⟩
 rintro i ⟨hi,hall⟩
 (conv=>whnf)
 by_cases hil:i<s.length
 . obtain⟨b,hb⟩:∃ b,s[i]? = some b:=⟨_,gEt0 hil⟩
   have hbI:s[((i:Nat):Int).toNat]? = some b:=hb
   have hb255:=b.toNat_lt
   (try (conv=>whnf));repeat' (first|refine Ok.seq ?_|((first|refine Ok.region tok ?_|refine Ok.cond ?_);conv=>whnf)|refine Ok.block ?_|((first|refine Ok.skip ?_|refine Ok.ret ?_|refine nI ?_|refine⟨_,by assumption,?_⟩);conv=>whnf)|(refine bI ?_ ?_<;>intro<;>(conv=>whnf)<;>(try (exfalso;omega)))|((first|refine aJ ?_|refine num_any ?_);conv=>whnf)|fail)
   all_goals first
    | (exfalso;omega)
    | (refine Or.inl ?_;(conv=>whnf)
       refine b_ff fun hn=>?_
       have:=hn.1.2.2 i b hb
       unfold nameAt Ltr Dgt at this
       omega)
    | (refine⟨i+1,by omega,⟨by omega,name_step hall hb ?_⟩,?_⟩
       . unfold nameAt Ltr Dgt
         omega
       . (conv=>whnf)
         rfl)
 . have hie:i=s.length:=by omega
   subst hie
   (try (conv=>whnf));repeat' (first|refine Ok.seq ?_|((first|refine Ok.region tok ?_|refine Ok.cond ?_|refine Ok.exit ?_|refine Ok.ret ?_);conv=>whnf)|(refine bI ?_ ?_<;>intro<;>(conv=>whnf)<;>(try (exfalso;omega)))|fail)
   all_goals first
    | (exfalso;omega)
    | (refine Or.inl ?_;(conv=>whnf)
       exact b_tt ⟨⟨h0,hle,fun j c hc=>hall j c (gSm0.1 hc).1 hc⟩,h2⟩)
end Go.Proofs.YtnlingegeangmaaGreatDoor
namespace Go.Proofs.YtnlingegeangmaaGreatDoor
open Go Go.Vx
def cntRow(x:Nat × Nat × Str):List D:=[.i .i64 (x.1:Nat),.i .i64 (x.2.1:Nat),.s x.2.2]
theorem sum_take{l:List BoxB}{f:BoxB->Nat}{k:Nat}{b:BoxB}(h:l[k]? = some b):((l.take (k+1)).map f).sum=((l.take k).map f).sum+f b:=by
 rw[List.take_add_one,h,List.map_append,List.sum_append]
 simp
theorem sum_le{l:List BoxB}{f:BoxB->Nat}{B:Nat}(h:∀ b ∈ l,f b<=B):(l.map f).sum<=l.length*B:=by
 induction l with
 | nil=>simp
 | cons b l ih=>
  have h1:=h b (by simp)
  have h2:=ih fun x hx=>h x (by simp[hx])
  simp only[List.map_cons,List.sum_cons,List.length_cons,Nat.succ_mul]
  omega
theorem cnt_bound{c:Config}(hc:c.Ok)(k:Nat):nPorts (c.b.boxes.take k)<=k*2097152/\nLines (c.b.boxes.take k)<=k*1048576/\nRules (c.b.boxes.take k)<=k*1048576/\nRoutes (c.b.boxes.take k)<=k*2097152:=by
 have hb:∀ b ∈ c.b.boxes.take k,b.ins.length<=1048576/\b.outs.length<=1048576/\b.guards.length<=1048576/\b.rules.length<=1048576/\b.owns.length<=1048576/\b.routes.length<=1048576:=by
  intro b hb
  obtain⟨x,hx,rfl⟩:=List.mem_map.1 (List.mem_of_mem_take hb)
  have:=hc.box x hx
  exact⟨this.ins,this.outs,by simpa[Box.b] using this.guards,by simpa[Box.b] using this.rules,this.owns,this.routes⟩
 have hk:(c.b.boxes.take k).length<=k:=by rw[List.length_take];omega
 have key:∀ (f:BoxB->Nat) (B:Nat),(∀ b ∈ c.b.boxes.take k,f b<=B)->((c.b.boxes.take k).map f).sum<=k*B:=fun f B h=>Nat.le_trans (sum_le h) (Nat.mul_le_mul_right B hk)
 refine⟨key _ _ fun b h=>?_,key _ _ fun b h=>(hb b h).2.2.1,key _ _ fun b h=>(hb b h).2.2.2.1,key _ _ fun b h=>?_⟩
 . have:=hb b h;show b.ins.length+b.outs.length<=_;omega
 . have:=hb b h;show b.owns.length+b.routes.length<=_;omega
theorem cntE_bad{pre:List (Nat × Nat × Str)}{x:Nat × Nat × Str}(h:x.2.1<x.1):cntE pre x=(71,x.2.2):=if_pos h
theorem cntE_ok{pre:List (Nat × Nat × Str)}{x:Nat × Nat × Str}(h:¬ x.2.1<x.1):cntE pre x=(0,[]):=if_neg h
theorem countO_if(c:ConfigB):countO c=if 16<c.boxes.length then (71,[98,111,120,101,115]) else if 48<nPorts c.boxes then (71,[112,111,114,116,115]) else if 64<nLines c.boxes then (71,[103,117,97,114,100,115]) else if 64<nRules c.boxes then (71,[114,117,108,101,115]) else if 64<nRoutes c.boxes then (71,[114,111,117,116,101,115]) else if 48<c.links.length then (71,[108,105,110,107,115]) else if 8<c.slices.length then (71,[115,108,105,99,101,115]) else (0,[]):=by
 unfold countO cntL
 simp only[firstE,cntE]
 by_cases h0:16<c.boxes.length
 . simp[h0]
 by_cases h1:48<nPorts c.boxes
 . simp[h0,h1]
 by_cases h2:64<nLines c.boxes
 . simp[h0,h1,h2]
 by_cases h3:64<nRules c.boxes
 . simp[h0,h1,h2,h3]
 by_cases h4:64<nRoutes c.boxes
 . simp[h0,h1,h2,h3,h4]
 by_cases h5:48<c.links.length
 . simp[h0,h1,h2,h3,h4,h5]
 by_cases h6:8<c.slices.length
 . simp[h0,h1,h2,h3,h4,h5,h6]
 simp[h0,h1,h2,h3,h4,h5,h6]
theorem mcounts_at(c:Config)(hc:c.Ok):FSpec Tryz.prog T 79 [.agg c.row] (fun d _=>d = .tup [.i .i64 (countO c.b).1,.s (countO c.b).2]):=by
 have hbl:(c.boxes.l.map Box.row).length=c.boxes.l.length:=by simp
 have hll:(c.links.l.map Link.row).length=c.links.l.length:=by simp
 have hsl:(c.slices.l.map Slc.row).length=c.slices.l.length:=by simp
 have hB:=hc.boxes
 have hL:=hc.links
 have hS:=hc.slices
 refine FSpec.of_ok tok Tryz.func79 rfl Tryz.call79 (by simp) ?_
 (try (conv=>whnf));repeat' (first|refine Ok.seq ?_|(refine Ok.region tok ?_;conv=>whnf)|refine Ok.block ?_|fail)
 refine Ok.loopU [1,13,14] [4,5,6,7,15] 0 1 (fun (k:Nat)=>[.i .i64 (nPorts (c.b.boxes.take k):Nat),.i .i64 (nLines (c.b.boxes.take k):Nat),.i .i64 (nRules (c.b.boxes.take k):Nat),.i .i64 (nRoutes (c.b.boxes.take k):Nat),.i .i64 (k:Nat)]) (fun _ b=>b) (fun _ r=>r) (fun (k:Nat)=>k<=c.boxes.l.length) (fun (k:Nat)=>c.boxes.l.length - k) (0) (Nat.zero_le _) ?_;(conv=>whnf);refine⟨by ((conv=>whnf);first|rfl|(simp[envCat, tkL0, SI.row, Node.row, Pfx.row, Link.row, srow, Line.row, Rule.row, Box.row, Slc.row, Config.row, cntRow, cntL, Config.b];done)|(simp[envCat, tkL0, SI.row, Node.row, Pfx.row, Link.row, srow, Line.row, Rule.row, Box.row, Slc.row, Config.row, cntRow, cntL, Config.b];rw[IntKind.wrap_i64];omega)),?_⟩
 rintro k hk
 (conv=>whnf)
 obtain⟨p1,p2,p3,p4⟩:=cnt_bound hc k
 by_cases hkl:k<c.boxes.l.length
 . obtain⟨b,hb⟩:∃ b,c.boxes.l[k]? = some b:=⟨_,gEt0 hkl⟩
   have hbI:c.boxes.l[((k:Nat):Int).toNat]? = some b:=hb
   have hbb:c.b.boxes[k]? = some b.b:=by simp[Config.b,hb]
   have hbx:=hc.box b (mOf0 hb)
   have l1:(b.ins.l.map srow).length=b.ins.l.length:=by simp
   have l2:(b.outs.l.map srow).length=b.outs.l.length:=by simp
   have l3:(b.guards.l.map Line.row).length=b.guards.l.length:=by simp
   have l4:(b.rules.l.map Rule.row).length=b.rules.l.length:=by simp
   have l5:(b.owns.l.map Pfx.row).length=b.owns.l.length:=by simp
   have l6:(b.routes.l.map Pfx.row).length=b.routes.l.length:=by simp
   have b1:=hbx.ins
   have b2:=hbx.outs
   have b3:=hbx.guards
   have b4:=hbx.rules
   have b5:=hbx.owns
   have b6:=hbx.routes
   (try (conv=>whnf));repeat' (first|refine Ok.seq ?_|((first|refine Ok.region tok ?_|refine Ok.cond ?_);conv=>whnf)|refine Ok.block ?_|((first|refine Ok.skip ?_|refine nI ?_|refine ix _ (by assumption) ?_);conv=>whnf)|(refine bI ?_ ?_<;>intro<;>(conv=>whnf)<;>(try (exfalso;omega)))|fail)
   refine⟨k+1,by omega,by omega,?_⟩
   unfold nPorts nLines nRules nRoutes
   rw[sum_take hbb,sum_take hbb,sum_take hbb,sum_take hbb]
   (conv=>whnf);simp[envCat,Box.b];try omega
 obtain rfl:k=c.boxes.l.length:=by omega
 have hta:c.b.boxes.take c.boxes.l.length=c.b.boxes:=tkL0 (by simp[Config.b])
 rw[hta] at p1 p2 p3 p4 ⊢
 (conv=>whnf)
 (try (conv=>whnf));repeat' (first|refine Ok.seq ?_|((first|refine Ok.region tok ?_|refine Ok.cond ?_);conv=>whnf)|refine Ok.block ?_|(refine Ok.exit ?_;conv=>whnf)|(refine bI ?_ ?_<;>intro<;>(conv=>whnf)<;>(try (exfalso;omega)))|fail)
 refine Ok.loopU [68,69] [70] 1 1 (fun (k:Nat)=>[.i .i64 (k:Nat)]) (fun (k:Nat) (_:List (List D))=>[c.row]) (fun (k:Nat) (_:Vx.Rows)=>[some (199,(cntL c.b).map cntRow)]) (fun (k:Nat)=>k<=7/\countO c.b=firstE cntE ((cntL c.b).take k) ((cntL c.b).drop k)) (fun (k:Nat)=>7 - k) (0) (⟨Nat.zero_le _,rfl⟩) ?_;(conv=>whnf);refine⟨by ((conv=>whnf);first|rfl|(simp[envCat, tkL0, SI.row, Node.row, Pfx.row, Link.row, srow, Line.row, Rule.row, Box.row, Slc.row, Config.row, cntRow, cntL, Config.b];done)|(simp[envCat, tkL0, SI.row, Node.row, Pfx.row, Link.row, srow, Line.row, Rule.row, Box.row, Slc.row, Config.row, cntRow, cntL, Config.b];rw[IntKind.wrap_i64];omega)),?_⟩
 rintro k ⟨hk7,hfe⟩
 (conv=>whnf)
 have hcl:(cntL c.b).length=7:=rfl
 by_cases hkl:k<7
 . obtain⟨x,hx⟩:∃ x,(cntL c.b)[k]? = some x:=⟨_,gEt0 (by omega)⟩
   have hxr:((cntL c.b).map cntRow)[k]? = some (cntRow x):=by simp[hx]
   (try (conv=>whnf));repeat' (first|refine Ok.seq ?_|((first|refine Ok.region tok ?_|refine Ok.region_draw tok follows (by kernel_rfl) ?_|refine Ok.cond ?_);conv=>whnf)|refine Ok.block ?_|((first|refine Ok.skip ?_|refine Ok.ret ?_|refine nI ?_|refine rd rfl (by assumption) ?_);conv=>whnf)|(refine bI ?_ ?_<;>intro<;>(conv=>whnf)<;>(try (exfalso;omega)))|(refine aJ ?_;conv=>whnf)|fail)
   . refine Or.inl ?_;(conv=>whnf)
     rw[hfe,firstE_bad hx (by rw[cntE_bad (by omega)];simp),cntE_bad (by omega)]
     rfl
   . refine⟨k+1,by omega,⟨by omega,by rw[hfe,firstE_ok hx (by rw[cntE_ok (by omega)])]⟩,?_⟩
     (conv=>whnf)
     rfl
 obtain rfl:k=7:=by omega
 rw[firstE_nil (by rw[hcl];omega)] at hfe
 (try (conv=>whnf));repeat' (first|refine Ok.seq ?_|((first|refine Ok.region tok ?_|refine Ok.cond ?_|refine Ok.exit ?_|refine Ok.ret ?_);conv=>whnf)|(refine bI ?_ ?_<;>intro<;>(conv=>whnf)<;>(try (exfalso;omega)))|fail)
 refine Or.inl ?_;(conv=>whnf)
 rw[hfe]
 rfl
end Go.Proofs.YtnlingegeangmaaGreatDoor
namespace Go.Proofs.YtnlingegeangmaaGreatDoor
open Go Go.Vx
theorem mfind_at(l:List Fd)(r:List (List D))(nm:Str)(hl:l.length<=2000000):FSpec Tryz.prog T 120 [.lst 93 (l.map frow) r,.s nm] (fun d _=>d = .i .i64 (findI nm l 0)):=by
 have h1:(l.map frow).length=l.length:=by simp
 refine FSpec.of_ok tok Tryz.func120 rfl Tryz.call120 (by simp) ?_
 (try (conv=>whnf));repeat' (first|refine Ok.seq ?_|(refine Ok.region tok ?_;conv=>whnf)|refine Ok.block ?_|fail)
 refine Ok.loopU [1,7,8] [9] 0 0 (fun (i:Nat)=>[.i .i64 (i:Nat)]) (fun _ b=>b) (fun _ r=>r) (fun (i:Nat)=>i<=l.length/\findI nm l 0=findI nm (l.drop i) i) (fun (i:Nat)=>l.length - i) (0) (⟨Nat.zero_le _,rfl⟩) ?_;(conv=>whnf);refine⟨by ((conv=>whnf);first|rfl|(simp[envCat, tkL0, SI.row, Node.row, Pfx.row, Link.row, srow, Line.row, Rule.row, Box.row, Slc.row, Config.row, nrow, frow];done)|(simp[envCat, tkL0, SI.row, Node.row, Pfx.row, Link.row, srow, Line.row, Rule.row, Box.row, Slc.row, Config.row, nrow, frow];rw[IntKind.wrap_i64];omega)),?_⟩
 rintro i ⟨hi,hf⟩
 (conv=>whnf)
 by_cases hil:i<l.length
 . obtain⟨c,hc⟩:∃ c,l[i]? = some c:=⟨_,gEt0 hil⟩
   have hcI:l[((i:Nat):Int).toNat]? = some c:=hc
   rw[fdrop_at hc] at hf
   (try (conv=>whnf));repeat' (first|refine Ok.seq ?_|((first|refine Ok.region tok ?_|refine Ok.cond ?_);conv=>whnf)|refine Ok.block ?_|((first|refine Ok.skip ?_|refine Ok.ret ?_|refine nI ?_|refine ix _ (by assumption) ?_);conv=>whnf)|(refine bI ?_ ?_<;>intro<;>(conv=>whnf)<;>(try (exfalso;omega)))|fail)
   all_goals first
    | (exfalso;omega)
    | (rename_i h
       refine Or.inl ?_;(conv=>whnf)
       rw[hf]
       unfold findI
       rw[if_pos h]
       rfl)
    | (rename_i h
       refine⟨i+1,by omega,⟨by omega,?_⟩,?_⟩
       . rw[hf]
         conv=>lhs;unfold findI
         rw[if_neg h]
       . (conv=>whnf)
         rfl)
 . have hie:i=l.length:=by omega
   subst hie
   rw[List.drop_length] at hf
   (try (conv=>whnf));repeat' (first|refine Ok.seq ?_|((first|refine Ok.region tok ?_|refine Ok.cond ?_|refine Ok.exit ?_|refine Ok.ret ?_);conv=>whnf)|(refine bI ?_ ?_<;>intro<;>(conv=>whnf)<;>(try (exfalso;omega)))|fail)
   all_goals first
    | (exfalso;omega)
    | (refine Or.inl ?_;(conv=>whnf)
       rw[hf]
       rfl)
theorem chkFrom_cases(all:List Fd):∀ (r:List Fd) (i:Nat) (sum:Int),chkFrom all r i sum=(0,0)\/∃ j:Nat,chkFrom all r i sum=(40,(j:Int))/\i<=j/\j<i+r.length
 | [],_,_=>.inl rfl
 | f :: r,i,sum=>by
  by_cases h:badF (all.take i) f sum
  . exact .inr ⟨i,chkFrom_bad h,Nat.le_refl _,by simp⟩
  . rw[chkFrom_ok h]
    rcases chkFrom_cases all r (i+1) (sum+f.bits) with h|⟨j,h,h1,h2⟩
    . exact .inl h
    . exact .inr ⟨j,h,by omega,by simp;omega⟩
theorem chkO_cases(l:List Fd):(chkO l=(2,0)/\12<l.length)\/(chkO l=(40,0)/\l=[])\/(l ≠ []/\l.length<=12/\(chkO l=(0,0)\/∃ j:Nat,chkO l=(40,(j:Int))/\j<l.length)):=by
 by_cases h1:12<l.length
 . exact .inl ⟨chkO_long h1,h1⟩
 by_cases h2:l=[]
 . exact .inr (.inl ⟨chkO_nil (by rw[h2];rfl),h2⟩)
 refine .inr (.inr ⟨h2,by omega,?_⟩)
 rw[chkO_of h1 (fun e=>h2 (List.eq_nil_of_length_eq_zero e))]
 rcases chkFrom_cases l l 0 0 with h|⟨j,h,h3,h4⟩
 . exact .inl h
 . exact .inr ⟨j,h,by omega⟩
theorem fds_len(l:List SI):(fds l).length=l.length:=by simp[fds]
theorem fds_nil(l:List SI):fds l=[] ↔ l=[]:=by simp[fds]
theorem resvE_bad{pre:List SI}{f:SI}(h:Rsv f.s):resvE pre f=(70,f.s):=if_pos h
theorem resvE_ok{pre:List SI}{f:SI}(h:¬ Rsv f.s):resvE pre f=(0,[]):=if_neg h
noncomputable def knownE(c:ConfigB):Er:=by classical exact if (c.routing ≠ []/\¬ ∃ f ∈ c.fields,f.s=c.routing)\/(c.slim/\c.routing=[]) then (73,c.routing) else (0,[])
theorem headO_long{c:ConfigB}(h:256<c.title.length):headO c=(71,[110,101,116,119,111,114,107]):=by unfold headO;rw[if_pos h]
theorem headO_lay{c:ConfigB}(h:¬ 256<c.title.length)(h2:(chkO (fds c.fields)).1=2\/c.fields=[]):headO c=(70,[]):=by unfold headO;rw[if_neg h,if_pos h2]
theorem headO_fld{c:ConfigB}(h:¬ 256<c.title.length){j:Nat}{f:SI}(h2:chkO (fds c.fields)=(40,(j:Int)))(hj:c.fields[j]? = some f):headO c=(70,f.s):=by
 unfold headO
 rw[if_neg h,h2,if_neg (fun g=>g.elim (fun h=>absurd h (by simp)) fun h=>by rw[h] at hj;cases hj),if_pos (by simp)]
 simp[hj]
theorem headO_ok{c:ConfigB}(h:¬ 256<c.title.length)(h2:chkO (fds c.fields)=(0,0))(h3:c.fields ≠ []):headO c=orE (firstE resvE [] c.fields) (knownE c):=by
 unfold headO knownE
 rw[if_neg h,h2,if_neg (fun g=>g.elim (fun h=>absurd h (by simp)) h3),if_neg (by simp)]
theorem knownE_bad{c:ConfigB}(h:(c.routing ≠ []/\¬ ∃ f ∈ c.fields,f.s=c.routing)\/(c.slim/\c.routing=[])):knownE c=(73,c.routing):=if_pos h
theorem knownE_ok{c:ConfigB}(h:¬ ((c.routing ≠ []/\¬ ∃ f ∈ c.fields,f.s=c.routing)\/(c.slim/\c.routing=[]))):knownE c=(0,[]):=if_neg h
theorem findI_fds(nm:Str)(l:List SI):findI nm (fds l) 0<0 ↔ ¬ ∃ f ∈ l,f.s=nm:=by
 have h:=(findI_ge nm (fds l) 0).1
 rw[<- Int.not_le,h]
 apply not_congr
 constructor
 . rintro⟨f,hf,e⟩
   obtain⟨x,hx,rfl⟩:=List.mem_map.1 hf
   exact⟨x,hx,e⟩
 . rintro⟨x,hx,e⟩
   exact⟨_,List.mem_map.2 ⟨x,hx,rfl⟩,e⟩
theorem mhead_at(c:Config)(hf:c.fields.l.length<=1048576):FSpec Tryz.prog T 78 [.agg c.row] (fun d _=>d = .tup [.i .i64 (headO c.b).1,.s (headO c.b).2]):=by
 have hfl:(c.fields.l.map SI.row).length=c.fields.l.length:=by simp
 have hrc:=check_at (fds c.fields.l) c.fields.room (by rw[fds_len];omega)
 have hfd:=mfind_at (fds c.fields.l) c.fields.room c.routing (by rw[fds_len];omega)
 rw[fds_row] at hrc hfd
 refine FSpec.of_ok tok Tryz.func78 rfl Tryz.call78 (by simp) ?_
 by_cases ht:256<c.title.length
 . (try (conv=>whnf));repeat' (first|refine Ok.seq ?_|((first|refine Ok.region tok ?_|refine Ok.cond ?_|refine Ok.ret ?_);conv=>whnf)|(refine bI ?_ ?_<;>intro<;>(conv=>whnf)<;>(try (exfalso;omega)))|fail)
   all_goals first
    | (exfalso;omega)
    | (refine Or.inl ?_;(conv=>whnf)
       rw[headO_long (c:=c.b) ht]
       rfl)
 rcases chkO_cases (fds c.fields.l) with⟨h,h2⟩|⟨h,h2⟩|⟨h1,h2,h|⟨j,h,hj⟩⟩
 . rw[h] at hrc
   dsimp only at hrc
   rw[headO_lay (c:=c.b) ht (.inl (by show (chkO (fds c.fields.l)).1=2;rw[h]))]
   (try (conv=>whnf));repeat' (first|refine Ok.seq ?_|((first|refine Ok.region tok ?_|refine Ok.cond ?_|refine Ok.skip ?_|refine Ok.ret ?_);conv=>whnf)|(refine Or.inl ?_;(conv=>whnf);(repeat (refine aI ?_;conv=>whnf));refine⟨_,hrc,rfl,?_⟩;conv=>whnf)|(refine bI ?_ ?_<;>intro<;>(conv=>whnf)<;>(try (exfalso;omega)))|fail)
   all_goals first
    | (exfalso;omega)
    | (refine Or.inl ?_;(conv=>whnf)
       rfl)
 . rw[h] at hrc
   dsimp only at hrc
   have h3:=(fds_nil _).1 h2
   have h4:c.fields.l.length=0:=by rw[h3];rfl
   rw[headO_lay (c:=c.b) ht (.inr h3)]
   (try (conv=>whnf));repeat' (first|refine Ok.seq ?_|((first|refine Ok.region tok ?_|refine Ok.cond ?_|refine Ok.skip ?_|refine Ok.ret ?_);conv=>whnf)|(refine Or.inl ?_;(conv=>whnf);(repeat (refine aI ?_;conv=>whnf));refine⟨_,hrc,rfl,?_⟩;conv=>whnf)|(refine bI ?_ ?_<;>intro<;>(conv=>whnf)<;>(try (exfalso;omega)))|fail)
   all_goals first
    | (exfalso;omega)
    | (refine Or.inl ?_;(conv=>whnf)
       rfl)
 . rw[h] at hrc
   dsimp only at hrc
   rw[fds_len] at h2
   have h3:c.fields.l ≠ []:=fun e=>h1 ((fds_nil _).2 e)
   have h4:c.fields.l.length ≠ 0:=fun e=>h3 (List.eq_nil_of_length_eq_zero e)
   rw[headO_ok (c:=c.b) ht h h3]
   (try (conv=>whnf));repeat' (first|refine Ok.seq ?_|((first|refine Ok.region tok ?_|refine Ok.cond ?_);conv=>whnf)|refine Ok.block ?_|(refine Ok.skip ?_;conv=>whnf)|(refine Or.inl ?_;(conv=>whnf);(repeat (refine aI ?_;conv=>whnf));refine⟨_,hrc,rfl,?_⟩;conv=>whnf)|(refine bI ?_ ?_<;>intro<;>(conv=>whnf)<;>(try (exfalso;omega)))|fail)
   all_goals first
    | (exfalso;omega)
    | skip
   refine Ok.loopU [1,35,36] [37] 0 1 (fun (i:Nat)=>[.i .i64 (i:Nat)]) (fun (i:Nat) (_:List (List D))=>[c.row]) (fun _ r=>r) (fun (i:Nat)=>i<=c.fields.l.length/\firstE resvE [] c.b.fields=firstE resvE (c.fields.l.take i) (c.fields.l.drop i)) (fun (i:Nat)=>c.fields.l.length - i) (0) (⟨Nat.zero_le _,rfl⟩) ?_;(conv=>whnf);refine⟨by ((conv=>whnf);first|rfl|(simp[envCat, tkL0, SI.row, Node.row, Pfx.row, Link.row, srow, Line.row, Rule.row, Box.row, Slc.row, Config.row, nrow, frow];done)|(simp[envCat, tkL0, SI.row, Node.row, Pfx.row, Link.row, srow, Line.row, Rule.row, Box.row, Slc.row, Config.row, nrow, frow];rw[IntKind.wrap_i64];omega)),?_⟩
   rintro i ⟨hi,hfe⟩
   (conv=>whnf)
   by_cases hil:i<c.fields.l.length
   . obtain⟨f,hfi⟩:∃ f,c.fields.l[i]? = some f:=⟨_,gEt0 hil⟩
     have hfI:c.fields.l[((i:Nat):Int).toNat]? = some f:=hfi
     (try (conv=>whnf));repeat' (first|refine Ok.seq ?_|((first|refine Ok.region tok ?_|refine Ok.region_draw tok follows (by kernel_rfl) ?_|refine Ok.cond ?_);conv=>whnf)|refine Ok.block ?_|((first|refine Ok.skip ?_|refine Ok.ret ?_|refine nI ?_|refine ix _ (by assumption) ?_);conv=>whnf)|(refine Or.inl ?_;(conv=>whnf);(repeat (refine aI ?_;conv=>whnf));refine⟨_,mresv_at f.s,rfl,?_⟩;conv=>whnf)|(refine bI ?_ ?_<;>intro<;>(conv=>whnf)<;>(try (exfalso;omega)))|fail)
     . rename_i hr
       refine Or.inl ?_;(conv=>whnf)
       rw[hfe,firstE_bad hfi (by rw[resvE_bad hr];simp),resvE_bad hr,orE_l _ (by simp)]
       rfl
     . rename_i hr
       rw[firstE_ok hfi (by rw[resvE_ok hr])] at hfe
       refine⟨i+1,by omega,⟨by omega,hfe⟩,?_⟩
       (conv=>whnf)
       rfl
   . obtain rfl:i=c.fields.l.length:=by omega
     rw[List.drop_length,List.take_length] at hfe
     rw[hfe,orE_r _ rfl]
     have hfn:=findI_fds c.routing c.fields.l
     have hkb:((c.routing ≠ []/\findI c.routing (fds c.fields.l) 0<0)\/(c.routing=[]/\c.slim)) ↔ ((c.b.routing ≠ []/\¬ ∃ f ∈ c.b.fields,f.s=c.b.routing)\/(c.b.slim/\c.b.routing=[])):=by
      rw[hfn,and_comm (a:=c.routing=[])]
      rfl
     (try (conv=>whnf));repeat' (first|refine Ok.seq ?_|((first|refine Ok.region tok ?_|refine Ok.region_draw tok follows (by kernel_rfl) ?_|refine Ok.cond ?_|refine Ok.skip ?_|refine Ok.exit ?_|refine Ok.ret ?_);conv=>whnf)|(refine Or.inl ?_;(conv=>whnf);(repeat (refine aI ?_;conv=>whnf));refine⟨_,hfd,rfl,?_⟩;conv=>whnf)|(refine bI ?_ ?_<;>intro<;>(conv=>whnf)<;>(try (exfalso;omega)))|fail)
     all_goals
      refine Or.inl ?_;(conv=>whnf)
      first
       | (rw[knownE_bad (hkb.1 (.inl ⟨by assumption,by assumption⟩))];rfl)
       | (rw[knownE_bad (hkb.1 (.inr ⟨by assumption,by assumption⟩))];rfl)
       | (rw[knownE_ok fun g=>by
            rcases hkb.2 g with⟨a,b⟩|⟨a,b⟩<;>first|exact absurd a (by assumption)|exact absurd b (by assumption)|exact absurd (by assumption) a|exact absurd (by assumption) b]
          rfl)
 . rw[h] at hrc
   dsimp only at hrc
   rw[fds_len] at hj
   obtain⟨f,hfi⟩:∃ f,c.fields.l[j]? = some f:=⟨_,gEt0 hj⟩
   rw[headO_fld (c:=c.b) ht h hfi]
   have h4:c.fields.l.length ≠ 0:=by omega
   (try (conv=>whnf));repeat' (first|refine Ok.seq ?_|((first|refine Ok.region tok ?_|refine Ok.region_draw tok follows (by kernel_rfl) ?_|refine Ok.cond ?_|refine Ok.skip ?_|refine Ok.ret ?_|refine ix _ (by assumption) ?_);conv=>whnf)|(refine Or.inl ?_;(conv=>whnf);(repeat (refine aI ?_;conv=>whnf));refine⟨_,hrc,rfl,?_⟩;conv=>whnf)|(refine bI ?_ ?_<;>intro<;>(conv=>whnf)<;>(try (exfalso;omega)))|fail)
   all_goals first
    | (exfalso;omega)
    | (refine Or.inl ?_;(conv=>whnf)
       rfl)
end Go.Proofs.YtnlingegeangmaaGreatDoor
namespace Go.Proofs.YtnlingegeangmaaGreatDoor
open Go Go.Vx Go.Shelf
theorem chkD_two(l:List Fd)(e:List Nd):∃ y:D,chkD l e = .tup [y,.i .i64 (chkE l e)]/\(y = .nilI\/∃ x:Tr,y=x.d):=by
 by_cases h:chkE l e=0
 . cases hb:bldO e with
   | none=>
    exfalso
    unfold chkE at h
    split at h
    . rename_i h1;exact h1 h
    split at h
    . cases h
    . rw[hb] at h;cases h
   | some x=>exact⟨x.d,by rw[chkD_ok h hb,h],.inr ⟨x,rfl⟩⟩
 . exact⟨.nilI,chkD_err rfl h,.inl rfl⟩
theorem pcheck_at(l:List Fd)(r:List (List D))(e:List Nd)(r2:List (List D))(hl:l.length<=2000000)(he:e.length<=2000000)(htx:TxtOk e) :
    FSpec Tryz.prog T 126 [.lst 93 (l.map frow) r,.lst 174 (e.map nrow) r2] (fun d _=>d = .i .i64 (chkE l e)):=by
 have hk:=echk_at l r e r2 hl he htx
 obtain⟨y,hy,hx⟩:=chkD_two l e
 rw[hy] at hk
 refine FSpec.of_ok tok Tryz.func126 rfl Tryz.call126 (by simp) ?_
 rcases hx with rfl|⟨x,rfl⟩
 . (try (conv=>whnf));repeat' (first|refine Ok.seq ?_|((first|refine Ok.region tok ?_|refine Ok.ret ?_);conv=>whnf)|(refine Or.inr (Or.inl ?_);(conv=>whnf);(repeat (refine aI ?_;conv=>whnf));refine⟨_,hk,?_⟩;rintro _ _ ⟨rfl,rfl⟩;conv=>whnf)|fail)
   refine Or.inl ?_;(conv=>whnf)
   rfl
 . (try (conv=>whnf));repeat' (first|refine Ok.seq ?_|((first|refine Ok.region tok ?_|refine Ok.ret ?_);conv=>whnf)|(refine Or.inr (Or.inl ?_);(conv=>whnf);(repeat (refine aI ?_;conv=>whnf));refine⟨_,hk,?_⟩;rintro _ _ ⟨rfl,rfl⟩;conv=>whnf)|fail)
   refine Or.inl ?_;(conv=>whnf)
   rfl
end Go.Proofs.YtnlingegeangmaaGreatDoor
namespace Go.Proofs.YtnlingegeangmaaGreatDoor
open Go Go.Vx
structure HeadOk(c:ConfigB):Prop where
 chk:chkO (fds c.fields)=(0,0)
 known:c.routing ≠ []->∃ f ∈ c.fields,f.s=c.routing
theorem head_ok{c:ConfigB}(h:(headO c).1=0):HeadOk c:=by
 by_cases ht:256<c.title.length
 . rw[headO_long ht] at h;cases h
 rcases chkO_cases (fds c.fields) with⟨e,h2⟩|⟨e,h2⟩|⟨h1,h2,e|⟨j,e,hj⟩⟩
 . rw[headO_lay ht (.inl (by rw[e]))] at h;cases h
 . rw[headO_lay ht (.inr ((fds_nil _).1 h2))] at h;cases h
 . rw[headO_ok ht e (fun g=>h1 ((fds_nil _).2 g))] at h
   refine⟨e,fun hr=>Classical.byContradiction fun hn=>?_⟩
   by_cases h0:(firstE resvE [] c.fields).1=0
   . rw[orE_r _ h0,knownE_bad (.inl ⟨hr,hn⟩)] at h;cases h
   . rw[orE_l _ h0] at h;exact h0 h
 . rw[fds_len] at hj
   rw[headO_fld ht e (gEt0 hj)] at h;cases h
theorem nds_ok{l:List Node}(h:∀ x ∈ l,x.Tx):TxtOk (nds l):=fun c hc=>by
 obtain⟨x,hx,rfl⟩:=List.mem_map.1 hc
 have h1:=(h x hx).field
 have h2:=(h x hx).pat
 unfold SOk at h1 h2
 exact⟨by show x.field.length<=_;omega,by show x.pat.length<=_;omega⟩
theorem sidesI_one(s:Str)(w o:List Str):sidesI [s] w o=(sideE w o [] s).1:=by
 unfold sidesI firstE
 by_cases h:(sideE w o [] s).1 ≠ 0
 . rw[if_pos h]
 . rw[if_neg h]
   exact (Classical.not_not.1 h).symm
theorem right_at(cf:Config)(hf:cf.fields.l.length<=1048576)(b:Box)(g:Nat)(l:List Node){rl r:List (List D)}(h:rl=l.map Node.row)(hl:l.length<=1048576)(htx:∀ x ∈ l,x.Tx) :
    FSpec Tryz.prog T 148 [deskD (.ep cf.row) b g,.lst 174 rl r] (fun d _=>d = .b (chkE (fds cf.fields.l) (nds l)=0)):=by
 subst h
 have hc:=pcheck_at (fds cf.fields.l) cf.fields.room (nds l) r (by rw[fds_len];omega) (by simp[nds];omega) (nds_ok htx)
 rw[fds_row,nds_row] at hc
 refine FSpec.of_ok tok Tryz.func148 rfl Tryz.call148 (by simp) ?_
 (try (conv=>whnf));repeat' (first|refine Ok.seq ?_|((first|refine Ok.region tok ?_|refine Ok.ret ?_);conv=>whnf)|(refine Or.inl ?_;(conv=>whnf);(repeat (refine aI ?_;conv=>whnf));refine⟨_,hc,rfl,?_⟩;conv=>whnf)|fail)
 refine Or.inl ?_;(conv=>whnf)
 rfl
theorem findI_at{nm:Str}{l:List Fd}(h:∃ f ∈ l,f.name=nm):∃ (k:Nat) (f:Fd),findI nm l 0=(k:Int)/\l[k]? = some f/\f.name=nm/\∀ (j:Nat) x,j<k->l[j]? = some x->x.name ≠ nm:=by
 have key:∀ (l:List Fd) (i:Nat),(∃ f ∈ l,f.name=nm)->∃ (k:Nat) (f:Fd),findI nm l i=((k+i:Nat):Int)/\l[k]? = some f/\f.name=nm/\∀ (j:Nat) x,j<k->l[j]? = some x->x.name ≠ nm:=by
  intro l
  induction l with
  | nil=>rintro i ⟨f,hf,_⟩;cases hf
  | cons y l ih=>
   rintro i ⟨f,hf,e⟩
   by_cases hy:y.name=nm
   . exact⟨0,y,by unfold findI;rw[if_pos hy];simp,rfl,hy,fun j x hj=>absurd hj (by omega)⟩
   . have hm:∃ f ∈ l,f.name=nm:=by
       rcases List.mem_cons.1 hf with rfl|hf
       . exact absurd e hy
       . exact⟨f,hf,e⟩
     obtain⟨k,x,h1,h2,h3,h4⟩:=ih (i+1) hm
     refine⟨k+1,x,?_,by simpa using h2,h3,fun j z hj hz=>?_⟩
     . unfold findI
       rw[if_neg hy,h1]
       congr 1
       omega
     . cases j with
       | zero=>simp at hz;subst hz;exact hy
       | succ j=>exact h4 j z (by omega) (by simpa using hz)
 obtain⟨k,f,h1,h2⟩:=key l 0 h
 exact⟨k,f,by simpa using h1,h2⟩
theorem rbits_at{c:ConfigB}(hh:HeadOk c)(hr:c.routing ≠ []):∃ (k:Nat) (f:SI),findI c.routing (fds c.fields) 0=(k:Int)/\c.fields[k]? = some f/\f.s=c.routing/\rbits c=f.n/\1<=f.n/\f.n<=32/\∀ (j:Nat) x,j<k->c.fields[j]? = some x->x.s ≠ c.routing:=by
 obtain⟨f0,hf0,e0⟩:=hh.known hr
 obtain⟨k,f,h1,h2,h3,h4⟩:=findI_at (nm:=c.routing) (l:=fds c.fields) ⟨f0.fd,List.mem_map.2 ⟨f0,hf0,rfl⟩,e0⟩
 have hlay:=(chk_lay (l:=fds c.fields) (by rw[hh.chk])).1 f (mOf0 h2)
 have h2':=h2
 simp only[fds,gMp0,Option.map_eq_some_iff] at h2
 obtain⟨y,hy,rfl⟩:=h2
 refine⟨k,y,h1,hy,h3,?_,hlay.1,hlay.2,fun j x hj hx=>h4 j x.fd hj (by simp[fds,hx])⟩
 unfold rbits
 rw[if_neg hr,h1,if_neg (by omega)]
 simp only[Int.toNat_natCast,h2',Option.getD_some]
 rfl
end Go.Proofs.YtnlingegeangmaaGreatDoor
namespace Go.Proofs.YtnlingegeangmaaGreatDoor
open Go Go.Vx
section
variable {c : ConfigB} {b : BoxB} {pre : List Pfx} {p : Pfx}
theorem prefI_bad(h:rbits c=0\/p.len<0\/rbits c<p.len\/p.value<0\/(tw (rbits c).toNat:Int)<=p.value):prefI c b pre p=78:=if_pos h
theorem prefI_mod(h:¬ (rbits c=0\/p.len<0\/rbits c<p.len\/p.value<0\/(tw (rbits c).toNat:Int)<=p.value))(h2:p.value % (tw (rbits c - p.len).toNat:Int) ≠ 0):prefI c b pre p=78:=by unfold prefI;rw[if_neg h,if_pos h2]
theorem prefI_dup(h:¬ (rbits c=0\/p.len<0\/rbits c<p.len\/p.value<0\/(tw (rbits c).toNat:Int)<=p.value))(h2:¬ p.value % (tw (rbits c - p.len).toNat:Int) ≠ 0)(h3:∃ q ∈ pre,q.value=p.value/\q.len=p.len):prefI c b pre p=78:=by
 unfold prefI;rw[if_neg h,if_neg h2,if_pos h3]
theorem prefI_ok(h:¬ (rbits c=0\/p.len<0\/rbits c<p.len\/p.value<0\/(tw (rbits c).toNat:Int)<=p.value))(h2:¬ p.value % (tw (rbits c - p.len).toNat:Int) ≠ 0)(h3:¬ ∃ q ∈ pre,q.value=p.value/\q.len=p.len):prefI c b pre p=sidesI [p.dst] b.outs b.ins:=by
 unfold prefI;rw[if_neg h,if_neg h2,if_neg h3]
end
theorem sideV_ff(b:BoxB)(s:Str):sideV b False s=sidesI [s] b.outs b.ins:=by
 unfold sideV
 rw[sidesI_one,wantL_ff,wantL_y (fun h=>h.elim:¬ False)]
theorem mprefix_at(cf:Config)(hh:HeadOk cf.b)(b:Box)(g:Nat)(l:List (Str × Int × Nat))(ck:Nat)(hl:PMap l (b.ins.l++b.outs.l))(pre:List Pfx)(p:Pfx){rl r:List (List D)}(hr:rl=pre.map Pfx.row)(hpl:pre.length<=1048576) :
    FSpecH Tryz.prog T (deskH g l ck) 151 [deskD (.ep cf.row) b g,.agg p.row,.lst 49 rl r] (fun d rows M=>(d = .i .i64 (prefI cf.b b.b pre p)/\rows=[])/\M=[]):=by
 subst hr
 have hpr:(pre.map Pfx.row).length=pre.length:=by simp
 refine FSpecH.of_ok0 tok Tryz.func151 rfl Tryz.call151 (by simp) ?_
 by_cases hr0:cf.routing=[]
 . have hb0:rbits cf.b=0:=if_pos hr0
   (try (conv=>whnf));repeat' (first|refine OkM.seq ?_|((first|refine OkM.region tok ?_|refine OkM.of_ok (Ok.region_draw tok follows (by kernel_rfl) ?_)|refine OkM.cond ?_|refine OkM.skip ?_|refine OkM.ret ?_);conv=>whnf)|(refine bI ?_ ?_<;>intro<;>(conv=>whnf)<;>(try (exfalso;omega)))|fail)
   all_goals first
    | (exact absurd hr0 (by assumption))
    | (refine Or.inl ?_;(conv=>whnf)
       exact⟨by rw[prefI_bad (.inl hb0)];rfl,rfl⟩)
 obtain⟨k,f,hfi,hfk,hfs,hrb,hn1,hn2,hfirst⟩:=rbits_at hh hr0
 have hfl:=chk_lay (l:=fds cf.fields.l) (by rw[show chkO (fds cf.fields.l)=_ from hh.chk])
 have hfd:=mfind_at (fds cf.fields.l) cf.fields.room cf.routing (by have:=hfl.2;omega)
 rw[fds_row,show findI cf.routing (fds cf.fields.l) 0=_ from hfi] at hfd
 have hfkI:(cf.fields.l.map SI.row)[k]? = some f.row:=by simp[show cf.fields.l[k]? = _ from hfk]
 obtain⟨K,hK⟩:∃ K:Nat,f.n=K:=⟨f.n.toNat,by omega⟩
 have hsh1:f.n=(K:Int)/\K<=62:=⟨hK,by omega⟩
 have hKt:(rbits cf.b).toNat=K:=by rw[hrb];omega
 have htw:(0:Int)<tw K:=by have:=tw_pos K;omega
 by_cases hA:p.len<0\/f.n<p.len\/p.value<0\/(tw K:Int)<=p.value
 . have hbad:prefI cf.b b.b pre p=78:=prefI_bad (.inr (by rw[hKt,hrb];exact hA))
   rw[hbad]
   (try (conv=>whnf));repeat' (first|((with_reducible_and_instances refine shl_i (by assumption) ?_);conv=>whnf)|refine OkM.seq ?_|((first|refine OkM.region tok ?_|refine OkM.of_ok (Ok.region_draw tok follows (by kernel_rfl) ?_)|refine OkM.cond ?_|refine OkM.skip ?_|refine OkM.ret ?_|refine ix _ (by assumption) ?_|refine⟨_,by assumption,?_⟩);conv=>whnf)|(refine bI ?_ ?_<;>intro<;>(conv=>whnf)<;>(try (exfalso;omega)))|(refine aJ ?_;conv=>whnf)|fail)
   all_goals first
    | (exact absurd (by assumption) hr0)
    | (exfalso;omega)
    | (refine Or.inl ?_;(conv=>whnf)
       exact⟨rfl,rfl⟩)
 have hA':¬ (rbits cf.b=0\/p.len<0\/rbits cf.b<p.len\/p.value<0\/(tw (rbits cf.b).toNat:Int)<=p.value):=by
  rw[hKt,hrb]
  rintro (h|h)
  . omega
  . exact hA h
 obtain⟨K2,hK2⟩:∃ K2:Nat,f.n - p.len=K2:=⟨(f.n - p.len).toNat,by omega⟩
 have hsh2:f.n - p.len=(K2:Int)/\K2<=62:=⟨hK2,by omega⟩
 have hK2t:(rbits cf.b - p.len).toNat=K2:=by rw[hrb];omega
 have htw2:(0:Int)<tw K2:=by have:=tw_pos K2;omega
 (try (conv=>whnf));repeat' (first|((with_reducible_and_instances refine shl_i (by assumption) ?_);conv=>whnf)|refine OkM.seq ?_|((first|refine OkM.region tok ?_|refine OkM.of_ok (Ok.region_draw tok follows (by kernel_rfl) ?_)|refine OkM.cond ?_);conv=>whnf)|refine OkM.block ?_|((first|refine OkM.skip ?_|refine OkM.ret ?_|refine nI ?_|refine ix _ (by assumption) ?_|refine⟨_,by assumption,?_⟩);conv=>whnf)|(refine bI ?_ ?_<;>intro<;>(conv=>whnf)<;>(try (exfalso;omega)))|((first|refine aJ ?_|refine num_any ?_);conv=>whnf)|fail)
 all_goals first
  | (exact absurd (by assumption) hr0)
  | (exfalso;omega)
  | skip
 . rename_i hm
   rw[Int.tmod_eq_emod_of_nonneg (by omega)] at hm
   refine Or.inl ?_;(conv=>whnf)
   exact⟨by rw[prefI_mod hA' (by rw[hK2t];exact hm)];rfl,rfl⟩
 rename_i hm
 have hm:¬ p.value % (tw (rbits cf.b - p.len).toNat:Int) ≠ 0:=by
  rw[hK2t,<- Int.tmod_eq_emod_of_nonneg (by omega)]
  exact hm
 refine OkM.loopU [3,4,67,68] [69] 0 2 (fun (k:Nat)=>[.i .i64 (k:Nat)]) (fun _ b=>b) (fun _ r=>r) (fun (k:Nat)=>[]) (fun (k:Nat)=>k<=pre.length/\∀ (j:Nat) q,j<k->pre[j]? = some q->¬ (q.value=p.value/\q.len=p.len)) (fun (k:Nat)=>pre.length - k) (0) (⟨Nat.zero_le _,fun j q hj=>absurd hj (by omega)⟩) (by first|exact .refl _|exact .cons _ (.refl _)|exact List.nil_sublist _) ?_;(conv=>whnf);refine⟨by ((conv=>whnf);first|rfl|(simp[envCat, tkL0, SI.row, Node.row, Pfx.row, Link.row, srow, Line.row, Rule.row, Box.row, Slc.row, Config.row];done)|(simp[envCat, tkL0, SI.row, Node.row, Pfx.row, Link.row, srow, Line.row, Rule.row, Box.row, Slc.row, Config.row];rw[IntKind.wrap_i64];omega)),?_⟩
 rintro k ⟨hk,hall⟩
 (conv=>whnf)
 by_cases hkl:k<pre.length
 . obtain⟨q,hq⟩:∃ q,pre[k]? = some q:=⟨_,gEt0 hkl⟩
   have hqI:pre[((k:Nat):Int).toNat]? = some q:=hq
   have next:¬ (q.value=p.value/\q.len=p.len)->∀ (j:Nat) x,j<k+1->pre[j]? = some x->¬ (x.value=p.value/\x.len=p.len):=fun hn j x hj hx=>by
    by_cases hjk:j=k
    . subst hjk;rw[hq] at hx;cases hx;exact hn
    . exact hall j x (by omega) hx
   (try (conv=>whnf));repeat' (first|refine OkM.seq ?_|((first|refine OkM.region tok ?_|refine OkM.cond ?_);conv=>whnf)|refine OkM.block ?_|((first|refine OkM.skip ?_|refine OkM.ret ?_|refine nI ?_|refine ix _ (by assumption) ?_);conv=>whnf)|(refine bI ?_ ?_<;>intro<;>(conv=>whnf)<;>(try (exfalso;omega)))|fail)
   all_goals first
    | (refine Or.inl ?_;(conv=>whnf)
       exact⟨by rw[prefI_dup hA' hm ⟨q,mOf0 hq,by assumption,by assumption⟩];rfl,rfl⟩)
    | (refine⟨k+1,by omega,⟨by omega,next fun h=>?_⟩,.refl _,?_⟩
       . first
           | exact absurd h.1 (by assumption)
           | exact absurd h.2 (by assumption)
       . (conv=>whnf)
         rfl)
 obtain rfl:k=pre.length:=by omega
 have hno:¬ ∃ q ∈ pre,q.value=p.value/\q.len=p.len:=by
  rintro⟨q,hq,h⟩
  obtain⟨j,hj⟩:=List.getElem?_of_mem hq
  exact hall j q (gSm0.1 hj).1 hj h
 (try (conv=>whnf));repeat' (first|(refine Or.inr (Or.inl ?_);(conv=>whnf);(repeat (refine aI ?_;conv=>whnf));refine⟨_,(side_at cf b g l ck hl p.dst False).more (fun x hx=>List.mem_append_left _ hx),?_⟩;rintro _ _ _ ⟨⟨rfl,rfl⟩,rfl⟩<;>(conv=>whnf))|refine OkM.seq ?_|((first|refine OkM.region tok ?_|refine OkM.cond ?_|refine OkM.exit ?_|refine OkM.ret ?_);conv=>whnf)|(refine bI ?_ ?_<;>intro<;>(conv=>whnf)<;>(try (exfalso;omega)))|fail)
 refine Or.inl ?_;(conv=>whnf)
 exact⟨by rw[prefI_ok hA' hm hno,<- sideV_ff];rfl,rfl⟩
end Go.Proofs.YtnlingegeangmaaGreatDoor
namespace Go.Proofs.YtnlingegeangmaaGreatDoor
open Go Go.Vx
section
variable {c : ConfigB} {b : BoxB} {pre : List RuleB} {r : RuleB}
theorem ruleI_range(h:r.prio<0\/65535<r.prio):ruleI c b pre r=76:=if_pos h
theorem ruleI_dup(h:¬ (r.prio<0\/65535<r.prio))(h2:∃ s ∈ pre,s.prio=r.prio):ruleI c b pre r=76:=by unfold ruleI;rw[if_neg h,if_pos h2]
theorem ruleI_from(h:¬ (r.prio<0\/65535<r.prio))(h2:¬ ∃ s ∈ pre,s.prio=r.prio)(h3:sidesI r.frm b.ins b.outs ≠ 0):ruleI c b pre r=sidesI r.frm b.ins b.outs:=by unfold ruleI;rw[if_neg h,if_neg h2,if_pos h3]
theorem ruleI_match(h:¬ (r.prio<0\/65535<r.prio))(h2:¬ ∃ s ∈ pre,s.prio=r.prio)(h3:¬ sidesI r.frm b.ins b.outs ≠ 0)(h4:chkE (fds c.fields) (nds r.mtch) ≠ 0):ruleI c b pre r=77:=by unfold ruleI;rw[if_neg h,if_neg h2,if_neg h3,if_pos h4]
theorem ruleI_sets(h:¬ (r.prio<0\/65535<r.prio))(h2:¬ ∃ s ∈ pre,s.prio=r.prio)(h3:¬ sidesI r.frm b.ins b.outs ≠ 0)(h4:¬ chkE (fds c.fields) (nds r.mtch) ≠ 0)(h5:wordI (fds c.fields) r.sets ≠ 0):ruleI c b pre r=79:=by
 unfold ruleI;rw[if_neg h,if_neg h2,if_neg h3,if_neg h4,if_pos h5]
theorem ruleI_outs(h:¬ (r.prio<0\/65535<r.prio))(h2:¬ ∃ s ∈ pre,s.prio=r.prio)(h3:¬ sidesI r.frm b.ins b.outs ≠ 0)(h4:¬ chkE (fds c.fields) (nds r.mtch) ≠ 0)(h5:¬ wordI (fds c.fields) r.sets ≠ 0)(h6:4<r.dst.length):ruleI c b pre r=71:=by
 unfold ruleI;rw[if_neg h,if_neg h2,if_neg h3,if_neg h4,if_neg h5,if_pos h6]
theorem ruleI_to(h:¬ (r.prio<0\/65535<r.prio))(h2:¬ ∃ s ∈ pre,s.prio=r.prio)(h3:¬ sidesI r.frm b.ins b.outs ≠ 0)(h4:¬ chkE (fds c.fields) (nds r.mtch) ≠ 0)(h5:¬ wordI (fds c.fields) r.sets ≠ 0)(h6:¬ 4<r.dst.length):ruleI c b pre r=sidesI r.dst b.outs b.ins:=by
 unfold ruleI;rw[if_neg h,if_neg h2,if_neg h3,if_neg h4,if_neg h5,if_neg h6]
end
def WordOk:Prop:=∀ (l:List Fd) (r:List (List D)) (S:List SI) (r2:List (List D)),(chkO l).1=0->S.length<=1048576 ->
 FSpec Tryz.prog T 174 [.lst 93 (l.map frow) r,.lst 234 (S.map SI.row) r2] (fun d rows=>(∃ w,d = .tup [.s w,.i .i64 (wordI l S)])/\rows=[])
theorem mrule_at(hW:WordOk)(cf:Config)(hf:cf.fields.l.length<=1048576)(hh:HeadOk cf.b)(b:Box)(g:Nat)(l:List (Str × Int × Nat))(ck:Nat)(hl:PMap l (b.ins.l++b.outs.l))(pre:List Rule)(r:Rule)(hro:r.Ok)(hrt:r.Tx){rl r0:List (List D)}(hr:rl=pre.map Rule.row)(hpl:pre.length<=1048576) :
    FSpecH Tryz.prog T (deskH g l ck) 149 [deskD (.ep cf.row) b g,.agg r.row,.lst 87 rl r0] (fun d rows M=>(d = .i .i64 (ruleI cf.b b.b (pre.map Rule.b) r.b)/\rows=[])/\M=[]):=by
 subst hr
 have hpr:(pre.map Rule.row).length=pre.length:=by simp
 have hto:(r.dst.l.map srow).length=r.dst.l.length:=by simp
 have hro1:=hro.frm
 have hro4:=hro.dst
 have hWs:=hW (fds cf.fields.l) cf.fields.room r.sets.l r.sets.room (by rw[show chkO (fds cf.fields.l)=_ from hh.chk]) hro.sets
 rw[fds_row] at hWs
 have hS1:=msides_at cf b g l ck hl r.frm.l (sl:=r.frm.room) rfl hro1 True
 have hS2:=msides_at cf b g l ck hl r.dst.l (sl:=r.dst.room) rfl hro4 False
 rw[wantL_tt,wantL_n (fun h=>h trivial:¬ ¬ True)] at hS1
 rw[wantL_ff,wantL_y (fun h=>h.elim:¬ False)] at hS2
 refine FSpecH.of_ok0 tok Tryz.func149 rfl Tryz.call149 (by simp) ?_
 by_cases hA:r.prio<0\/65535<r.prio
 . (try (conv=>whnf));repeat' (first|refine OkM.seq ?_|((first|refine OkM.region tok ?_|refine OkM.cond ?_|refine OkM.ret ?_);conv=>whnf)|(refine bI ?_ ?_<;>intro<;>(conv=>whnf)<;>(try (exfalso;omega)))|fail)
   all_goals first
    | (exfalso;omega)
    | (refine Or.inl ?_;(conv=>whnf)
       exact⟨by rw[ruleI_range (r:=r.b) hA];rfl,rfl⟩)
 (try (conv=>whnf));repeat' (first|refine OkM.seq ?_|((first|refine OkM.region tok ?_|refine OkM.cond ?_);conv=>whnf)|refine OkM.block ?_|(refine OkM.skip ?_;conv=>whnf)|(refine bI ?_ ?_<;>intro<;>(conv=>whnf)<;>(try (exfalso;omega)))|fail)
 all_goals first
  | (exfalso;omega)
  | skip
 refine OkM.loopU [3,4,20,21] [22] 0 2 (fun (k:Nat)=>[.i .i64 (k:Nat)]) (fun _ b=>b) (fun _ r=>r) (fun (k:Nat)=>[]) (fun (k:Nat)=>k<=pre.length/\∀ (j:Nat) q,j<k->pre[j]? = some q->q.prio ≠ r.prio) (fun (k:Nat)=>pre.length - k) (0) (⟨Nat.zero_le _,fun j q hj=>absurd hj (by omega)⟩) (by first|exact .refl _|exact .cons _ (.refl _)|exact List.nil_sublist _) ?_;(conv=>whnf);refine⟨by ((conv=>whnf);first|rfl|(simp[envCat, tkL0, SI.row, Node.row, Pfx.row, Link.row, srow, Line.row, Rule.row, Box.row, Slc.row, Config.row];done)|(simp[envCat, tkL0, SI.row, Node.row, Pfx.row, Link.row, srow, Line.row, Rule.row, Box.row, Slc.row, Config.row];rw[IntKind.wrap_i64];omega)),?_⟩
 rintro k ⟨hk,hall⟩
 (conv=>whnf)
 by_cases hkl:k<pre.length
 . obtain⟨q,hq⟩:∃ q,pre[k]? = some q:=⟨_,gEt0 hkl⟩
   have hqI:pre[((k:Nat):Int).toNat]? = some q:=hq
   (try (conv=>whnf));repeat' (first|refine OkM.seq ?_|((first|refine OkM.region tok ?_|refine OkM.cond ?_);conv=>whnf)|refine OkM.block ?_|((first|refine OkM.skip ?_|refine OkM.ret ?_|refine nI ?_|refine ix _ (by assumption) ?_);conv=>whnf)|(refine bI ?_ ?_<;>intro<;>(conv=>whnf)<;>(try (exfalso;omega)))|fail)
   . rename_i he
     refine Or.inl ?_;(conv=>whnf)
     exact⟨by rw[ruleI_dup (r:=r.b) hA ⟨q.b,List.mem_map.2 ⟨q,mOf0 hq,rfl⟩,he⟩];rfl,rfl⟩
   . rename_i he
     refine⟨k+1,by omega,⟨by omega,fun j x hj hx=>?_⟩,.refl _,?_⟩
     . by_cases hjk:j=k
       . subst hjk;rw[hq] at hx;cases hx;exact he
       . exact hall j x (by omega) hx
     . (conv=>whnf)
       rfl
 obtain rfl:k=pre.length:=by omega
 have hno:¬ ∃ s ∈ pre.map Rule.b,s.prio=r.b.prio:=by
  rintro⟨s,hs,h⟩
  obtain⟨q,hq,rfl⟩:=List.mem_map.1 hs
  obtain⟨j,hj⟩:=List.getElem?_of_mem hq
  exact hall j q (gSm0.1 hj).1 hj h
 (try (conv=>whnf));repeat' (first|(refine Or.inr (Or.inl ?_);(conv=>whnf);(repeat (refine aI ?_;conv=>whnf));refine⟨_,hS1.more (fun x hx=>List.mem_append_left _ hx),?_⟩;rintro _ _ _ ⟨⟨rfl,rfl⟩,rfl⟩<;>(conv=>whnf))|(refine Or.inr (Or.inl ?_);(conv=>whnf);(repeat (refine aI ?_;conv=>whnf));refine⟨_,hS2.more (fun x hx=>List.mem_append_left _ hx),?_⟩;rintro _ _ _ ⟨⟨rfl,rfl⟩,rfl⟩<;>(conv=>whnf))|refine OkM.seq ?_|((first|refine OkM.region tok ?_|refine OkM.of_ok (Ok.region_plan (id:=14) tok follows [(1,7,[4,3,2]),(4,7,[]),(6,7,[])] [.q 0,.q 1,.q 2,.q 3,.q 4,.q 5,.q 6,.l 7,.q 8,.q 9,.q 10,.q 11,.q 12] (by kernel_rfl) ?_)|refine OkM.cond ?_|refine OkM.skip ?_|refine OkM.exit ?_|refine OkM.ret ?_);conv=>whnf)|(refine Or.inl ?_;(conv=>whnf);refine Or.inl ?_;(conv=>whnf);(repeat (refine aI ?_;conv=>whnf));refine⟨_,right_at cf hf b g r.mtch.l rfl hro.mtch hrt.mtch,rfl,?_⟩;conv=>whnf)|(refine Or.inr (Or.inl ?_);(conv=>whnf);(repeat (refine aI ?_;conv=>whnf));refine⟨_,hWs , ?_⟩;rintro _ _ ⟨⟨w,rfl⟩,rfl⟩<;>(conv=>whnf))|(refine bI ?_ ?_<;>intro<;>(conv=>whnf)<;>(try (exfalso;omega)))|fail)
 . rename_i h3
   refine Or.inl ?_;(conv=>whnf)
   exact⟨by rw[ruleI_from (r:=r.b) hA hno h3];rfl,rfl⟩
 . rename_i h3 h4
   refine Or.inl ?_;(conv=>whnf)
   exact⟨by rw[ruleI_match (r:=r.b) hA hno h3 h4];rfl,rfl⟩
 . rename_i h3 h4 h5
   have h4:¬ chkE (fds cf.b.fields) (nds r.b.mtch) ≠ 0:=h4
   refine Or.inl ?_;(conv=>whnf)
   exact⟨by rw[ruleI_sets (r:=r.b) hA hno h3 h4 h5];rfl,rfl⟩
 . rename_i h3 h4 h5 h6
   have h4:¬ chkE (fds cf.b.fields) (nds r.b.mtch) ≠ 0:=h4
   refine Or.inl ?_;(conv=>whnf)
   exact⟨by rw[ruleI_outs (r:=r.b) hA hno h3 h4 h5 (by show 4<r.dst.l.length;omega)];rfl,rfl⟩
 . rename_i h3 h4 h5 h6
   have h4:¬ chkE (fds cf.b.fields) (nds r.b.mtch) ≠ 0:=h4
   refine Or.inl ?_;(conv=>whnf)
   exact⟨by rw[ruleI_to (r:=r.b) hA hno h3 h4 h5 (by show ¬ 4<r.dst.l.length;omega)];rfl,rfl⟩
end Go.Proofs.YtnlingegeangmaaGreatDoor
namespace Go.Proofs.YtnlingegeangmaaGreatDoor
open Go Go.Vx
def ItoaOk:Prop:=∀ n:Int,-9223372036854775808<=n->n<=9223372036854775807->FSpec Tryz.prog T 150 [.i .i64 n] (fun d _=>d = .s (Lib.itoa n))
theorem told_bad{e:Int}{t:Str}(h:e ≠ 0):told e t=(e,t):=if_pos h
theorem told_ok{e:Int}{t:Str}(h:e=0):told e t=(0,[]):=if_neg fun g=>g h
theorem guardE_unk{c:ConfigB}{b:BoxB}{pre:List LineB}{g:LineB}(h:g.port ∉ b.ins++b.outs):guardE c b pre g=(73,b.name++[32,103,117,97,114,100,32]++g.port):=if_pos h
theorem guardE_bad{c:ConfigB}{b:BoxB}{pre:List LineB}{g:LineB}(h:g.port ∈ b.ins++b.outs)(h2:chkE (fds c.fields) (nds g.mtch) ≠ 0):guardE c b pre g=(77,b.name++[32,103,117,97,114,100,32]++g.port):=by unfold guardE;rw[if_neg (fun g=>g h),if_pos h2]
theorem guardE_ok{c:ConfigB}{b:BoxB}{pre:List LineB}{g:LineB}(h:g.port ∈ b.ins++b.outs)(h2:¬ chkE (fds c.fields) (nds g.mtch) ≠ 0):guardE c b pre g=(0,[]):=by unfold guardE;rw[if_neg (fun g=>g h),if_neg h2]
theorem told_split{α:Type}{f:List α->α->Er}{l:List α}{k:Nat}{x:α}{e:Int}{t:Str}(hx:l[k]? = some x)(hf:f (l.take k) x=told e t):(e ≠ 0->firstE f (l.take k) (l.drop k)=(e,t))/\(e=0->firstE f (l.take k) (l.drop k)=firstE f (l.take (k+1)) (l.drop (k+1))):=by
 refine⟨fun h=>?_,fun h=>?_⟩
 . rw[firstE_bad hx (by rw[hf,told_bad h];exact h),hf,told_bad h]
 . rw[firstE_ok hx (by rw[hf,told_ok h])]
end Go.Proofs.YtnlingegeangmaaGreatDoor
