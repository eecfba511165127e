/- Own work. -/
import Derived.Test.YtkfaiccnekeklaaGreatEvOaDN
set_option linter.all false
def Qia:=@List.mem_cons
def Qib:=@List.mem_cons_of_mem
def Qic:=@List.mem_cons_self
def Qid:=@Bool.and_eq_true
def Qie:=@Int.le_of_lt
def Qif:=@Int.mul_eq_zero
def Qig:=@Bool.and_true
def Qih:=@Int.mul_nonneg
def Qii:=@List.mem_map
def Qij:=@Nat.gcd_dvd_right
def Qik:=@List.any_eq_true
def Qil:=@Nat.gcd_dvd_left
def Qim:=@Int.natCast_dvd_natCast
def Qin:=@Nat.dvd_trans
def Qio:=@List.all_eq_true
def Qip:=@Bool.and_self
def Qiq:=@Classical.byContradiction
def Qir:=@Int.mul_pos
def Qis:=@List.pairwise_cons
def Qit:=@Int.mul_le_mul_of_nonneg_right
def Qiu:=@Int.dvd_natAbs
def Qiv:=@Int.mul_tdiv_cancel'
def Qiw:=@Nat.lt_irrefl
def Qix:=@Nat.gcd_pos_of_pos_right
def Qiy:=@Int.zero_mul
def Qiz:=@Bool.not_eq_true'
def Qiaa:=@List.not_mem_nil
def Qiab:=@Nat.beq_refl
def Qiac:=@List.mem_append_left
def Qiad:=@Int.nonneg_of_mul_nonneg_right
def Qiae:=@Int.mul_le_mul_of_nonneg_left
def Qiaf:=@Eq.trans
def Qiag:=@Bool.false_eq_true
def Qiah:=@List.getD_eq_getElem?_getD
def Qiai:=@Int.eq_of_mul_eq_mul_left
def Qiaj:=@Nat.zero_add
def Qiak:=@Int.mul_zero
def Qial:=@List.length_set
def Qiam:=@List.drop_zero
def Qian:=@List.mem_range
namespace Go.Ev.Ce
open Go Go.Ev Go.Ev.L Go.Proofs
set_option maxRecDepth 100000
structure ua4 where
 (ga4 ga5 ga6 je5 e7 d9 f7:Int)
noncomputable def Tb4:List (Nat×Sum):=[(35,na1)]
theorem Lb8:k8 prog G Tb4:=⟨qa2,trivial⟩
structure ua5 where
 bs0:Bool
noncomputable def ba8{α:Type}(kk:ua5->α)(x:ua4):α:=let t1:=(y5 (⟨x.e7,x.d9,x.f7⟩:V3) (⟨x.ga4,x.ga5,x.ga6⟩:V3));(kk ⟨t1 != 0⟩)
noncomputable def Ja2(x:ua4):ua5:=ba8 (λr=>r) x
noncomputable def Da3(x:ua4)(r:ua5):DT (b7×List c8):=.ret (b r.bs0,[⟨0,3,[[i x.e7,i x.d9,i x.f7]],true,false,0⟩])
theorem dc2{α β:Type}(F:α->β)(kk:ua5->α)(x:ua4):F (ba8 kk x)=ba8 (λr=>F (kk r)) x:=by unfold ba8;(repeat' apply r9 (f:=F))<;>rfl
noncomputable def kb6:Sum:=fb4 ⟨[.agg (kLq 4),sPq 0],[⟨0,3,true,some [kLq 3]⟩],λa H=>(⟨cIq a 0 0,cIq a 0 1,cIq a 0 2,cIq a 0 3,hIq H 0 0 0,hIq H 0 0 1,hIq H 0 0 2⟩,())⟩ (λx=>Da3 x (Ja2 x))
theorem Tb5:i4 prog G 87 kb6:=aa1 (enc:=λx=>⟨[.agg [i x.ga4,i x.ga5,i x.ga6,i x.je5],.ptr 0 0 0 0],[⟨0,3,[[i x.e7,i x.d9,i x.f7]],true,false,0⟩]⟩) (λa H=>by kernel_rfl) (bd b87 Lb8) λx=>B7 (Qiaf (b:=ba8 (λr=>(Da3 x r).run) x) (by kernel_rfl) (dc2 (λr=>(Da3 x r).run) (λr=>r) x).symm)
structure O3 where
 Z9:List Pln
 (e7 d9 f7:Int)
noncomputable def oa4:List (Nat×Sum):=[(87,kb6)]
theorem Ma4:k8 prog G oa4:=⟨Tb5,trivial⟩
structure C9 where
 Z9:List Pln
 (is7 e7 d9 f7:Int)
structure k9 where
 is8:Int
noncomputable def ja6(p:C9)(s:k9):St:=⟨eL tP p.Z9::.fn 87 [.ptr 0 0 0 0]::ra 5 (i p.is7::i s.is8::ra 10 []),[⟨0,3,[[i p.e7,i p.d9,i p.f7]],true,false,0⟩]⟩
noncomputable def A9{α:Type}(k:k9->α)(e:Nat->α)(z:α)(p:C9)(s:k9):α:=let t1:=(Ja2 ⟨(gL tP p.Z9 s.is8.toNat).n.x,(gL tP p.Z9 s.is8.toNat).n.y,(gL tP p.Z9 s.is8.toNat).n.z,(gL tP p.Z9 s.is8.toNat).b,p.e7,p.d9,p.f7⟩);(sl (decide (s.is8<p.is7)) (sl (inB s.is8 (List.length p.Z9)) (sl t1.bs0 (e 1) (k ⟨W (s.is8+1)⟩)) z) (e 2))
noncomputable def B9(p:C9)(s:k9):Stp k9:=A9 .next .exit .fail p s
noncomputable def X3:Lo C9 k9:=⟨En oa4,1,we8,[1,0,1,4,4],[0,1,7,8],.p,[⟨sLq tP::.fn 87 [.o (.ptr 0 0 0 0)]::ru2 5 (sIq::sIq::ru2 10 []),[⟨0,3,true,some [kLq 3]⟩],λa H=>(⟨aLq tP a 0,aIq a 7,hIq H 0 0 0,hIq H 0 0 1,hIq H 0 0 2⟩,⟨aIq a 8⟩)⟩],B9,[(none,λp s=>⟨[i s.is8],[⟨0,3,[[i p.e7,i p.d9,i p.f7]],true,false,0⟩]⟩),(some 0,λp s=>upq (ja6 p s) [(9,b (decide (s.is8<p.is7)))])],ja6⟩
theorem Ja3:X3.Ok:=Lo.ok [] (by kernel_rfl) .nil rfl (.cons (λa H=>by kernel_rfl) .nil) λp s=>(.of @A9 (λF _ _ _ _ _=>by unfold A9;(repeat' apply r9 (f:=F))<;>rfl) (by kernel_rfl))
structure O4 where
 alt:Nat
 is0:Int
noncomputable def B5{α:Type}(kk:O4->α)(x:O3):α:=let t1:=(lp (B9 (⟨rt tP x.Z9,(↑(List.length x.Z9):Int),x.e7,x.d9,x.f7⟩:C9)) (⟨0⟩:k9));(sl ((cnE tP x.Z9)&&true) (sl (Nat.beq t1.1 1) (kk ⟨1,t1.2.is8⟩) (sl (Nat.beq t1.1 2) (kk ⟨1,-1⟩) (kk ⟨0,0⟩))) (kk ⟨0,0⟩))
noncomputable def O5(x:O3):O4:=B5 (λr=>r) x
noncomputable def Z6(x:O3)(r:O4):DT (b7×List c8):=(.ite (Nat.beq r.alt 1) (.ret (i r.is0,[⟨0,3,[[i x.e7,i x.d9,i x.f7]],true,false,0⟩])) .fail)
theorem Ta9{α β:Type}(F:α->β)(kk:O4->α)(x:O3):F (B5 kk x)=B5 (λr=>F (kk r)) x:=by unfold B5;(repeat' apply r9 (f:=F))<;>rfl
noncomputable def ra4:Sum:=fb4 ⟨[sLq tP,.fn 87 [.o (.ptr 0 0 0 0)]],[⟨0,3,true,some [kLq 3]⟩],λa H=>(⟨aLq tP a 0,hIq H 0 0 0,hIq H 0 0 1,hIq H 0 0 2⟩,())⟩ (λx=>Z6 x (O5 x))
theorem Sa3:i4 prog G 82 ra4:=aa1 (enc:=λx=>⟨[eL tP x.Z9,.fn 87 [.ptr 0 0 0 0]],[⟨0,3,[[i x.e7,i x.d9,i x.f7]],true,false,0⟩]⟩) (λa H=>by kernel_rfl) (bd b82 Ma4) λx=>bb4 (.s .p (.s (.s .p (.b (.u X3.ls))) .p)) [X3.pr] (by kernel_rfl) (.cons Ja3 .nil) (Qiaf (b:=B5 (λr=>(Z6 x r).run) x) (by kernel_rfl) (Ta9 (λr=>(Z6 x r).run) (λr=>r) x).symm)
structure J0 where
 Z9:List Pln
 (e7 d9 f7:Int)
noncomputable def Ha0:List (Nat×Sum):=[(82,ra4)]
theorem Da4:k8 prog G Ha0:=⟨Sa3,trivial⟩
structure J1 where
 alt:Nat
 bs0:Bool
noncomputable def s8{α:Type}(kk:J1->α)(x:J0):α:=let t1:=(O5 ⟨rt tP x.Z9,x.e7,x.d9,x.f7⟩);(sl ((cnE tP x.Z9)&&true) (sl (Nat.beq t1.alt 1) (kk ⟨1,decide (t1.is0>=0)⟩) (kk ⟨0,false⟩)) (kk ⟨0,false⟩))
noncomputable def J2(x:J0):J1:=s8 (λr=>r) x
noncomputable def S3(x:J0)(r:J1):DT (b7×List c8):=(.ite (Nat.beq r.alt 1) (.ret (b r.bs0,[⟨0,3,[[i x.e7,i x.d9,i x.f7]],true,false,0⟩])) .fail)
theorem Ja4{α β:Type}(F:α->β)(kk:J1->α)(x:J0):F (s8 kk x)=s8 (λr=>F (kk r)) x:=by unfold s8;(repeat' apply r9 (f:=F))<;>rfl
noncomputable def ja7:Sum:=fb4 ⟨[sLq tP,.fn 87 [.o (.ptr 0 0 0 0)]],[⟨0,3,true,some [kLq 3]⟩],λa H=>(⟨aLq tP a 0,hIq H 0 0 0,hIq H 0 0 1,hIq H 0 0 2⟩,())⟩ (λx=>S3 x (J2 x))
theorem Ha1:i4 prog G 50 ja7:=aa1 (enc:=λx=>⟨[eL tP x.Z9,.fn 87 [.ptr 0 0 0 0]],[⟨0,3,[[i x.e7,i x.d9,i x.f7]],true,false,0⟩]⟩) (λa H=>by kernel_rfl) (bd b50 Da4) λx=>B7 (Qiaf (b:=s8 (λr=>(S3 x r).run) x) (by kernel_rfl) (Ja4 (λr=>(S3 x r).run) (λr=>r) x).symm)
noncomputable def Sa4:List (Nat×Sum):=[(36,ka8),(50,ja7)]
theorem dc3:k8 prog G Sa4:=⟨na2,Ha1,trivial⟩
structure ja8 where
 (Z9 sb8:List Pln)
 (is9 v7:Int)
 Ae7:Nat
 Cd6:Nat->List b7
 (te7 e7 d9 f7 l6:Int)
structure O0 where
 vc7:Int
noncomputable def db2(p:ja8)(s:O0):St:=⟨eL tP p.Z9::ra 3 (.ptr 0 0 0 0::ra 3 (eL tP p.sb8::i p.is9::i p.v7::ra 6 (.tree 4 p.Ae7 p.Cd6::i p.te7::i s.vc7::ra 18 []))),[⟨0,4,[[i p.e7,i p.d9,i p.f7,i p.l6]],true,false,0⟩]⟩
noncomputable def ca7{α:Type}(k:O0->α)(e:Nat->α)(z:α)(p:ja8)(s:O0):α:=let t1:=(A6 (⟨p.e7,p.d9,p.f7⟩:V3) (⟨toI (hdA (p.Cd6 s.vc7.toNat)),toI (hdA (tlA (p.Cd6 s.vc7.toNat))),toI (hdA (tlA (tlA (p.Cd6 s.vc7.toNat))))⟩:V3));let t2:=(J2 ⟨rt tP p.Z9,t1.x,t1.y,t1.z⟩);(sl (decide (s.vc7<p.te7)) (sl (inB s.vc7 p.Ae7) (sl ((Nat.ble 4 (len (p.Cd6 s.vc7.toNat)))&&(ma1 [CK.int .i64,CK.int .i64,CK.int .i64,CK.int .i64] (p.Cd6 s.vc7.toNat))) (sl (!((t1.x==0)&&((t1.y==0)&&((t1.z==0)&&true)))) (sl ((cnE tP p.Z9)&&true) (sl (Nat.beq t2.alt 1) (sl t2.bs0 (e 1) (k ⟨W (s.vc7+1)⟩)) z) z) (k ⟨W (s.vc7+1)⟩)) z) z) (e 2))
noncomputable def Y1(p:ja8)(s:O0):Stp O0:=ca7 .next .exit .fail p s
noncomputable def Ja5:Lo ja8 O0:=⟨En Sa4,0,ne7,[1,0,1,4,4,1,1,0,4,1,1,4,4],[0,4,8,9,10,17,18,19],.p,[⟨sLq tP::ru2 3 (sPq 0::ru2 3 (sLq tP::sIq::sIq::ru2 6 (sTq 4::sIq::sIq::ru2 18 []))),[⟨0,4,true,some [kLq 4]⟩],λa H=>(⟨aLq tP a 0,aLq tP a 8,aIq a 9,aIq a 10,aNq a 17,aGq a 17,aIq a 18,hIq H 0 0 0,hIq H 0 0 1,hIq H 0 0 2,hIq H 0 0 3⟩,⟨aIq a 19⟩)⟩],Y1,[(none,λp s=>⟨[b true],[]⟩),(some 2,λp s=>upq (db2 p s) [(20,b (decide (s.vc7<p.te7)))])],db2⟩
theorem Tb6:Ja5.Ok:=Lo.ok [] (by kernel_rfl) .nil rfl (.cons (λa H=>by kernel_rfl) .nil) λp s=>(.of @ca7 (λF _ _ _ _ _=>by unfold ca7;(repeat' apply r9 (f:=F))<;>rfl) (by kernel_rfl))
structure ja9 where
 is9:Int
structure O1 where
 (Z9 sb8:List Pln)
 v7:Int
noncomputable def db3(p:ja9)(s:O1):St:=⟨eL tP s.Z9::ra 7 (eL tP s.sb8::i p.is9::i s.v7::ra 27 []),[]⟩
noncomputable def ca8{α:Type}(k:O1->α)(e:Nat->α)(z:α)(p:ja9)(s:O1):α:=let t1:=(lp (Y1 (⟨rt tP s.Z9,rt tP s.sb8,p.is9,s.v7,s.v7.toNat-0,(λk=>(λk=>(tP).row (gL tP s.Z9 k)) (0+k)),(↑(s.v7.toNat-0):Int),(gL tP s.sb8 s.v7.toNat).n.x,(gL tP s.sb8 s.v7.toNat).n.y,(gL tP s.sb8 s.v7.toNat).n.z,(gL tP s.sb8 s.v7.toNat).b⟩:ja8)) (⟨0⟩:O0));(sl (decide (s.v7<p.is9)) (sl (inB s.v7 (List.length s.sb8)) (sl (inB s.v7 ((List.length s.Z9)+1)) (sl ((cnE tP s.Z9)&&((cnE tP s.sb8)&&true)) (sl (Nat.beq t1.1 1) (e 1) (sl (Nat.beq t1.1 2) (k ⟨rt tP s.Z9,rt tP s.sb8,W (s.v7+1)⟩) z)) z) z) z) (e 2))
noncomputable def Y2(p:ja9)(s:O1):Stp O1:=ca8 .next .exit .fail p s
noncomputable def Ja6:Lo ja9 O1:=⟨En Sa4,0,ne7,[1,0,1,4,4],[0,8,9,10],.s .p (.s .p (.s (.b (.s .p (.s .p (.b (.u Ja5.ls))))) .p)),[⟨sLq tP::ru2 7 (sLq tP::sIq::sIq::ru2 27 []),[],λa H=>(⟨aIq a 9⟩,⟨aLq tP a 0,aLq tP a 8,aIq a 10⟩)⟩],Y2,[(none,λp s=>⟨[b true],[]⟩),(some 0,λp s=>upq (db3 p s) [(11,b (decide (s.v7<p.is9)))])],db3⟩
theorem Tb7:Ja6.Ok:=Lo.ok [Ja5.pr] (by kernel_rfl) (.cons Tb6 .nil) rfl (.cons (λa H=>by kernel_rfl) .nil) λp s=>(.of @ca8 (λF _ _ _ _ _=>by unfold ca8;(repeat' apply r9 (f:=F))<;>rfl) (by kernel_rfl))
noncomputable def sa9(x:List Pln):Option (b7×List c8):=let t1:=(lp (Y2 (⟨(↑(List.length x):Int)⟩:ja9)) (⟨rt tP x,rt tP x,0⟩:O1));(sl ((cnE tP x)&&((cnE tP x)&&true)) (sl (Nat.beq t1.1 1) (some (b true,[])) (sl (Nat.beq t1.1 2) (some (b false,[])) none)) none)
noncomputable def la0(x:List Pln):Bool:=U8 (one r1B) (sa9 x)
noncomputable def la1(x:List Pln):Bool:=okO (one r1B) (sa9 x)
noncomputable def zb2:Sum:=K9 (ya3 tP) (λx=>.guard (la1 x) (.ret ((one r1B).enc (la0 x),[])))
theorem qc8:i4 prog G 56 zb2:=Ca3 (bd b56 dc3) (one r1B) (o:=sa9) λx=>bb4 (.s .p (.s (.s .p (.b (.u Ja6.ls))) .p)) [Ja6.pr] (by kernel_rfl) (.cons Tb7 .nil) (by kernel_rfl)
structure qa8 where
 (ga4 ga5 ga6:Int)
 H9:List Pln
noncomputable def Wa5:List (Nat×Sum):=[(30,za3),(56,zb2)]
theorem Eb5:k8 prog G Wa5:=⟨Fa0,qc8,trivial⟩
structure E4 where
 Ka5:List Pln
 is8:Int
 H9:List Pln
 (n9 q8 q9:Int)
structure j9 where
 ph:Nat
 is9:Int
 ns4:Nat
 eh2:List (List b7)
noncomputable def Ha2(p:E4)(s:j9):St:=⟨.unk::.unk::.ptr 1 0 0 0::.unk::.v (.slice none 0 0)::.unk::.unk::eL tP p.Ka5::i p.is8::i s.is9::ra 15 [],[⟨0,1,[[eL tP p.H9]],true,false,0⟩,⟨0,3,[[i p.n9,i p.q8,i p.q9]],true,false,0⟩]⟩
noncomputable def Ha3(p:E4)(s:j9):St:=⟨.unk::.unk::.ptr 1 0 0 0::.unk::.sl 2 0 s.ns4 0::.unk::.unk::eL tP p.Ka5::i p.is8::i s.is9::ra 15 [],[⟨0,1,[[eL tP p.H9]],true,false,0⟩,⟨0,3,[[i p.n9,i p.q8,i p.q9]],true,false,0⟩,⟨60,4,s.eh2,true,false,0⟩]⟩
noncomputable def wb6(p:E4)(s:j9):St:=(sel (Nat.beq s.ph 1) (Ha3 p s) (Ha2 p s))
noncomputable def E5{α:Type}(k:j9->α)(e:Nat->α)(z:α)(p:E4)(s:j9):α:=let t1:=(L4 (gL tP p.Ka5 s.is9.toNat) (⟨p.n9,p.q8,p.q9⟩:V3));(sl (decide (s.is9<p.is8)) (sl (inB s.is9 (List.length p.Ka5)) (sl (W9 (gL tP p.Ka5 s.is9.toNat) (⟨p.n9,p.q8,p.q9⟩:V3)) (sl (t1==0) (k ⟨1,W (s.is9+1),1,[[i (gL tP p.Ka5 s.is9.toNat).n.x,i (gL tP p.Ka5 s.is9.toNat).n.y,i (gL tP p.Ka5 s.is9.toNat).n.z,i (gL tP p.Ka5 s.is9.toNat).b]]⟩) (k ⟨0,W (s.is9+1),0,[]⟩)) z) z) (e 1))
noncomputable def E6{α:Type}(k:j9->α)(e:Nat->α)(z:α)(p:E4)(s:j9):α:=let t1:=(L4 (gL tP p.Ka5 s.is9.toNat) (⟨p.n9,p.q8,p.q9⟩:V3));(sl (decide (s.is9<p.is8)) (sl (inB s.is9 (List.length p.Ka5)) (sl (W9 (gL tP p.Ka5 s.is9.toNat) (⟨p.n9,p.q8,p.q9⟩:V3)) (sl (t1==0) (sl (Nat.beq s.ns4 (len s.eh2)&&Nat.ble ((s.ns4+1)*32) room) (k ⟨1,W (s.is9+1),s.ns4+1,app s.eh2 [[i (gL tP p.Ka5 s.is9.toNat).n.x,i (gL tP p.Ka5 s.is9.toNat).n.y,i (gL tP p.Ka5 s.is9.toNat).n.z,i (gL tP p.Ka5 s.is9.toNat).b]]⟩) z) (k ⟨1,W (s.is9+1),s.ns4,s.eh2⟩)) z) z) (e 2))
noncomputable def ea4(p:E4)(s:j9):Stp j9:=(sel (Nat.beq s.ph 1) (E6 .next .exit .fail p s) (E5 .next .exit .fail p s))
noncomputable def va7:Lo E4 j9:=⟨En Wa5,1,we6,[1,1,0,1,4,4],[2,4,7,8,9],.p,[⟨sUq::sUq::sPq 1::sUq::.s (.o .nil)::sUq::sUq::sLq tP::sIq::sIq::ru2 15 [],[⟨0,1,true,some [[.c 4 (nL tP)]]⟩,⟨0,3,true,some [kLq 3]⟩],λa H=>(⟨aLq tP a 7,aIq a 8,hLq tP H 0 0 0,hIq H 1 0 0,hIq H 1 0 1,hIq H 1 0 2⟩,⟨0,aIq a 9,0,[]⟩)⟩,⟨sUq::sUq::sPq 1::sUq::.s (.o (.sl 2 0 (some 0) none))::sUq::sUq::sLq tP::sIq::sIq::ru2 15 [],[⟨0,1,true,some [[.c 4 (nL tP)]]⟩,⟨0,3,true,some [kLq 3]⟩,⟨60,4,true,none⟩],λa H=>(⟨aLq tP a 7,aIq a 8,hLq tP H 0 0 0,hIq H 1 0 0,hIq H 1 0 1,hIq H 1 0 2⟩,⟨1,aIq a 9,slN (slT a 4),elT H 2⟩)⟩],ea4,[(some 0,λp s=>upq (Ha2 p s) [(10,b (decide (s.is9<p.is8)))]),(some 0,λp s=>upq (Ha3 p s) [(10,b (decide (s.is9<p.is8)))])],wb6⟩
theorem wb7:va7.Ok:=Lo.ok [] (by kernel_rfl) .nil rfl (.cons (λa H=>by kernel_rfl) (.cons (λa H=>by kernel_rfl) .nil)) λp s=>(.sel (Nat.beq s.ph 1) (.of @E6 (λF _ _ _ _ _=>by unfold E6;(repeat' apply r9 (f:=F))<;>rfl) (by kernel_rfl)) (.of @E5 (λF _ _ _ _ _=>by unfold E5;(repeat' apply r9 (f:=F))<;>rfl) (by kernel_rfl)))
structure qa9 where
 alt:Nat
 bs0:Bool
 H9:List Pln
noncomputable def Y3{α:Type}(kk:qa9->α)(x:qa8):α:=let t1:=(lp (ea4 (⟨rt tP x.H9,(↑(List.length x.H9):Int),rt tP x.H9,x.ga4,x.ga5,x.ga6⟩:E4)) (⟨0,0,0,[]⟩:j9));let t2:=(la0 []);let t3:=(la0 (slR tP t1.2.eh2 0 t1.2.ns4));(sl ((cnE tP x.H9)&&((cnE tP x.H9)&&true)) (sl (Nat.beq t1.1 1) (sl (la1 []) (kk ⟨1,!t2,rt tP x.H9⟩) (kk ⟨0,false,[]⟩)) (sl (Nat.beq t1.1 2) (sl (okS tP t1.2.eh2 0 t1.2.ns4) (sl (la1 (slR tP t1.2.eh2 0 t1.2.ns4)) (kk ⟨1,!t3,rt tP x.H9⟩) (kk ⟨0,false,[]⟩)) (kk ⟨0,false,[]⟩)) (kk ⟨0,false,[]⟩))) (kk ⟨0,false,[]⟩))
noncomputable def Q1(x:qa8):qa9:=Y3 (λr=>r) x
noncomputable def Aa1(x:qa8)(r:qa9):DT (b7×List c8):=(.ite (Nat.beq r.alt 1) (.ret (b r.bs0,[⟨0,1,[[eL tP r.H9]],true,false,0⟩])) .fail)
theorem Tb8{α β:Type}(F:α->β)(kk:qa9->α)(x:qa8):F (Y3 kk x)=Y3 (λr=>F (kk r)) x:=by unfold Y3;(repeat' apply r9 (f:=F))<;>rfl
noncomputable def Da5:Sum:=fb4 ⟨[.agg (kLq 3),sPq 0],[⟨0,1,true,some [[.c 4 (nL tP)]]⟩],λa H=>(⟨cIq a 0 0,cIq a 0 1,cIq a 0 2,hLq tP H 0 0 0⟩,())⟩ (λx=>Aa1 x (Q1 x))
theorem Wa6:i4 prog G 55 Da5:=aa1 (enc:=λx=>⟨[.agg [i x.ga4,i x.ga5,i x.ga6],.ptr 0 0 0 0],[⟨0,1,[[eL tP x.H9]],true,false,0⟩]⟩) (λa H=>by kernel_rfl) (bd b55 Eb5) λx=>bb4 (.s .p (.s .p (.s (.s .p (.b (.u va7.ls))) .p))) [va7.pr] (by kernel_rfl) (.cons wb7 .nil) (Qiaf (b:=Y3 (λr=>(Aa1 x r).run) x) (by kernel_rfl) (Tb8 (λr=>(Aa1 x r).run) (λr=>r) x).symm)
structure T7 where
 ns0:Nat
 eh0:List (List b7)
 r8:List Pln
noncomputable def ta0:List (Nat×Sum):=[(55,Da5)]
theorem Ua0:k8 prog G ta0:=⟨Wa6,trivial⟩
structure G8 where
 ns0:Nat
 is7:Int
 eh0:List (List b7)
structure m8 where
 is8:Int
 r8:List Pln
noncomputable def oa5(p:G8)(s:m8):St:=⟨.sl 0 0 p.ns0 0::.fn 55 [.ptr 1 0 0 0]::ra 5 (i p.is7::i s.is8::ra 10 []),[⟨25,3,p.eh0,true,false,0⟩,⟨0,1,[[eL tP s.r8]],true,false,0⟩]⟩
noncomputable def D0{α:Type}(k:m8->α)(e:Nat->α)(z:α)(p:G8)(s:m8):α:=let t1:=(Q1 ⟨(rdR tV p.eh0 (0+s.is8.toNat)).x,(rdR tV p.eh0 (0+s.is8.toNat)).y,(rdR tV p.eh0 (0+s.is8.toNat)).z,rt tP s.r8⟩);(sl (decide (s.is8<p.is7)) (sl (inB s.is8 p.ns0) (sl (ldR tV p.eh0 (0+s.is8.toNat)) (sl ((cnE tP s.r8)&&true) (sl (Nat.beq t1.alt 1) (sl t1.bs0 (e 1) (k ⟨W (s.is8+1),t1.H9⟩)) z) z) z) z) (e 2))
noncomputable def E7(p:G8)(s:m8):Stp m8:=D0 .next .exit .fail p s
noncomputable def aa7:Lo G8 m8:=⟨En ta0,2,Jd7,[1,0,1,4,4],[0,1,7,8],.p,[⟨.s (.o (.sl 0 0 (some 0) none))::.fn 55 [.o (.ptr 1 0 0 0)]::ru2 5 (sIq::sIq::ru2 10 []),[⟨25,3,true,none⟩,⟨0,1,true,some [[.c 4 (nL tP)]]⟩],λa H=>(⟨slN (slT a 0),aIq a 7,elT H 0⟩,⟨aIq a 8,hLq tP H 1 0 0⟩)⟩],E7,[(none,λp s=>let t1:=(Q1 ⟨(rdR tV p.eh0 (0+s.is8.toNat)).x,(rdR tV p.eh0 (0+s.is8.toNat)).y,(rdR tV p.eh0 (0+s.is8.toNat)).z,rt tP s.r8⟩);⟨[i s.is8],[⟨25,3,p.eh0,true,false,0⟩,⟨0,1,[[eL tP t1.H9]],true,false,0⟩]⟩),(some 0,λp s=>upq (oa5 p s) [(9,b (decide (s.is8<p.is7)))])],oa5⟩
theorem Sa5:aa7.Ok:=Lo.ok [] (by kernel_rfl) .nil rfl (.cons (λa H=>by kernel_rfl) .nil) λp s=>(.of @D0 (λF _ _ _ _ _=>by unfold D0;(repeat' apply r9 (f:=F))<;>rfl) (by kernel_rfl))
structure T8 where
 alt:Nat
 is0:Int
 r8:List Pln
noncomputable def D7{α:Type}(kk:T8->α)(x:T7):α:=let t1:=(lp (E7 (⟨x.ns0,(↑x.ns0:Int),x.eh0⟩:G8)) (⟨0,rt tP x.r8⟩:m8));let t2:=(Q1 ⟨(rdR tV x.eh0 (0+t1.2.is8.toNat)).x,(rdR tV x.eh0 (0+t1.2.is8.toNat)).y,(rdR tV x.eh0 (0+t1.2.is8.toNat)).z,rt tP t1.2.r8⟩);(sl ((cnE tP x.r8)&&true) (sl (Nat.beq t1.1 1) (kk ⟨1,t1.2.is8,t2.H9⟩) (sl (Nat.beq t1.1 2) (kk ⟨1,-1,t1.2.r8⟩) (kk ⟨0,0,[]⟩))) (kk ⟨0,0,[]⟩))
noncomputable def T9(x:T7):T8:=D7 (λr=>r) x
noncomputable def da9(x:T7)(r:T8):DT (b7×List c8):=(.ite (Nat.beq r.alt 1) (.ret (i r.is0,[⟨25,3,x.eh0,true,false,0⟩,⟨0,1,[[eL tP r.r8]],true,false,0⟩])) .fail)
theorem db4{α β:Type}(F:α->β)(kk:T8->α)(x:T7):F (D7 kk x)=D7 (λr=>F (kk r)) x:=by unfold D7;(repeat' apply r9 (f:=F))<;>rfl
noncomputable def wa8:Sum:=fb4 ⟨[.s (.o (.sl 0 0 (some 0) none)),.fn 55 [.o (.ptr 1 0 0 0)]],[⟨25,3,true,none⟩,⟨0,1,true,some [[.c 4 (nL tP)]]⟩],λa H=>(⟨slN (slT a 0),elT H 0,hLq tP H 1 0 0⟩,())⟩ (λx=>da9 x (T9 x))
theorem Za4:i4 prog G 88 wa8:=aa1 (enc:=λx=>⟨[.sl 0 0 x.ns0 0,.fn 55 [.ptr 1 0 0 0]],[⟨25,3,x.eh0,true,false,0⟩,⟨0,1,[[eL tP x.r8]],true,false,0⟩]⟩) (λa H=>by kernel_rfl) (bd b88 Ua0) λx=>bb4 (.s .p (.s (.s .p (.b (.u aa7.ls))) .p)) [aa7.pr] (by kernel_rfl) (.cons Sa5 .nil) (Qiaf (b:=D7 (λr=>(da9 x r).run) x) (by kernel_rfl) (db4 (λr=>(da9 x r).run) (λr=>r) x).symm)
structure U0 where
 ns0:Nat
 eh0:List (List b7)
 r8:List Pln
noncomputable def ta1:List (Nat×Sum):=[(88,wa8),(55,Da5)]
theorem Ua1:k8 prog G ta1:=⟨Za4,Wa6,trivial⟩
structure G9 where
 ns0:Nat
structure p7 where
 (is5 is6:Int)
 eh0:List (List b7)
 r8:List Pln
noncomputable def oa6(p:G9)(s:p7):St:=⟨.sl 0 0 p.ns0 0::.fn 55 [.ptr 1 0 0 0]::ra 3 (i s.is5::i s.is6::ra 35 []),[⟨25,3,s.eh0,true,false,0⟩,⟨0,1,[[eL tP s.r8]],true,false,0⟩]⟩
noncomputable def D1{α:Type}(k:p7->α)(e:Nat->α)(z:α)(p:G9)(s:p7):α:=let t1:=(Q1 ⟨(rdR tV s.eh0 (0+s.is6.toNat)).x,(rdR tV s.eh0 (0+s.is6.toNat)).y,(rdR tV s.eh0 (0+s.is6.toNat)).z,rt tP s.r8⟩);(sl (decide (s.is6<(↑p.ns0:Int))) (sl (inB s.is6 p.ns0) (sl (ldR tV s.eh0 (0+s.is6.toNat)) (sl ((cnE tP s.r8)&&true) (sl (Nat.beq t1.alt 1) (sl (!t1.bs0) (sl (inB s.is5 p.ns0) (sl ((Nat.blt (0+s.is5.toNat) (len s.eh0))&&(Nat.ble (0+3) (len (i7 s.eh0 (0+s.is5.toNat))))) (k ⟨W (s.is5+1),W (s.is6+1),setAt s.eh0 (0+s.is5.toNat) (O2 (i7 s.eh0 (0+s.is5.toNat)) 0 [i (rdR tV s.eh0 (0+s.is6.toNat)).x,i (rdR tV s.eh0 (0+s.is6.toNat)).y,i (rdR tV s.eh0 (0+s.is6.toNat)).z]),t1.H9⟩) z) z) (k ⟨s.is5,W (s.is6+1),s.eh0,t1.H9⟩)) z) z) z) z) (e 1))
noncomputable def A0(p:G9)(s:p7):Stp p7:=D1 .next .exit .fail p s
noncomputable def aa8:Lo G9 p7:=⟨En ta1,2,we7,[1,1,1,0,1,4,4],[0,1,5,6],.p,[⟨.s (.o (.sl 0 0 (some 0) none))::.fn 55 [.o (.ptr 1 0 0 0)]::ru2 3 (sIq::sIq::ru2 35 []),[⟨25,3,true,none⟩,⟨0,1,true,some [[.c 4 (nL tP)]]⟩],λa H=>(⟨slN (slT a 0)⟩,⟨aIq a 5,aIq a 6,elT H 0,hLq tP H 1 0 0⟩)⟩],A0,[(some 0,λp s=>upq (oa6 p s) [(16,i s.is6),(17,.sl 0 0 p.ns0 0),(18,i (↑p.ns0:Int)),(19,b (decide (s.is6<(↑p.ns0:Int))))])],oa6⟩
theorem Sa6:aa8.Ok:=Lo.ok [] (by kernel_rfl) .nil rfl (.cons (λa H=>by kernel_rfl) .nil) λp s=>(.of @D1 (λF _ _ _ _ _=>by unfold D1;(repeat' apply r9 (f:=F))<;>rfl) (by kernel_rfl))
structure U1 where
 (alt ns0:Nat)
 eh0:List (List b7)
 r8:List Pln
noncomputable def D8{α:Type}(kk:U1->α)(x:U0):α:=let t1:=(T9 ⟨x.ns0,x.eh0,rt tP x.r8⟩);let t2:=(lp (A0 (⟨x.ns0⟩:G9)) (⟨t1.is0,W (t1.is0+1),x.eh0,rt tP t1.r8⟩:p7));(sl ((cnE tP x.r8)&&true) (sl (Nat.beq t1.alt 1) (sl (t1.is0==(-1)) (kk ⟨1,x.ns0,x.eh0,t1.r8⟩) (sl ((cnE tP t1.r8)&&true) (sl (Nat.beq t2.1 1) (sl (inB t2.2.is5 (x.ns0+1)) (sl (inB t2.2.is5 (x.ns0+1)) (kk ⟨1,t2.2.is5.toNat-0,app (F5 t2.2.eh0 (0+t2.2.is5.toNat)) (app (List.replicate (x.ns0-t2.2.is5.toNat) [i 0,i 0,i 0]) (i5 t2.2.eh0 ((0+t2.2.is5.toNat)+(x.ns0-t2.2.is5.toNat)))),t2.2.r8⟩) (kk ⟨0,0,[],[]⟩)) (kk ⟨0,0,[],[]⟩)) (kk ⟨0,0,[],[]⟩)) (kk ⟨0,0,[],[]⟩))) (kk ⟨0,0,[],[]⟩)) (kk ⟨0,0,[],[]⟩))
noncomputable def U2(x:U0):U1:=D8 (λr=>r) x
noncomputable def ea0(x:U0)(r:U1):DT (b7×List c8):=(.ite (Nat.beq r.alt 1) (.ret (.sl 0 0 r.ns0 0,[⟨25,3,r.eh0,true,false,0⟩,⟨0,1,[[eL tP r.r8]],true,false,0⟩])) .fail)
theorem db5{α β:Type}(F:α->β)(kk:U1->α)(x:U0):F (D8 kk x)=D8 (λr=>F (kk r)) x:=by unfold D8;(repeat' apply r9 (f:=F))<;>rfl
noncomputable def wa9:Sum:=fb4 ⟨[.s (.o (.sl 0 0 (some 0) none)),.fn 55 [.o (.ptr 1 0 0 0)]],[⟨25,3,true,none⟩,⟨0,1,true,some [[.c 4 (nL tP)]]⟩],λa H=>(⟨slN (slT a 0),elT H 0,hLq tP H 1 0 0⟩,())⟩ (λx=>ea0 x (U2 x))
theorem Za5:i4 prog G 57 wa9:=aa1 (enc:=λx=>⟨[.sl 0 0 x.ns0 0,.fn 55 [.ptr 1 0 0 0]],[⟨25,3,x.eh0,true,false,0⟩,⟨0,1,[[eL tP x.r8]],true,false,0⟩]⟩) (λa H=>by kernel_rfl) (bd b57 Ua1) λx=>bb4 (.s .p (.s .p (.s .p (.s (.s .p (.b (.u aa8.ls))) .p)))) [aa8.pr] (by kernel_rfl) (.cons Sa6 .nil) (Qiaf (b:=D8 (λr=>(ea0 x r).run) x) (by kernel_rfl) (db5 (λr=>(ea0 x r).run) (λr=>r) x).symm)
noncomputable def Lb9:List (Nat×Sum):=[(72,va6),(73,la6),(75,oa3)]
theorem Eb6:k8 prog G Lb9:=⟨Ka3,Aa0,Ba6,trivial⟩
structure ra0 where
 (alt ns0:Nat)
 eh0:List (List b7)
noncomputable def Y4{α:Type}(kk:ra0->α)(x:V3×List V3):α:=let t1:=(Z5 (hC tV (λk=>(tV).row (gL tV (x.1::x.2) k)),tC tV (List.length x.2) (λk=>(tV).row (gL tV (x.1::x.2) k))));let t2:=(K2 ⟨t1.ns0,app (bL tV (kb4 (slR tV t1.eh0 0 t1.ns0))) (i5 t1.eh0 t1.ns0)⟩);(sl (okL tV (List.length x.2+1) (λk=>(tV).row (gL tV (x.1::x.2) k))) (sl (Nat.beq t1.alt 1) (sl (Bool.and (Nat.ble t1.ns0 room) (Bool.and (Nat.ble t1.ns0 (len t1.eh0)) (okS tV t1.eh0 0 t1.ns0))) (sl (Nat.beq t2.alt 1) (kk ⟨1,t2.ns0,t2.eh0⟩) (kk ⟨0,0,[]⟩)) (kk ⟨0,0,[]⟩)) (kk ⟨0,0,[]⟩)) (kk ⟨0,0,[]⟩))
noncomputable def ra1(x:V3×List V3):ra0:=Y4 (λr=>r) x
noncomputable def Aa2(r:ra0):DT (b7×List c8):=(.ite (Nat.beq r.alt 1) (.ret (.sl 0 0 r.ns0 0,[⟨25,3,r.eh0,true,false,0⟩])) .fail)
theorem Tb9{α β:Type}(F:α->β)(kk:ra0->α)(x:V3×List V3):F (Y4 kk x)=Y4 (λr=>F (kk r)) x:=by unfold Y4;(repeat' apply r9 (f:=F))<;>rfl
noncomputable def ga0:Sum:=K9 (Uc1 tV) (λx=>Aa2 (ra1 x))
theorem ma3:i4 prog G 45 ga0:=ub2 (bd b45 Eb6) λx=>B7 (Qiaf (b:=Y4 (λr=>(Aa2 r).run) x) (by kernel_rfl) (Tb9 (λr=>(Aa2 r).run) (λr=>r) x).symm)
noncomputable def dc4:List (Nat×Sum):=[(22,Lb7),(45,ga0),(57,wa9)]
theorem Ub0:k8 prog G dc4:=⟨zb1,ma3,Za5,trivial⟩
noncomputable def oa7(x:V3×List V3):Option (b7×List c8):=let t1:=(Ma2 (hC tV (λk=>(tV).row (gL tV (x.1::x.2) k)),tC tV (List.length x.2) (λk=>(tV).row (gL tV (x.1::x.2) k))));let t2:=(ra1 (hC tV (λk=>(tV).row (gL tV (x.1::x.2) k)),tC tV (List.length x.2) (λk=>(tV).row (gL tV (x.1::x.2) k))));let t3:=(U2 ⟨t2.ns0,t2.eh0,rt tP t1.1⟩);(sl (okL tV (List.length x.2+1) (λk=>(tV).row (gL tV (x.1::x.2) k))) (sl (Ma3 (hC tV (λk=>(tV).row (gL tV (x.1::x.2) k)),tC tV (List.length x.2) (λk=>(tV).row (gL tV (x.1::x.2) k)))) (sl (t1.2 != 0) (some (.tup [.v (.slice none 0 0),i t1.2],[])) (sl (okL tV (List.length x.2+1) (λk=>(tV).row (gL tV (x.1::x.2) k))) (sl (Nat.beq t2.alt 1) (sl ((cnE tP t1.1)&&true) (sl (Nat.beq t3.alt 1) (some (.tup [.sl 0 0 t3.ns0 0,i 0],[⟨25,3,t3.eh0,true,false,0⟩])) none) none) none) none)) none) none)
noncomputable def qb6(x:V3×List V3):List V3×Int:=U8 (two (r1L tV) r1I) (oa7 x)
noncomputable def qb7(x:V3×List V3):Bool:=okO (two (r1L tV) r1I) (oa7 x)
noncomputable def qc9:Sum:=K9 (Uc1 tV) (λx=>.guard (qb7 x) (.ret ((two (r1L tV) r1I).enc (qb6 x),[])))
theorem dc5:i4 prog G 32 qc9:=Ca3 (bd b32 Ub0) (two (r1L tV) r1I) (o:=oa7) λx=>B7 (by kernel_rfl)
end Go.Ev.Ce
namespace Go.Ev.L
open Go Go.Ev
noncomputable def oe8:Cod Unit where
 enc _:=.v (.slice none 0 0)
 dec x:=match x with
  |.v (.slice none 0 0)=>some ()
  |_=>none
 grd _:=true
 ok x a hx _:=by
  split at hx
  ·exact .refl _
  ·cases hx
noncomputable def cE0:Cod (Addr×Nat) where
 enc z:=.v (.slice (some z.1) 0 z.2)
 dec x:=match x with
  |.v (.slice (some a) 0 c)=>some (a,c)
  |_=>none
 grd _:=true
 ok x a hx _:=by
  split at hx
  ·cases hx;exact .refl _
  ·cases hx
section
variable{α:Type}{t:Ty α}{P:Program}{G:Nat->List Value}{f:FuncId}
theorem vb0{β:Type}{c:Cod β}{k k':β->DT (b7×List c8)}(h:i4 P G f (K9 c k))(hk:∀a r,(k' a).run=some r->(k a).run=some r):i4 P G f (K9 c k'):=h.le λargs blks r hr=>by
 unfold K9 at hr ⊢
 split at hr
 ·obtain⟨a,h1,hr⟩:=G4 hr;obtain⟨g,hr⟩:=DT.run_guard_some hr;simp only[h1,onO,g];exact hk a r hr
 ·cases hr
theorem Kd3{k:List α->DT (b7×List c8)}(hA:i4 P G f (K9 (Uc1 t) λz=>k (z.1::z.2)))(hN:i4 P G f (K9 oe8 λ_=>k []))(hE:i4 P G f (K9 cE0 λ_=>k [])):i4 P G f (K9 (ya3 t) k):=by
 intro args blks r out he W ρ F w args' hH hlen hargs hG;unfold K9 at he
 split at he
 ·rename_i x;obtain⟨a,h1,he⟩:=G4 he;obtain⟨g1,hk⟩:=DT.run_guard_some he;have nilCase:∀v',args'[0]?=some v'->v'=.slice none 0 0->a=[]->Oa7 P f/\Calls P f args'.toArray w λe w'=>∃r',e=.returned r'/\G3 W ρ [] F w r out r' w':=λv' hv e ha=>by
   subst ha;refine hN [.v (.slice none 0 0)] [] r out ?_ W ρ F w args' hH hlen (λi x' y' hx hy=>?_) hG
   ·exact hk
   ·match i with
    |0=>cases hx;rw[hv] at hy;cases hy;rw[e];exact .val (.cell (.v _))
    |i+1=>cases hx
  have emptyCase:∀v' ad c,args'[0]?=some v'->v'=.slice (some ad) 0 c->a=[]->Oa7 P f/\Calls P f args'.toArray w λe w'=>∃r',e=.returned r'/\G3 W ρ [] F w r out r' w':=λv' ad c hv e ha=>by
   subst ha;refine hE [.v (.slice (some ad) 0 c)] [] r out ?_ W ρ F w args' hH hlen (λi x' y' hx hy=>?_) hG
   ·exact hk
   ·match i with
    |0=>cases hx;rw[hv] at hy;cases hy;rw[e];exact .val (.cell (.v _))
    |i+1=>cases hx
  obtain⟨v',hv⟩:∃v',args'[0]?=some v':=by
   cases args' with
   |nil=>simp at hlen
   |cons v' r'=>exact⟨v',rfl⟩
  cases x with
  |tree e n get =>
   have hb:Nat.beq e t.es=true/\a=lsL t n get:=by
    have h1:(Bool.rec none (some (lsL t n get)) (Nat.beq e t.es):Option (List α))=some a:=h1;cases hb:Nat.beq e t.es with
    |false=>rw[hb] at h1;cases h1
    |true =>
     rw[hb] at h1;have h1:some (lsL t n get)=some a:=h1;injection h1 with h1;exact⟨rfl,h1.symm⟩
   cases n with
   |zero =>
    have ha:a=[]:=hb.2;have hm:=ia6 (hargs 0 _ v' rfl hv);cases hm with
    |tree _ _ _ ad cap cs hs hcap hes hF hw hr=>exact emptyCase _ ad cap hv rfl ha
    |nil=>exact nilCase _ hv rfl ha
   |succ m =>
    have ha:a=hC t get::tC t m get:=hb.2.trans (Uc0 t m get);subst ha;refine hA [.tree e (m+1) get] [] r out ?_ W ρ F w args' hH hlen hargs hG;have hc:(Uc1 t).dec (.tree e (m+1) get)=some (hC t get,tC t m get):=by
     show (Bool.rec none (some (hC t get,tC t m get)) (Nat.beq e t.es):Option (α×List α))=_;rw[hb.1]
    have hg:(Uc1 t).grd (.tree e (m+1) get)=true:=g1;simp only[K9,hc,onO,hg];exact hk
  |v q =>
   have hq:=V5 (hargs 0 _ v' rfl hv);unfold ya3 at h1
   simp only at h1
   split at h1
   ·rename_i heq;cases heq
   ·rename_i heq;injection heq with heq;injection h1 with h1;exact nilCase v' hv (hq.trans heq) h1.symm
   ·rename_i ad c heq;injection heq with heq;injection h1 with h1;exact emptyCase v' _ _ hv (hq.trans heq) h1.symm
   ·cases h1
  |_=>cases h1
 ·cases he
end
end Go.Ev.L
namespace Go.Ev.Ce
open Go Go.Ev Go.Ev.L Go.Proofs
set_option maxRecDepth 100000
noncomputable def rc0:List (Nat×Sum):=[(44,La9),(45,ga0),(46,fa8)]
theorem dc6:k8 prog G rc0:=⟨Za2,ma3,ja1,trivial⟩
noncomputable def Za6(x:Unit):Option (b7×List c8):=let t1:=(qa6 []);(sl (qa7 []) (sl (t1 != 0) (some (.tup [.v (.slice none 0 0),i t1],[])) none) none)
noncomputable def zb3(x:Unit):List Pln×Int:=U8 (two (r1L tP) r1I) (Za6 x)
noncomputable def zb4(x:Unit):Bool:=okO (two (r1L tP) r1I) (Za6 x)
noncomputable def zb5:Sum:=K9 oe8 (λx=>.guard (zb4 x) (.ret ((two (r1L tP) r1I).enc (zb3 x),[])))
theorem qb8:i4 prog G 22 zb5:=Ca3 (bd b22 dc6) (two (r1L tP) r1I) (o:=Za6) λx=>Dc9 .p [] (by kernel_rfl) .nil (by kernel_rfl)
noncomputable def Ub1:List (Nat×Sum):=[(22,zb5),(45,ga0)]
theorem Mb0:k8 prog G Ub1:=⟨qb8,ma3,trivial⟩
noncomputable def Ja7(x:Unit):Option (b7×List c8):=let t1:=(zb3 ());(sl (zb4 ()) (sl (t1.2 != 0) (some (.tup [.v (.slice none 0 0),i t1.2],[])) none) none)
noncomputable def dc7(x:Unit):List V3×Int:=U8 (two (r1L tV) r1I) (Ja7 x)
noncomputable def dc8(x:Unit):Bool:=okO (two (r1L tV) r1I) (Ja7 x)
noncomputable def dc9:Sum:=K9 oe8 (λx=>.guard (dc8 x) (.ret ((two (r1L tV) r1I).enc (dc7 x),[])))
theorem Ub2:i4 prog G 32 dc9:=Ca3 (bd b32 Mb0) (two (r1L tV) r1I) (o:=Ja7) λx=>B7 (by kernel_rfl)
noncomputable def rc1:List (Nat×Sum):=[(46,fa8)]
theorem ec0:k8 prog G rc1:=⟨ja1,trivial⟩
noncomputable def Za7(x:Addr×Nat):Option (b7×List c8):=none
noncomputable def zb6(x:Addr×Nat):List Pln×Int:=U8 (two (r1L tP) r1I) (Za7 x)
noncomputable def zb7(x:Addr×Nat):Bool:=okO (two (r1L tP) r1I) (Za7 x)
noncomputable def zb8:Sum:=K9 cE0 (λx=>.guard (zb7 x) (.ret ((two (r1L tP) r1I).enc (zb6 x),[])))
theorem qb9:i4 prog G 22 zb8:=Ca3 (bd b22 ec0) (two (r1L tP) r1I) (o:=Za7) λx=>Dc9 .p [] (by kernel_rfl) .nil (by kernel_rfl)
noncomputable def Ub3:List (Nat×Sum):=[(22,zb8),(45,ga0)]
theorem Mb1:k8 prog G Ub3:=⟨qb9,ma3,trivial⟩
noncomputable def Ja8(x:Addr×Nat):Option (b7×List c8):=let t1:=(zb6 x);(sl (zb7 x) (sl (t1.2 != 0) (some (.tup [.v (.slice none 0 0),i t1.2],[])) none) none)
noncomputable def ec1(x:Addr×Nat):List V3×Int:=U8 (two (r1L tV) r1I) (Ja8 x)
noncomputable def ec2(x:Addr×Nat):Bool:=okO (two (r1L tV) r1I) (Ja8 x)
noncomputable def ec3:Sum:=K9 cE0 (λx=>.guard (ec2 x) (.ret ((two (r1L tV) r1I).enc (ec1 x),[])))
theorem Ub4:i4 prog G 32 ec3:=Ca3 (bd b32 Mb1) (two (r1L tV) r1I) (o:=Ja8) λx=>B7 (by kernel_rfl)
noncomputable def rc2:List (Nat×Sum):=[(44,La9),(46,fa8)]
theorem ec4:k8 prog G rc2:=⟨Za2,ja1,trivial⟩
noncomputable def ta2(x:List V3):Option (b7×List c8):=let t1:=(qa6 (rt tV x));(sl (okE tV x) (sl (qa7 (rt tV x)) (sl (t1 != 0) (some (.tup [.v (.slice none 0 0),i t1],[])) none) none) none)
noncomputable def Fa5(x:List V3):List Pln×Int:=U8 (two (r1L tP) r1I) (ta2 x)
noncomputable def Fa6(x:List V3):Bool:=okO (two (r1L tP) r1I) (ta2 x)
noncomputable def zb9:Sum:=K9 (ya3 tV) (λx=>.guard (Fa6 x) (.ret ((two (r1L tP) r1I).enc (Fa5 x),[])))
theorem rb0:i4 prog G 22 zb9:=Ca3 (bd b22 ec4) (two (r1L tP) r1I) (o:=ta2) λx=>Dc9 .p [] (by kernel_rfl) .nil (by kernel_rfl)
noncomputable def Ub5:List (Nat×Sum):=[(22,zb9)]
theorem Mb2:k8 prog G Ub5:=⟨rb0,trivial⟩
noncomputable def ka0(x:List V3):Option (b7×List c8):=let t1:=(Fa5 (rt tV x));(sl (okE tV x) (sl (Fa6 (rt tV x)) (sl (t1.2 != 0) (some (.tup [.v (.slice none 0 0),i t1.2],[])) none) none) none)
noncomputable def Ja9(x:List V3):List V3×Int:=U8 (two (r1L tV) r1I) (ka0 x)
noncomputable def Ka0(x:List V3):Bool:=okO (two (r1L tV) r1I) (ka0 x)
noncomputable def ec5:Sum:=K9 (ya3 tV) (λx=>.guard (Ka0 x) (.ret ((two (r1L tV) r1I).enc (Ja9 x),[])))
theorem Ub6:i4 prog G 32 ec5:=Ca3 (bd b32 Mb2) (two (r1L tV) r1I) (o:=ka0) λx=>B7 (by kernel_rfl)
noncomputable def rm(p:Pln)(x:Pt):Int:=W (p.b*x.pw-(p.n.x*x.px+p.n.y*x.py+p.n.z*x.pz))
structure Bd(p:Pln):Prop where
 x1:-4608<=p.n.x
 x2:p.n.x<=4608
 y1:-4608<=p.n.y
 y2:p.n.y<=4608
 z1:-4608<=p.n.z
 z2:p.n.z<=4608
 b1:-2097152<=p.b
 b2:p.b<=2097152
def mv(p q r:Pln):V3 :=
 ⟨(c7 q.n r.n).x*p.b+(c7 r.n p.n).x*q.b+(c7 p.n q.n).x*r.b,
  (c7 q.n r.n).y*p.b+(c7 r.n p.n).y*q.b+(c7 p.n q.n).y*r.b,
  (c7 q.n r.n).z*p.b+(c7 r.n p.n).z*q.b+(c7 p.n q.n).z*r.b⟩
def gc(v:V3)(w:Int):Int:=(Nat.gcd (Nat.gcd v.x.natAbs v.y.natAbs) (Nat.gcd v.z.natAbs w.natAbs):Nat)
def mpt(p q r:Pln):Pt×Bool :=
 if mw p q r=0 then (⟨0,0,0,0⟩,false)
 else if mw p q r<0 then (⟨Int.tdiv (-(mv p q r).x) (gc (mv p q r) (mw p q r)),Int.tdiv (-(mv p q r).y) (gc (mv p q r) (mw p q r)),Int.tdiv (-(mv p q r).z) (gc (mv p q r) (mw p q r)),Int.tdiv (-(mw p q r)) (gc (mv p q r) (mw p q r))⟩,true)
 else (⟨Int.tdiv (mv p q r).x (gc (mv p q r) (mw p q r)),Int.tdiv (mv p q r).y (gc (mv p q r) (mw p q r)),Int.tdiv (mv p q r).z (gc (mv p q r) (mw p q r)),Int.tdiv (mw p q r) (gc (mv p q r) (mw p q r))⟩,true)
def Sm(n:Int)(x:Int):Prop:=-n<=x/\x<=n
theorem rb1{a b:V3}(ha:Sm 4608 a.x/\Sm 4608 a.y/\Sm 4608 a.z)(hb:Sm 4608 b.x/\Sm 4608 b.y/\Sm 4608 b.z):Sm 42467328 (c7 a b).x/\Sm 42467328 (c7 a b).y/\Sm 42467328 (c7 a b).z:=by
 obtain⟨⟨a1,a2⟩,⟨a3,a4⟩,a5,a6⟩:=ha;obtain⟨⟨b1,b2⟩,⟨b3,b4⟩,b5,b6⟩:=hb;have h1:=mb a3 a4 b5 b6;have h2:=mb a5 a6 b3 b4;have h3:=mb a5 a6 b1 b2;have h4:=mb a1 a2 b5 b6;have h5:=mb a1 a2 b3 b4;have h6:=mb a3 a4 b1 b2;unfold Sm c7
 simp only
 omega
theorem Bd.n{p:Pln}(h:Bd p):Sm 4608 p.n.x/\Sm 4608 p.n.y/\Sm 4608 p.n.z:=⟨⟨h.x1,h.x2⟩,⟨h.y1,h.y2⟩,h.z1,h.z2⟩
theorem ye0{p q r:Pln}(hp:Bd p)(hq:Bd q)(hr:Bd r):Sm 600000000000 (mw p q r):=by
 obtain⟨⟨c1,c2⟩,⟨c3,c4⟩,c5,c6⟩:=rb1 hq.n hr.n;have h1:=mb hp.x1 hp.x2 c1 c2;have h2:=mb hp.y1 hp.y2 c3 c4;have h3:=mb hp.z1 hp.z2 c5 c6;unfold Sm mw dot;omega
theorem ye1{p q r:Pln}(hp:Bd p)(hq:Bd q)(hr:Bd r):Sm 300000000000000 (mv p q r).x/\Sm 300000000000000 (mv p q r).y/\Sm 300000000000000 (mv p q r).z:=by
 obtain⟨⟨c1,c2⟩,⟨c3,c4⟩,c5,c6⟩:=rb1 hq.n hr.n;obtain⟨⟨d1,d2⟩,⟨d3,d4⟩,d5,d6⟩:=rb1 hr.n hp.n;obtain⟨⟨e1,e2⟩,⟨e3,e4⟩,e5,e6⟩:=rb1 hp.n hq.n;have a1:=mb c1 c2 hp.b1 hp.b2;have a2:=mb c3 c4 hp.b1 hp.b2;have a3:=mb c5 c6 hp.b1 hp.b2;have b1:=mb d1 d2 hq.b1 hq.b2;have b2:=mb d3 d4 hq.b1 hq.b2;have b3:=mb d5 d6 hq.b1 hq.b2;have f1:=mb e1 e2 hr.b1 hr.b2;have f2:=mb e3 e4 hr.b1 hr.b2;have f3:=mb e5 e6 hr.b1 hr.b2;unfold Sm mv
 simp only
 omega
theorem Zd7(a b:V3):A6 a b=⟨W (c7 a b).x,W (c7 a b).y,W (c7 a b).z⟩:=by
 unfold A6 c7;simp only[Mc6,jd7]
theorem Zd8(a b:V3):Ga6 a b=⟨W (c7 a b).x,W (c7 a b).y,W (c7 a b).z⟩:=by
 unfold Ga6 c7;simp only[Mc6,jd7]
theorem jd8{v:V3}{w:Int}(h:w≠0):0<gc v w:=by
 unfold gc
 have:0<Nat.gcd v.z.natAbs w.natAbs:=Qix _ (by omega)
 have:=Qix (Nat.gcd v.x.natAbs v.y.natAbs) this
 omega
theorem ye2{v:V3}{w:Int}(h:w≠0):gc v w<=w.natAbs:=by
 unfold gc;have h1:Nat.gcd v.z.natAbs w.natAbs<=w.natAbs:=Nat.gcd_le_right _ (by omega)
 have h2:0<Nat.gcd v.z.natAbs w.natAbs:=Qix _ (by omega)
 have h3:=Nat.gcd_le_right (m:=Nat.gcd v.x.natAbs v.y.natAbs) (n:=Nat.gcd v.z.natAbs w.natAbs) h2;omega
theorem lb5{x:Int}(h:Sm 1000000000000000000 x):W x=x:=J9 (by have:=h.1;omega) (by have:=h.2;omega)
theorem Sm.mono{n m x:Int}(h:Sm n x)(hn:n<=m):Sm m x:=⟨by have:=h.1;omega,by have:=h.2;omega⟩
theorem ca9{n x g:Int}(h:Sm n x)(hg:0<g):Sm n (Int.tdiv x g):=by
 have h1:(Int.tdiv x g).natAbs<=x.natAbs:=by rw[Int.natAbs_tdiv];exact Nat.div_le_self _ _
 have:=h.1;have:=h.2
 constructor<;>omega
theorem jd9{p q r:Pln}(hp:Bd p)(hq:Bd q)(hr:Bd r)(h:(mpt p q r).2=true):0<(mpt p q r).1.pw/\Sm 300000000000000 (mpt p q r).1.px/\Sm 300000000000000 (mpt p q r).1.py/\Sm 300000000000000 (mpt p q r).1.pz/\(mpt p q r).1.pw<=600000000000:=by
 have hw:=ye0 hp hq hr;obtain⟨v1,v2,v3⟩:=ye1 hp hq hr;have neg:∀{n x:Int},Sm n x->Sm n (-x):=λh=>⟨by have:=h.2;omega,by have:=h.1;omega⟩
 have pos:∀{x:Int},0<x->x.natAbs=(mw p q r).natAbs->0<Int.tdiv x (gc (mv p q r) (mw p q r)):=λ{x} hx he=>by
  have h0:mw p q r≠0:=by omega
  have h1:=jd8 (v:=mv p q r) h0;have h2:=ye2 (v:=mv p q r) h0;rw[Int.tdiv_eq_ediv_of_nonneg (by omega)]
  exact Int.ediv_pos_of_pos_of_dvd hx (by omega) (by
   rw[<- Qiu,he];exact Qim.2 (Qin (Qij _ _) (Qij _ _)))
 unfold mpt at h ⊢;by_cases h0:mw p q r=0
 ·rw[if_pos h0] at h;cases h
 ·rw[if_neg h0];have hg:=jd8 (v:=mv p q r) h0;by_cases h1:mw p q r<0
  ·rw[if_pos h1];exact⟨pos (by omega) (by omega),ca9 (neg v1) hg,ca9 (neg v2) hg,ca9 (neg v3) hg,(ca9 (neg hw) hg).2⟩
  ·rw[if_neg h1];exact⟨pos (by omega) rfl,ca9 v1 hg,ca9 v2 hg,ca9 v3 hg,(ca9 hw hg).2⟩
noncomputable def inn(l:List Pln)(x:Pt):Bool:=l.all λp=>!decide (rm p x<0)
def eqX(x q:Pt):Bool:=q.px==x.px&&(q.py==x.py&&(q.pz==x.pz&&(q.pw==x.pw&&true)))
theorem qd0(x q:Pt):eqX x q=true↔q=x:=by
 unfold eqX;simp only[Qig,Qid,beq_iff_eq];exact⟨λ⟨h1,h2,h3,h4⟩=>by cases q;cases x;simp_all,λh=>by subst h;exact⟨rfl,rfl,rfl,rfl⟩⟩
def Zd9(l:List Pt)(x:Pt):Bool:=l.any (eqX x)
theorem Kd4(l:List Pt)(x:Pt):Zd9 l x=true↔x∈l:=by
 unfold Zd9;rw[Qik];exact⟨λ⟨q,h,e⟩=>(qd0 x q).1 e ▸ h,λh=>⟨x,h,(qd0 x x).2 rfl⟩⟩
def smb(n x:Int):Bool:=!decide (x < -n)&&!decide (x>n)
theorem hb5(n x:Int):smb n x=true↔Sm n x:=by unfold smb Sm;simp only[Qid,Qiz,decide_eq_false_iff_not];omega
theorem rc3(n:Int)(l:List Int)(hn:0<=n/\n<=1000000000)(hl:l.length<=1000000000):na3 n l=some (b (l.all (smb n)),[]):=by
 have hW:W (0-n)=-n:=by rw[J9 (by omega) (by omega)];omega
 have h:=Kd1 (step:=ca2 ⟨n,l,(l.length:Int)⟩) (mk:=λj=>(⟨(j:Int)⟩:F6)) (c:=λx=>!smb n x) (u:=1) (fin:=2) tI l hl
  (λj hj=>by
   simp only[ca2,Z0,Int.toNat_natCast,C4 hj (by omega),hW]
   rw[bt (qc5 hj),bt (i6 hj)];unfold smb;cases decide (gL tI l j < -n)<;>cases decide (gL tI l j>n)<;>rfl)
  (by simp only[ca2,Z0];rw[bf (Lb4 (Qiw _))]) 0 (Nat.zero_le _)
 rw[Qiam] at h;unfold na3;simp only[r5,m9];rw[show (⟨0⟩:F6)=⟨((0:Nat):Int)⟩ from rfl,h]
 have e:(l.any λx=>!smb n x)=!l.all (smb n):=by rw[List.not_all_eq_any_not]
 rw[e];cases l.all (smb n)<;>rfl
theorem Ub7(n:Int)(l:List Int)(hn:0<=n/\n<=1000000000)(hl:l.length<=1000000000):fa6 n l=l.all (smb n):=by unfold fa6;rw[rc3 n l hn hl];rfl
theorem Ub8(n:Int)(l:List Int)(hn:0<=n/\n<=1000000000)(hl:l.length<=1000000000):fa7 n l=true:=by unfold fa7;rw[rc3 n l hn hl];rfl
theorem Xc7{n:Int}(h:Sm 1000000000000000000 n):qa3 n=(n.natAbs:Int):=by
 unfold qa3;obtain⟨h1,h2⟩:=h;rw[J9 (by omega) (by omega)]
 split<;>omega
theorem Mb3{n:Int}(h:Sm 1000000000000000000 n):ma9 n=some (i (n.natAbs:Int),[]):=by
 unfold ma9;obtain⟨h1,h2⟩:=h;rw[J9 (by omega) (by omega)]
 by_cases h:n<0
 ·rw[bt (decide_eq_true h)];congr 3;omega
 ·rw[bf (decide_eq_false h)];congr 3;omega
theorem rb2{n:Int}(h:Sm 1000000000000000000 n):fa3 n=(n.natAbs:Int):=by unfold fa3;rw[Mb3 h];rfl
theorem rb3{n:Int}(h:Sm 1000000000000000000 n):fa4 n=true:=by unfold fa4;rw[Mb3 h];rfl
def g3(v:V3):Int:=(Nat.gcd (Nat.gcd v.x.natAbs v.y.natAbs) v.z.natAbs:Nat)
theorem Kd5(g n:Nat):eu (g:Int) (n:Int)=(Nat.gcd g n:Nat):=by rw[oe2 (by omega) (by omega)];rfl
theorem yc9(P:S5)(g n:Nat)(hn:n<=1000000000000000000):lp (P0 P) ⟨(g:Int),(n:Int)⟩=(1,⟨(Nat.gcd g n:Nat),0⟩):=by
 have:=Yb5 (step:=P0 P) (mk:=λg n=>(⟨g,n⟩:H8)) (λg n h=>by
  have h0:n≠0:=by omega
  simp[P0,V7,Db1,h,h0]) (λg=>by simp[P0,V7,Db1]) (g:Int) (n:Int) (by omega) (by omega) (by omega)
 rw[this,Kd5]
theorem rc4(l:List Int)(hl:l.length<=1000000000)(hb:∀x∈l,Sm 1000000000000000000 x):ia8 l=some (i (l.foldl (λg x=>Nat.gcd g x.natAbs) 0:Nat),[]):=by
 have h := Zd4 (step := Z1 ⟨(l.length : Int)⟩) (mk := fun j (a : Nat) => (⟨(a : Int), l, (j : Int)⟩ : C5)) (f := fun g x => Nat.gcd g x.natAbs) (fin := 2) tI l (fun _ _ => True) hl (fun j a hj _ => ⟨by
   have hm:=hb _ (Ra9 tI hj);have hne:(gL tI l j==(-9223372036854775808:Int))=false:=by
    have:=hm.1
    rw[beq_eq_false_iff_ne];omega
   have hs:(gL tI l j).natAbs<=1000000000000000000:=by obtain⟨h1,h2⟩:=hm;omega
   simp only[Z1,V8,Int.toNat_natCast,r5,m9,Xc7 hm,yc9 _ _ _ hs,C4 hj (by omega)]
   rw[bt (qc5 hj),bt (i6 hj),bf hne]
   rfl,trivial⟩) (λa _=>by simp only[Z1,V8];rw[bf (Lb4 (Qiw _))]) 0 (Nat.zero_le _) 0 trivial
 have h:=h.1;rw[Qiam] at h;unfold ia8;simp only[r5,m9];rw[show (⟨0,l,0⟩:C5)=⟨((0:Nat):Int),l,((0:Nat):Int)⟩ from rfl,h]
 rfl
def okp(p:Pln):Bool:=[p.n.x,p.n.y,p.n.z].all (smb 4608)&&(g3 p.n==1&&[p.b].all (smb 2097152))
theorem oe9(p:Pln):Bd p↔[p.n.x,p.n.y,p.n.z].all (smb 4608)=true/\[p.b].all (smb 2097152)=true:=by
 simp only[List.all_cons,List.all_nil,Qig,Qid,hb5,Sm];exact⟨λh=>⟨⟨⟨h.x1,h.x2⟩,⟨h.y1,h.y2⟩,h.z1,h.z2⟩,h.b1,h.b2⟩,λ⟨⟨⟨a,b⟩,⟨c,d⟩,e,f⟩,g,h⟩=>⟨a,b,c,d,e,f,g,h⟩⟩
theorem Eb7{p:Pln}(h:okp p=true):Bd p:=by
 unfold okp at h;rw[Qid,Qid] at h;exact (oe9 p).2 ⟨h.1,h.2.2⟩
theorem sm3{v:V3}(h:[v.x,v.y,v.z].all (smb 4608)=true):Sm 4608 v.x/\Sm 4608 v.y/\Sm 4608 v.z:=by
 simpa only[List.all_cons,List.all_nil,Qig,Qid,hb5] using h
theorem Xc8(p:Pln):sa1 p=some (b (okp p),[]):=by
 unfold sa1 okp;have l3:[p.n.x,p.n.y,p.n.z].length<=1000000000:=by simp
 have l1:[p.b].length<=1000000000:=by simp
 simp only[Ub7 4608 _ (by omega) l3,Ub8 4608 _ (by omega) l3,Ub7 2097152 _ (by omega) l1,Ub8 2097152 _ (by omega) l1]
 cases hw:[p.n.x,p.n.y,p.n.z].all (smb 4608) with
 |false=>rfl
 |true =>
  obtain⟨h1,h2,h3⟩:=sm3 hw;have hd:=rc4 [p.n.x,p.n.y,p.n.z] l3 (by
   intro x hx;simp only[Qia,Qiaa,or_false] at hx
   rcases hx with rfl|rfl|rfl
   ·exact h1.mono (by omega)
   ·exact h2.mono (by omega)
   ·exact h3.mono (by omega))
  have hg:([p.n.x,p.n.y,p.n.z].foldl (λg x=>Nat.gcd g x.natAbs) 0:Nat)=Nat.gcd (Nat.gcd p.n.x.natAbs p.n.y.natAbs) p.n.z.natAbs:=by
   simp only[List.foldl_cons,List.foldl_nil,Nat.gcd_zero_left]
  have hp:U9 [p.n.x,p.n.y,p.n.z]=g3 p.n:=by unfold U9;rw[hd,hg];rfl
  have hgd:V0 [p.n.x,p.n.y,p.n.z]=true:=by unfold V0;rw[hd];rfl
  rw[hp,hgd];cases g3 p.n==1<;>rfl
theorem ae0(p:Pln):Ea6 p=okp p:=by unfold Ea6;rw[Xc8 p];rfl
theorem ae1(p:Pln):Ea7 p=true:=by unfold Ea7;rw[Xc8 p];rfl
theorem Ub9(P:ca1)(g n:Nat)(hn:n<=1000000000000000000):lp (X6 P) ⟨(g:Int),(n:Int)⟩=(1,⟨(Nat.gcd g n:Nat),0⟩):=by
 have:=Yb5 (step:=X6 P) (mk:=λg n=>(⟨g,n⟩:L3)) (λg n h=>by
  have h0:n≠0:=by omega
  simp[X6,na0,Db1,h,h0]) (λg=>by simp[X6,na0,Db1]) (g:Int) (n:Int) (by omega) (by omega) (by omega)
 rw[this,Kd5]
theorem Mc8 {v : V3} (h1 : Sm 1000000000000000000 v.x) (h2 : Sm 1000000000000000000 v.y) (h3 : Sm 1000000000000000000 v.z) :
  Pa9 v=if g3 v=0 then some (.tup [.agg (tV.row ⟨0,0,0⟩),i 0],[]) else some (.tup [.agg (tV.row ⟨W (Int.tdiv v.x (g3 v)),W (Int.tdiv v.y (g3 v)),W (Int.tdiv v.z (g3 v))⟩),i (g3 v)],[]):=by
 have ne:∀{x:Int},Sm 1000000000000000000 x->(x==(-9223372036854775808:Int))=false:=λ{x} h=>by
  have:=h.1
  rw[beq_eq_false_iff_ne];omega
 have bd:∀{x:Int},Sm 1000000000000000000 x->x.natAbs<=1000000000000000000:=λ{x} h=>by obtain⟨h1,h2⟩:=h;omega
 have l1:=Ub9 ⟨0,v.x,v.y,v.z,v.x,v.y,v.z⟩ 0 v.x.natAbs (bd h1);rw[Nat.gcd_zero_left] at l1;have l2:=Ub9 ⟨1,v.x,v.y,v.z,v.x,v.y,v.z⟩ v.x.natAbs v.y.natAbs (bd h2);have l3:=Ub9 ⟨2,v.x,v.y,v.z,v.x,v.y,v.z⟩ (Nat.gcd v.x.natAbs v.y.natAbs) v.z.natAbs (bd h3);unfold Pa9;simp only[rb2 h1,rb2 h2,rb2 h3,rb3 h1,rb3 h2,rb3 h3];rw[show (⟨0,(v.x.natAbs:Int)⟩:L3)=⟨((0:Nat):Int),(v.x.natAbs:Int)⟩ from rfl]
 simp only[l1,l2,l3,ne h1,ne h2,ne h3];rw[show ((Nat.gcd (Nat.gcd v.x.natAbs v.y.natAbs) v.z.natAbs:Nat):Int)=g3 v from rfl]
 by_cases h:g3 v=0
 ·rw[if_pos h,show (g3 v==0)=true from by rw[h];rfl];rfl
 ·rw[if_neg h,show (g3 v==0)=false from by rw[beq_eq_false_iff_ne];exact h];rfl
theorem rc5{v:V3}(h1:Sm 1000000000000000000 v.x)(h2:Sm 1000000000000000000 v.y)(h3:Sm 1000000000000000000 v.z):(va3 v).2=g3 v:=by
 unfold va3;rw[Mc8 h1 h2 h3];split
 ·rename_i h;rw[h];rfl
 ·rfl
theorem pe0{v:V3}(h1:Sm 1000000000000000000 v.x)(h2:Sm 1000000000000000000 v.y)(h3:Sm 1000000000000000000 v.z)(h:g3 v≠0):va3 v=(⟨W (Int.tdiv v.x (g3 v)),W (Int.tdiv v.y (g3 v)),W (Int.tdiv v.z (g3 v))⟩,g3 v):=by
 unfold va3;rw[Mc8 h1 h2 h3,if_neg h];rfl
theorem Kd6{v:V3}(h1:Sm 1000000000000000000 v.x)(h2:Sm 1000000000000000000 v.y)(h3:Sm 1000000000000000000 v.z):Qa0 v=true:=by
 unfold Qa0;rw[Mc8 h1 h2 h3]
 split<;>rfl
theorem Ec5(p:Pln):Ga7 p=some (b (okp p),[]):=by
 unfold Ga7 okp;cases hw:[p.n.x,p.n.y,p.n.z].all (smb 4608) with
 |false =>
  simp only[List.all_cons,List.all_nil,Qig,smb] at hw;cases h1:decide (p.n.x < -4608)<;>cases h2:decide (p.n.x>4608)<;>cases h3:decide (p.n.y < -4608)<;>cases h4:decide (p.n.y>4608)<;>cases h5:decide (p.n.z < -4608)<;>cases h6:decide (p.n.z>4608)<;>simp only[h1,h2,h3,h4,h5,h6] at hw ⊢<;>first | rfl | cases hw
 |true =>
  obtain⟨h1,h2,h3⟩:=sm3 hw;rw[bf (decide_eq_false (by have:=h1.1;omega)),bf (decide_eq_false (by have:=h1.2;omega)),bf (decide_eq_false (by have:=h2.1;omega)),bf (decide_eq_false (by have:=h2.2;omega)),bf (decide_eq_false (by have:=h3.1;omega)),bf (decide_eq_false (by have:=h3.2;omega))]
  have k1:=h1.mono (m:=1000000000000000000) (by omega)
  have k2:=h2.mono (m:=1000000000000000000) (by omega)
  have k3:=h3.mono (m:=1000000000000000000) (by omega)
  rw[bt (Kd6 k1 k2 k3),rc5 k1 k2 k3];cases g3 p.n==1 with
  |false=>rfl
  |true =>
   simp only[List.all_cons,List.all_nil,Qig,smb,Bool.true_and];rw[w6];by_cases ha:p.b < -2097152
   ·rw[bf (decide_eq_false (by omega)),show decide (p.b < -2097152)=true from decide_eq_true ha];rfl
   ·rw[bt (decide_eq_true (by omega)),show decide (p.b < -2097152)=false from decide_eq_false ha]
    congr 3;by_cases hc:p.b<=2097152
    ·rw[decide_eq_true hc,decide_eq_false (by omega)];rfl
    ·rw[decide_eq_false hc,decide_eq_true (by omega)];rfl
theorem Kd7(p:Pln):Va6 p=okp p:=by unfold Va6;rw[Ec5 p];rfl
theorem Xc9(p:Pln):Va7 p=true:=by unfold Va7;rw[Ec5 p];rfl
def chk(l:List Pln):Int:=if (l.length:Int)>48 then 2 else if l.all okp then 0 else 12
theorem rc6{l:List Pln}:chk l=0↔l.length<=48/\∀p∈l,okp p=true:=by
 unfold chk;by_cases hn:(l.length:Int)>48
 ·rw[if_pos hn];exact⟨λh=>absurd h (by decide),λh=>by omega⟩
 ·rw[if_neg hn];cases h:l.all okp with
  |true=>exact⟨λ_=>⟨by omega,Qio.1 h⟩,λ_=>rfl⟩
  |false=>exact⟨λh=>absurd h (by decide),λh'=>by rw[Qio.2 h'.2] at h;cases h⟩
theorem btD{p:Prop}{inst:Decidable p}(h:p){α:Type}(t e:α):sl (@decide p inst) t e=t:=bt (decide_eq_true h) t e
theorem bfD{p:Prop}{inst:Decidable p}(h:¬ p){α:Type}(t e:α):sl (@decide p inst) t e=e:=bf (decide_eq_false h) t e
theorem o9{j n:Nat}(h:j<n):(j:Int)<(n:Int):=Int.ofNat_lt.2 h
theorem A1{j n:Nat}(h:¬ j<n):¬ (j:Int)<(n:Int):=λh'=>h (Int.ofNat_lt.1 h')
noncomputable def Mb4(r:List Pln)(p q:Pln)(out:List Pt)(s:Pln):List Pt :=
 if (mpt p q s).2&&(!Zd9 out (mpt p q s).1&&inn r (mpt p q s).1) then out++[(mpt p q s).1] else out
noncomputable def zd3(r:List Pln)(p q:Pln)(l:List Pln)(out:List Pt):List Pt:=l.foldl (Mb4 r p q) out
noncomputable def Yc0(r:List Pln)(p:Pln):List Pln->List Pt->List Pt
 |[],out=>out
 |q::l,out=>Yc0 r p l (zd3 r p q l out)
noncomputable def kd0(r:List Pln):List Pln->List Pt->List Pt
 |[],out=>out
 |p::l,out=>kd0 r l (Yc0 r p l out)
noncomputable def cor(r:List Pln):List Pt:=kd0 r r []
def Bds(r:List Pln):Prop:=∀p∈r,Bd p
noncomputable def ph(out:List Pt):Nat:=match out with
 |[]=>0
 |_::_=>1
theorem qd1{α:Type}(t:Ty α)(l:List α)(n k:Nat):gL t (l.drop n) k=gL t l (n+k):=by simp[gL,Qiah,List.getElem?_drop]
theorem Ec6{ρ:Type}(R:RR ρ){x:b7×List c8}{r:ρ}(h:R.rd x=some r):U8 R (some x)=r:=by
 show Option.rec (motive:=λ_=>ρ) R.d (λx=>x) (R.rd x)=r
 rw[h]
theorem Yc1{ρ:Type}(R:RR ρ){x:b7×List c8}{r:ρ}(h:R.rd x=some r):okO R (some x)=true:=by
 show Option.rec (motive:=λ_=>Bool) false (λ_=>true) (R.rd x)=true
 rw[h]
@[reducible] noncomputable def flK:List (Nat×CK):=[(0,.int .i64),(1,.int .i64),(2,.int .i64),(3,.int .i64)]
theorem pe1(s:Pln):((Nat.ble 4 (len (tP.row s)))&&(ma1 [CK.int .i64,CK.int .i64,CK.int .i64,CK.int .i64] (tP.row s)))=true:=rfl
noncomputable def ws:List Pln:=[⟨⟨1,0,0⟩,24⟩,⟨⟨-1,0,0⟩,24⟩,⟨⟨0,1,0⟩,24⟩,⟨⟨0,-1,0⟩,24⟩,⟨⟨0,0,1⟩,24⟩,⟨⟨0,0,-1⟩,24⟩]
theorem ye3:Bds ws:=by
 intro p hp
 have:okp p=true:=by
  have h:ws.all okp=true:=by decide
  exact Qio.1 h p hp
 exact Eb7 this
noncomputable def pos(X:List Pt)(p:Pln):Bool:=X.any λx=>decide (rm p x>0)
noncomputable def ae2(r:List Pln):Bool:=r.all (pos (cor r))
theorem ae3{c:List Pln}(h:(chk c==0)=true):Bds (c++ws)/\(c++ws).length<=200:=by
 rw[beq_iff_eq,rc6] at h;refine⟨λp hp=>?_,by rw[List.length_append,show ws.length=6 from rfl];omega⟩
 rcases List.mem_append.1 hp with hp|hp
 ·exact Eb7 (h.2 p hp)
 ·exact ye3 p hp
noncomputable def pts(c:List Pln):List Pt:=if chk c==0 then cor (c++ws) else []
noncomputable def ful(c:List Pln):Bool:=(chk c==0)&&ae2 (c++ws)
theorem Yc2{Q:Pt->Prop}(r:List Pln)(p q:Pln):∀(l:List Pln) (out:List Pt),(∀s∈l,(mpt p q s).2=true->inn r (mpt p q s).1=true->Q (mpt p q s).1)->(∀x∈out,Q x)->∀x∈zd3 r p q l out,Q x
 |[],out,_,h=>h
 |s::l,out,hs,h=>Yc2 r p q l (Mb4 r p q out s) (λt ht=>hs t (Qib _ ht)) λx hx=>by
  unfold Mb4 at hx
  split at hx
  ·rename_i hc;rw[Qid,Qid] at hc
   rcases List.mem_append.1 hx with hx|hx
   ·exact h x hx
   ·rw[List.mem_singleton] at hx;subst hx;exact hs s Qic hc.1 hc.2.2
  ·exact h x hx
theorem Yc3{Q:Pt->Prop}(r:List Pln)(p:Pln):∀(l:List Pln) (out:List Pt),(∀q∈l,∀s∈l,(mpt p q s).2=true->inn r (mpt p q s).1=true->Q (mpt p q s).1)->(∀x∈out,Q x)->∀x∈Yc0 r p l out,Q x
 |[],out,_,h=>h
 |q::l,out,hs,h=>Yc3 r p l _ (λa ha t ht=>hs a (Qib _ ha) t (Qib _ ht)) (Yc2 r p q l out (λt ht=>hs q Qic t (Qib _ ht)) h)
theorem Yc4{Q:Pt->Prop}(r:List Pln):∀(l:List Pln) (out:List Pt),(∀p∈l,∀q∈l,∀s∈l,(mpt p q s).2=true->inn r (mpt p q s).1=true->Q (mpt p q s).1)->(∀x∈out,Q x)->∀x∈kd0 r l out,Q x
 |[],out,_,h=>h
 |p::l,out,hs,h=>Yc4 r l _ (λa ha c hc t ht=>hs a (Qib _ ha) c (Qib _ hc) t (Qib _ ht)) (Yc3 r p l out (λc hc t ht=>hs p Qic c (Qib _ hc) t (Qib _ ht)) h)
theorem qd2{Q:Pt->Prop}{r:List Pln}(hs:∀p∈r,∀q∈r,∀s∈r,(mpt p q s).2=true->inn r (mpt p q s).1=true->Q (mpt p q s).1):∀x∈cor r,Q x :=
 Yc4 r r [] hs λx hx=>by cases hx
structure Okx(x:Pt):Prop where
 w1:0<x.pw
 w2:x.pw<=600000000000
 c1:Sm 300000000000000 x.px
 c2:Sm 300000000000000 x.py
 c3:Sm 300000000000000 x.pz
theorem Mc9{r:List Pln}(hb:Bds r):∀x∈cor r,Okx x:=qd2 λp hp q hq s hs h _=>by
 obtain⟨h1,h2,h3,h4,h5⟩:=jd9 (hb p hp) (hb q hq) (hb s hs) h;exact⟨h1,h5,h2,h3,h4⟩
theorem Yc5{x y:Int}(hy:0<y):Int.tmod x y+y*Int.tdiv x y=x/\-y<Int.tmod x y/\Int.tmod x y<y:=by
 refine⟨Int.tmod_add_mul_tdiv x y,?_,Int.tmod_lt_of_pos x hy⟩
 have:=Int.lt_tmod_of_pos x hy
 omega
theorem Kd8(x:Int){y:Int}(hy:0<y)(hy2:y<=4000000000000000000):bb5 x y=some (i (x % y),[]):=by
 have hz:(y==0)=false:=by rw[beq_eq_false_iff_ne];omega
 obtain⟨h1,h2,h3⟩:=Yc5 (x:=x) hy;unfold bb5;rw[bfD (by omega),bf hz,bf hz,J9 (by omega) (by omega),Int.tmod_eq_emod_of_nonneg (by omega)]
 congr 3;rw[Int.add_emod_right]
 conv=>rhs;rw[<- h1]
 rw[Int.add_mul_emod_self_left]
theorem ye4(x:Int){y:Int}(hy:0<y)(hy2:y<=4000000000000000000):ub7 x y=x % y:=by unfold ub7;rw[Kd8 x hy hy2];rfl
theorem ye5(x:Int){y:Int}(hy:0<y)(hy2:y<=4000000000000000000):ub8 x y=true:=by unfold ub8;rw[Kd8 x hy hy2];rfl
theorem Sm.neg{n x:Int}(h:Sm n x):Sm n (-x):=⟨by have:=h.2;omega,by have:=h.1;omega⟩
def Nx{σ:Type}(x:Stp σ)(E:Nat->Prop)(N:σ->Prop):Prop:=(∃t,x=.exit t/\E t)\/∃s,x=.next s/\N s
theorem Nx.sl{σ:Type}{c:Bool}{t e:Stp σ}{E:Nat->Prop}{N:σ->Prop}(h1:c=true->Nx t E N)(h2:c=false->Nx e E N):Nx (sl c t e) E N:=by cases c;exact h2 rfl;exact h1 rfl
theorem Nx.ex{σ:Type}{t:Nat}{E:Nat->Prop}{N:σ->Prop}(h:E t):Nx (.exit t) E N:=.inl ⟨t,rfl,h⟩
theorem Nx.nx{σ:Type}{s:σ}{E:Nat->Prop}{N:σ->Prop}(h:N s):Nx (.next s) E N:=.inr ⟨s,rfl,h⟩
theorem R2 {σ τ : Type} {step : σ → Stp σ} {mk : Nat → τ → σ} (n : Nat) (I : Nat → τ → Prop) (E : Nat → σ → Prop) (hn : n ≤ 1000000000)
  (h:∀j a,j<n->I j a->Nx (step (mk j a)) (λt=>E t (mk j a)) (λs=>∃a',s=mk (j+1) a'/\I (j+1) a'))
  (hf:∀j a,n<=j->I j a->∃t,step (mk j a)=.exit t/\E t (mk j a)) (j0:Nat) (a:τ) (hi:I j0 a):∃t s,lp step (mk j0 a)=(t,s)/\E t s:=by
 have key:=Tb1 (step:=step) (I:=λm s=>∃j a,m=n-j/\s=mk j a/\I j a) (Q:=E) (λm s ⟨j,a,hm,hs,ha⟩=>by
  subst hs;by_cases hlt:j<n
  ·rcases h j a hlt ha with h1|⟨s',h1,a',h2,h3⟩
   ·exact .inl h1
   ·subst h2;exact .inr ⟨_,n-(j+1),by omega,h1,j+1,a',rfl,rfl,h3⟩
  ·exact .inl (hf j a (by omega) ha)) (n-j0) (mk j0 a) (by omega) ⟨j0,a,rfl,rfl,hi⟩
 exact⟨_,_,rfl,key⟩
def Rd{ρ:Type}(R:RR ρ)(o:Option (b7×List c8))(P:ρ->Prop):Prop:=∃x r,o=some x/\R.rd x=some r/\P r
theorem Rd.p{ρ:Type}{R:RR ρ}{o:Option (b7×List c8)}{P:ρ->Prop}(h:Rd R o P):P (U8 R o):=by
 obtain⟨x,r,h1,h2,h3⟩:=h;rw[h1,Ec6 R h2];exact h3
theorem Rd.g{ρ:Type}{R:RR ρ}{o:Option (b7×List c8)}{P:ρ->Prop}(h:Rd R o P):okO R o=true:=by
 obtain⟨x,r,h1,h2,h3⟩:=h;rw[h1];exact Yc1 R h2
theorem Rd.sl{ρ:Type}{R:RR ρ}{c:Bool}{t e:Option (b7×List c8)}{P:ρ->Prop}(h1:c=true->Rd R t P)(h2:c=false->Rd R e P):Rd R (sl c t e) P:=by cases c;exact h2 rfl;exact h1 rfl
theorem Fa7 (n : Int) (l : List Int) (j : Int) (h1 : 0 ≤ j) (h2 : j ≤ 1000000) (hn : 0 < n) (hn2 : n ≤ 1000000) :
  ∃v j',y6 ⟨n,l,j⟩=⟨1,v,j'⟩/\0<=v/\v<n/\j<=j'/\j'<=j+1:=by
 unfold y6 ba4
 simp only
 by_cases h:j>=(l.length:Int)
 ·rw[btD h];exact⟨0,j,rfl,by omega,hn,by omega,by omega⟩
 ·rw[bfD h];have hW:W (W (j+1)-1)=j:=by rw[Mc6,J9 (by omega) (by omega)];omega
  have hW2:W (j+1)=j+1:=J9 (by omega) (by omega)
  have hin:inB j l.length=true:=by rw[Zd2];exact decide_eq_true (by omega)
  rw[hW,hW2,hin,ye5 _ hn (by omega),ye4 _ hn (by omega)]
  exact⟨_,_,rfl,Int.emod_nonneg _ (by omega),Int.emod_lt_of_pos _ hn,by omega,by omega⟩
def inV(v:V3):Bool:=smb 24 v.x&&(smb 24 v.y&&smb 24 v.z)
theorem ua6(v:V3):inV v=true↔Sm 24 v.x/\Sm 24 v.y/\Sm 24 v.z:=by unfold inV;rw[Qid,Qid,hb5,hb5,hb5]
theorem Kd9(v:V3):pb9 v=some (b (inV v),[]):=by
 unfold pb9 inV smb;cases h1:decide (v.x < -24)<;>cases h2:decide (v.x>24)<;>cases h3:decide (v.y < -24)<;>cases h4:decide (v.y>24)<;>cases h5:decide (v.z < -24)<;>cases h6:decide (v.z>24)<;>rfl
theorem he8(v:V3):Qa6 v=inV v:=by unfold Qa6;rw[Kd9];rfl
theorem Ld0(v:V3):Qa7 v=true:=by unfold Qa7;rw[Kd9];rfl
def sub(a b:V3):V3:=⟨a.x-b.x,a.y-b.y,a.z-b.z⟩
theorem qd3{a b:V3}(ha:inV a=true)(hb:inV b=true):Ca9 a b=sub a b/\Sm 48 (sub a b).x/\Sm 48 (sub a b).y/\Sm 48 (sub a b).z:=by
 rw[ua6] at ha hb;obtain⟨⟨a1,a2⟩,⟨a3,a4⟩,a5,a6⟩:=ha;obtain⟨⟨b1,b2⟩,⟨b3,b4⟩,b5,b6⟩:=hb;unfold Ca9 sub;rw[J9 (by omega) (by omega),J9 (by omega) (by omega),J9 (by omega) (by omega)]
 exact⟨rfl,⟨by show _<=a.x-b.x;omega,by show a.x-b.x<=_;omega⟩,⟨by show _<=a.y-b.y;omega,by show a.y-b.y<=_;omega⟩,⟨by show _<=a.z-b.z;omega,by show a.z-b.z<=_;omega⟩⟩
theorem Za8 {a b c : V3} (ha : inV a = true) (hb : inV b = true) (hc : inV c = true) :
  Ga6 (Ca9 b a) (Ca9 c a)=c7 (sub b a) (sub c a)/\Sm 4608 (c7 (sub b a) (sub c a)).x/\Sm 4608 (c7 (sub b a) (sub c a)).y/\Sm 4608 (c7 (sub b a) (sub c a)).z:=by
 obtain⟨e1,⟨u1,u2⟩,⟨u3,u4⟩,u5,u6⟩:=qd3 hb ha;obtain⟨e2,⟨v1,v2⟩,⟨v3,v4⟩,v5,v6⟩:=qd3 hc ha;rw[e1,e2,Zd8];generalize sub b a=p at *
 generalize sub c a=q at *
 have h1:=mb u3 u4 v5 v6;have h2:=mb u5 u6 v3 v4;have h3:=mb u5 u6 v1 v2;have h4:=mb u1 u2 v5 v6;have h5:=mb u1 u2 v3 v4;have h6:=mb u3 u4 v1 v2;have k:Sm 4608 (c7 p q).x/\Sm 4608 (c7 p q).y/\Sm 4608 (c7 p q).z:=by unfold Sm c7;simp only;omega
 obtain⟨k1,k2,k3⟩:=k;rw[lb5 (k1.mono (by omega)),lb5 (k2.mono (by omega)),lb5 (k3.mono (by omega))]
 exact⟨rfl,k1,k2,k3⟩
def B0(a b c:V3):Pln×Bool :=
 if inV a&&(inV b&&inV c) then
  if g3 (c7 (sub b a) (sub c a))=0 then (⟨⟨0,0,0⟩,0⟩,false)
  else (⟨⟨Int.tdiv (c7 (sub b a) (sub c a)).x (g3 (c7 (sub b a) (sub c a))),Int.tdiv (c7 (sub b a) (sub c a)).y (g3 (c7 (sub b a) (sub c a))),Int.tdiv (c7 (sub b a) (sub c a)).z (g3 (c7 (sub b a) (sub c a)))⟩,
   dot ⟨Int.tdiv (c7 (sub b a) (sub c a)).x (g3 (c7 (sub b a) (sub c a))),Int.tdiv (c7 (sub b a) (sub c a)).y (g3 (c7 (sub b a) (sub c a))),Int.tdiv (c7 (sub b a) (sub c a)).z (g3 (c7 (sub b a) (sub c a)))⟩ a⟩,true)
 else (⟨⟨0,0,0⟩,0⟩,false)
theorem vb1(v:V3):0<=g3 v:=by unfold g3;omega
theorem rc7(a c d:V3):sa3 a c d=some (.tup [.agg (tP.row (B0 a c d).1),b (B0 a c d).2],[]):=by
 unfold sa3 B0;simp only[he8,Ld0];cases ha:inV a with
 |false=>rfl
 |true =>
  cases hc:inV c with
  |false=>rfl
  |true =>
   cases hd:inV d with
   |false=>rfl
   |true =>
    obtain⟨e,k1,k2,k3⟩:=Za8 ha hc hd;rw[e];generalize c7 (sub c a) (sub d a)=n at *
    have m1:=k1.mono (m:=1000000000000000000) (by omega)
    have m2:=k2.mono (m:=1000000000000000000) (by omega)
    have m3:=k3.mono (m:=1000000000000000000) (by omega)
    rw[Kd6 m1 m2 m3,rc5 m1 m2 m3];by_cases h0:g3 n=0
    ·rw[show (g3 n==0)=true from by rw[h0];rfl]
     simp only[Qip,if_true,h0];rfl
    ·have hp:=vb1 n;have q1:=ca9 (g:=g3 n) k1 (by omega)
     have q2:=ca9 (g:=g3 n) k2 (by omega)
     have q3:=ca9 (g:=g3 n) k3 (by omega)
     rw[show (g3 n==0)=false from by rw[beq_eq_false_iff_ne];exact h0,pe0 m1 m2 m3 h0]
     simp only[Qip,if_true,h0,if_false];rw[lb5 (q1.mono (by omega)),lb5 (q2.mono (by omega)),lb5 (q3.mono (by omega))]
     have hdot:Ca4 ⟨Int.tdiv n.x (g3 n),Int.tdiv n.y (g3 n),Int.tdiv n.z (g3 n)⟩ a=dot ⟨Int.tdiv n.x (g3 n),Int.tdiv n.y (g3 n),Int.tdiv n.z (g3 n)⟩ a:=by
      unfold Ca4;simp only[Eb3,Tb0];obtain⟨⟨a1,a2⟩,⟨a3,a4⟩,a5,a6⟩:=(ua6 a).1 ha;have r1:=mb q1.1 q1.2 a1 a2;have r2:=mb q2.1 q2.2 a3 a4;have r3:=mb q3.1 q3.2 a5 a6;rw[J9 (by omega) (by omega)]
      rfl
     rw[hdot];rfl
theorem zd4(a b c:V3):Ea8 a b c=B0 a b c:=by unfold Ea8;rw[rc7];rfl
theorem Ec7(a b c:V3):Ea9 a b c=true:=by unfold Ea9;rw[rc7];rfl
theorem ae4(p:Pln)(v:V3):Rd (one r1I) (va4 p v) (λ_=>True):=by
 unfold va4;simp only[Xc9,Ld0,w6];exact Rd.sl (λ_=>⟨_,_,rfl,rfl,trivial⟩) λ_=>Rd.sl (λ_=>⟨_,_,rfl,rfl,trivial⟩) λ_=>Rd.sl (λ_=>⟨_,_,rfl,rfl,trivial⟩) λ_=>Rd.sl (λ_=>⟨_,_,rfl,rfl,trivial⟩) λ_=>⟨_,_,rfl,rfl,trivial⟩
theorem Ld1(p:Pln)(v:V3):Eb0 p v=true:=(ae4 p v).g
theorem ye6(P:ha4)(hl:P.j5.length<=1000000000):∃t s,lp (v8 P) ⟨0⟩=(t,s)/\(t=1\/t=2\/t=3):=by
 obtain⟨l,x1,x2,x3,x4,x5,x6,x7,x8⟩:=P;refine R2 (step:=v8 ⟨l,x1,x2,x3,x4,x5,x6,x7,x8⟩) (mk:=λj (_:Unit)=>(⟨(j:Int)⟩:W5)) l.length (λ_ _=>True) (λt _=>t=1\/t=2\/t=3) hl (λj a hj _=>?_) (λj a hj _=>?_) 0 () trivial
 ·simp only[v8,R7,Ld1,Int.toNat_natCast,C4 hj (show l.length<=4611686018427387904 from Nat.le_trans hl (by omega))]
  rw[btD (o9 hj),bt (i6 hj),w6];exact Nx.sl (λ_=>Nx.sl (λ_=>.ex (by simp)) λ_=>.nx ⟨(),rfl,trivial⟩) λ_=>.ex (by simp)
 ·simp only[v8,R7];rw[bfD (by omega)]
  exact⟨_,rfl,by simp⟩
theorem ye7(l:List V3)(hl:l.length<=1000000000)(a c:Nat)(ha:a<l.length)(hc:c<a):∃t s,lp (L0 ⟨(a:Int),(c:Int)⟩) ⟨l,0⟩=(t,s)/\((t=1\/t=2)/\s.j5=l):=by
 refine R2 (step:=L0 ⟨(a:Int),(c:Int)⟩) (mk:=λj (_:Unit)=>(⟨l,(j:Int)⟩:W6)) c (λ_ _=>True) (λt s=>(t=1\/t=2)/\s.j5=l) (by omega) (λj x hj _=>?_) (λj x hj _=>?_) 0 () trivial
 ·simp only[L0,Z2,Ec7,Int.toNat_natCast,r5,m9,C4 hj (show c<=4611686018427387904 by omega)]
  rw[btD (o9 hj),bt (i6 ha),bt (i6 (show c<l.length by omega)),bt (i6 (show j<l.length by omega)),w6]
  generalize hP:ha4.mk _ _ _ _ _ _ _ _ _=P3;obtain⟨t,s,h1,h2⟩:=ye6 P3 (by subst hP;exact hl)
  rw[h1]
  rcases h2 with rfl|rfl|rfl
  ·exact .ex (by simp)
  ·exact .nx ⟨(),rfl,trivial⟩
  ·exact .nx ⟨(),rfl,trivial⟩
 ·simp only[L0,Z2];rw[bfD (by omega)]
  exact⟨_,rfl,by simp⟩
theorem ye8(l:List V3)(hl:l.length<=1000000000)(a:Nat)(ha:a<l.length):∃t s,lp (L1 ⟨(a:Int)⟩) ⟨l,0⟩=(t,s)/\((t=1\/t=2)/\s.j5=l):=by
 refine R2 (step:=L1 ⟨(a:Int)⟩) (mk:=λj (_:Unit)=>(⟨l,(j:Int)⟩:W7)) a (λ_ _=>True) (λt s=>(t=1\/t=2)/\s.j5=l) (by omega) (λj x hj _=>?_) (λj x hj _=>?_) 0 () trivial
 ·simp only[L1,Z3,r5,m9,C4 hj (show a<=4611686018427387904 by omega)]
  obtain⟨t,s,h1,h2,h3⟩:=ye7 l hl a j ha hj;rw[btD (o9 hj),h1]
  rcases h2 with rfl|rfl
  ·exact .ex (by simp)
  ·exact .nx ⟨(),by rw[h3],trivial⟩
 ·simp only[L1,Z3];rw[bfD (by omega)]
  exact⟨_,rfl,by simp⟩
theorem Ua8(l:List V3)(hl:l.length<=1000000000):Rd (one r1B) (va5 l) (λ_=>True):=by
 have key:∃t s,lp (L2 ⟨⟩) ⟨l,0⟩=(t,s)/\(t=1\/t=2):=by
  refine R2 (step:=L2 ⟨⟩) (mk:=λj (_:Unit)=>(⟨l,(j:Int)⟩:W8)) l.length (λ_ _=>True) (λt s=>t=1\/t=2) hl (λj x hj _=>?_) (λj x hj _=>?_) 0 () trivial
  ·simp only[L2,Z4,r5,m9,C4 hj (show l.length<=4611686018427387904 by omega)]
   obtain⟨t,s,h1,h2,h3⟩:=ye8 l hl j hj;rw[btD (o9 hj),h1]
   rcases h2 with rfl|rfl
   ·exact .ex (by simp)
   ·exact .nx ⟨(),by rw[h3],trivial⟩
  ·simp only[L2,Z4];rw[bfD (by omega)]
   exact⟨_,rfl,by simp⟩
 obtain⟨t,s,h1,h2⟩:=key;unfold va5;simp only[r5,m9];rw[h1]
 rcases h2 with rfl|rfl<;>exact⟨_,_,rfl,rfl,trivial⟩
theorem Ld2(l:List V3)(hl:l.length<=1000000000):Da0 l=true:=(Ua8 l hl).g
structure Fc(ph:Nat)(out:List Pln)(m:Nat):Prop where
 h:(ph=0/\out=[])\/ph=1
 l:out.length<=m
theorem Fc.more{ph m m':Nat}{out:List Pln}(h:Fc ph out m)(hm:m<=m'):Fc ph out m':=⟨h.h,Nat.le_trans h.l hm⟩
def phV(out:List V3):Nat:=match out with
 |[]=>0
 |_::_=>1
theorem ic0(out:List V3)(x:V3):phV (out++[x])=1:=by cases out<;>rfl
theorem db6(l:List V3)(x1 x2 x3:Int):app (bL tV l) [[i x1,i x2,i x3]]=bL tV (l++[⟨x1,x2,x3⟩]):=Ya0 tV l [⟨x1,x2,x3⟩]
theorem ae5{l:List V3}{m:Nat}(h:m<l.length):(((Nat.blt (0+m) (len (bL tV l)))&&(Nat.ble (0+3) (len (i7 (bL tV l) (0+m)))))&&(ma1 [CK.int .i64,CK.int .i64,CK.int .i64] (i5 (i7 (bL tV l) (0+m)) 0)))=true:=by
 rw[Qiaj,N5 tV h,ya2,show Nat.blt m l.length=true from by rw[Nat.blt_eq];exact h]
 rfl
theorem he9{l:List V3}{m:Nat}(h:m<l.length):(((Nat.blt (0+m) (len (bL tV l)))&&(Nat.ble (2+1) (len (i7 (bL tV l) (0+m)))))&&(ma1 [CK.int .i64] (i5 (i7 (bL tV l) (0+m)) 2)))=true:=by
 rw[Qiaj,N5 tV h,ya2,show Nat.blt m l.length=true from by rw[Nat.blt_eq];exact h]
 rfl
theorem Yc6{n:Nat}{l:List V3}(hn:l.length=n)(h:n<=1000000000):(Nat.beq n (len (bL tV l))&&Nat.ble ((n+1)*24) room)=true:=by
 subst hn;rw[ya2,Qiab,Bool.true_and,Nat.ble_eq];unfold room;omega
theorem ae6 (x : List Int) (N : Nat) (h4 : 4 ≤ N) (h8 : N ≤ 8) (j0 : Int) (hj0 : 0 ≤ j0 ∧ j0 ≤ 10) :
  ∃idx out,lp (ba5 ⟨(N:Int)⟩) ⟨0,0,x,j0,0,[]⟩=(2,⟨1,(N:Int),x,idx,N,bL tV out⟩)/\out.length=N:=by
 have key:=R2 (step:=ba5 ⟨(N:Int)⟩) (mk:=λj (a:Int×List V3)=>(⟨phV a.2,(j:Int),x,a.1,a.2.length,bL tV a.2⟩:o4)) N
  (λj a=>a.2.length=j/\0<=a.1/\a.1<=10+4*j/\j<=N) (λt s=>t=2/\∃idx out,s=⟨1,(N:Int),x,idx,N,bL tV out⟩/\out.length=N) (by omega) (λj a hj ha=>?_) (λj a hj ha=>?_) 0 (j0,[]) ⟨rfl,hj0.1,by omega,by omega⟩
 ·obtain⟨t,s,e1,rfl,idx,out,e2,e3⟩:=key;exact⟨idx,out,by rw[<- e2];exact e1,e3⟩
 ·obtain⟨at0,out⟩:=a;obtain⟨ho,ha1,ha2,_⟩:=ha
  simp only at ho ha1 ha2
  have hn:=C4 hj (show N<=4611686018427387904 by omega)
  obtain⟨v1,j1,d1,_,_,c1,b1⟩:=Fa7 17 x at0 ha1 (by omega) (by omega) (by omega)
  obtain⟨v2,j2,d2,_,_,c2,b2⟩:=Fa7 17 x j1 (by omega) (by omega) (by omega) (by omega)
  obtain⟨v3,j3,d3,_,_,c3,b3⟩:=Fa7 17 x j2 (by omega) (by omega) (by omega) (by omega)
  obtain⟨v4,j4,d4,_,_,c4,b4⟩:=Fa7 6 x j3 (by omega) (by omega) (by omega) (by omega)
  have leaf : ∀ (E : Nat → Prop) (x1 x2 x3 : Int), Nx (.next (⟨1, ((j + 1 : Nat) : Int), x, j4, j + 1, bL tV (out ++ [⟨x1, x2, x3⟩])⟩ : o4)) E
    (λs=>∃a':Int×List V3,s=⟨phV a'.2,((j+1:Nat):Int),x,a'.1,a'.2.length,bL tV a'.2⟩/\a'.2.length=j+1/\0<=a'.1/\a'.1<=10+4*((j+1:Nat):Int)/\j+1<=N):=λE x1 x2 x3=>by
   have hl:(out++[(⟨x1,x2,x3⟩:V3)]).length=j+1:=by simp[ho]
   exact .nx ⟨(j4,out++[⟨x1,x2,x3⟩]),by simp only[ic0,hl],hl,by show 0<=j4;omega,by show j4<=_;omega,by omega⟩
  cases out with
  |nil =>
   have hj0':j=0:=by simpa using ho.symm
   subst hj0';show Nx (P2 Stp.next Stp.exit Stp.fail _ _) _ _;simp only[P2,r5,m9,d1,d2,d3,d4,hn];rw[btD (o9 hj)];have f1:decide (((0:Nat):Int)>1)=false:=rfl;have f2:decide (((0:Nat):Int)>0)=false:=rfl;have f3:decide (((0:Nat):Int)>2)=false:=rfl;have lf:∀(E:Nat->Prop) (x1 x2 x3:Int),Nx (.next (⟨1,((0+1:Nat):Int),x,j4,1,[[i x1,i x2,i x3]]⟩:o4)) E _:=leaf;simp only[f1,f2,f3,Pa3,Qiab,Qig,w6];refine Nx.sl (λ_=>?_) (λ_=>?_)<;>refine Nx.sl (λ_=>?_) (λ_=>?_)
   all_goals first
    |exact lf _ _ _ _
    |(refine Nx.sl (λ_=>?_) (λ_=>?_)<;>exact lf _ _ _ _)
  |cons o os =>
   have h1:1<=j:=by simp only[List.length_cons] at ho;omega
   generalize hO:o::os=O at *
   have hph:phV O=1:=by subst hO;rfl
   have w1:W ((j:Int)-1)=((j-1:Nat):Int):=by rw[J9 (by omega) (by omega)];omega
   have i1:inB ((j-1:Nat):Int) j=true:=i6 (by omega)
   have r1:=ae5 (l:=O) (m:=j-1) (by omega)
   have r1':=he9 (l:=O) (m:=j-1) (by omega)
   have rr:=Yc6 ho (by omega)
   have f2:∀{inst:Decidable ((j:Int)>0)},@decide ((j:Int)>0) inst=true:=decide_eq_true (by omega)
   show Nx (sel (Nat.beq (phV O) 1) (n7 Stp.next Stp.exit Stp.fail _ _) _) _ _;rw[hph];show Nx (n7 Stp.next Stp.exit Stp.fail _ _) _ _;by_cases h2:2<=j
   ·have w2:W ((j:Int)-2)=((j-2:Nat):Int):=by rw[J9 (by omega) (by omega)];omega
    have i2:inB ((j-2:Nat):Int) j=true:=i6 (by omega)
    have r2:=ae5 (l:=O) (m:=j-2) (by omega)
    simp only[n7,r5,m9,d1,d2,d3,d4,hn,ho,w1,w2,i1,i2,Int.toNat_natCast,r1,r1',r2,rr,db6];rw[btD (o9 hj)];simp only[Qiab,Qig,w6]
    repeat' (first | exact leaf _ _ _ _ | refine Nx.sl (λ_=>?_) (λ_=>?_))
   ·have hj1:j=1:=by omega
    subst hj1;simp only[n7,r5,m9,d1,d2,d3,d4,hn,ho,w1,i1,Int.toNat_natCast,r1,r1',rr,db6];have f1:decide (((1:Nat):Int)>1)=false:=rfl;rw[btD (o9 hj)];simp only[f1,Pa3,Qiab,Qig,w6]
    repeat' (first | exact leaf _ _ _ _ | refine Nx.sl (λ_=>?_) (λ_=>?_))
 ·obtain⟨at0,out⟩:=a;obtain⟨ho,ha1,ha2,hjN⟩:=ha
  simp only at ho ha1 ha2
  have hj':j=N:=by omega
  subst hj';cases out with
  |nil=>simp only[List.length_nil] at ho;omega
  |cons o os =>
   refine⟨2,?_,rfl,at0,o::os,by rw[ho];rfl,ho⟩
   show n7 Stp.next Stp.exit Stp.fail _ _=_;simp only[n7];rw[bfD (by omega)]
theorem Nc0{l:List V3}{n:Nat}{r:List (List b7)}{P:List V3->Prop}(hn:n=l.length)(hr:r=bL tV l)(h:P l):Rd (one (r1L tV)) (some (.sl 0 0 n 0,[⟨25,3,r,true,false,0⟩])) P:=by
 subst hn hr;refine⟨_,l,rfl,?_,h⟩;show Bool.rec (motive:=λ_=>Option (List V3)) none (some (slR tV (bL tV l) 0 l.length)) (Bool.and true (okS tV (bL tV l) 0 l.length))=_
 rw[ob6,Db2];rfl
theorem Ec8(x:List Int):Rd (one (r1L tV)) (ha5 x) (λr=>4<=r.length/\r.length<=8):=by
 obtain⟨v,j,e1,a1,b1,c1,d1⟩:=Fa7 5 x 0 (by omega) (by omega) (by omega) (by omega)
 have hN:W (4+v)=(((4+v).toNat:Nat):Int):=by rw[J9 (by omega) (by omega)];omega
 obtain⟨idx,out,e2,e3⟩:=ae6 x (4+v).toNat (by omega) (by omega) j (by omega)
 unfold ha5;simp only[r5,m9,e1,hN,e2];have h4:4<=(4+v).toNat:=by omega
 have h8:(4+v).toNat<=8:=by omega
 generalize (4+v).toNat=N at *
 have s1:lsL tV N (λk=>i7 (bL tV out) (0+k))=out:=by rw[<- e3];exact ob6 tV out
 have s2:okL tV N (λk=>i7 (bL tV out) (0+k))=true:=by rw[<- e3];exact Db2 tV out
 have gf:Da0 out=true:=Ld2 out (by omega)
 rw[s1,s2,gf];simp only[Qiab,Qig,w6,show Nat.beq 2 1=false from rfl,Pa3]
 refine Rd.sl (λ_=>?_) λ_=>Nc0 e3.symm rfl ⟨by omega,by omega⟩
 have i0:inB 0 N=true:=i6 (j:=0) (by omega)
 have i1:inB 1 N=true:=i6 (j:=1) (by omega)
 have i2:inB 2 N=true:=i6 (j:=2) (by omega)
 have i3:inB 3 N=true:=i6 (j:=3) (by omega)
 have sp:∀(v:V3) (x1 x2 x3:Int),O2 (tV.row v) 0 [i x1,i x2,i x3]=tV.row ⟨x1,x2,x3⟩:=λ_ _ _ _=>rfl
 have rl:∀v:V3,Nat.ble (0+3) (len (tV.row v))=true:=λ_=>rfl
 have ck:∀v:V3,ma1 [CK.int .i64,CK.int .i64,CK.int .i64] (i5 (tV.row v) 0)=true:=λ_=>rfl
 have gr:∀(l:List V3) (k:Nat),l.length=N->k<4->i7 (bL tV l) k=tV.row (gL tV l k):=λl k hl hk=>N5 tV (by omega)
 have bl:∀(l:List V3) (k:Nat),l.length=N->k<4->Nat.blt k (len (bL tV l))=true:=λl k hl hk=>by rw[ya2,Nat.blt_eq];omega
 have ls:∀(l:List V3) (k:Nat) (v:V3),l.length=N->(l.set k v).length=N:=λl k v hl=>by rw[Qial];exact hl
 rw[gr out 0 e3 (by omega),gr out 1 e3 (by omega)]
 simp only[sp,Ga5];rw[gr _ 2 (ls out 1 _ e3) (by omega)]
 simp only[sp,Ga5];rw[gr _ 3 (ls _ 2 _ (ls out 1 _ e3)) (by omega)]
 simp only[sp,Ga5,rl,ck,i0,i1,i2,i3,bl out 0 e3 (by omega),bl out 1 e3 (by omega),bl _ 2 (ls out 1 _ e3) (by omega),bl _ 3 (ls _ 2 _ (ls out 1 _ e3)) (by omega),Qig,w6]
 exact Nc0 (by simp only[Qial];omega) rfl (by simp only[Qial];omega)
theorem Ld3(x:List Int):La0 x=true:=(Ec8 x).g
theorem Yc7(x:List Int):4<=(o7 x).length/\(o7 x).length<=8:=(Ec8 x).p
theorem rb4(v:V3):P1 v=inV v/\J5 v=true:=by
 have h3:[v.x,v.y,v.z].length<=1000000000:=by simp
 have:Qa4 v=some (b (inV v),[]):=by
  unfold Qa4 inV;simp only[Ub7 24 _ (by omega) h3,Ub8 24 _ (by omega) h3,w6]
  simp only[List.all_cons,List.all_nil,Qig]
 unfold P1 J5;rw[this];exact⟨rfl,rfl⟩
noncomputable def has(c:List Pln)(v:V3):Bool:=(chk c==0)&&(inV v&&inn c ⟨v.x,v.y,v.z,1⟩)
noncomputable def apart(a c:List Pln):Bool:=!((chk a==0)&&(chk c==0))||!ae2 (a++c++ws)
noncomputable def pe2(a c:List Pln):Bool:=ful a&&((chk c==0)&&(pts a).all (inn c))
noncomputable def onc(X:List Pt)(p:Pln):Nat:=X.countP λx=>rm p x==0
noncomputable def keep(X:List Pt)(p:Pln):Bool:=!decide ((onc X p:Int)<3)
theorem Mb5{α:Type}(c:α->Bool):∀l:List α,(l.take (l.findIdx c)).filter (λx=>!c x)=l.take (l.findIdx c)
 |[]=>rfl
 |x::l=>by
  rw[List.findIdx_cons];cases h:c x with
  |true=>rfl
  |false =>
   simp only[cond_false,List.take_succ_cons,List.filter_cons,h,Bool.not_false,if_true];rw[Mb5 c l]
theorem kd1{α:Type}(l:List α)(j:Nat)(h:j<l.length):l.take (j+1)=l.take j++[l[j]]:=by rw[List.take_succ_eq_append_getElem h]
theorem Ma5{α:Type}(t:Ty α){l:List α}{j:Nat}(h:j<l.length):l.take (j+1)=l.take j++[gL t l j]:=by rw[kd1 l j h,kb3 t h]
theorem Vb0{α:Type}(t:Ty α){l r:List α}{j:Nat}(h:l.drop j=r.drop j):gL t l j=gL t r j:=by
 have h1:=qd1 t l j 0;have h2:=qd1 t r j 0;rw[Nat.add_zero] at h1 h2;rw[<- h1,<- h2,h]
theorem Mb6{α:Type}{l r:List α}{j:Nat}(h:l.drop j=r.drop j)(k:Nat):l.drop (j+k)=r.drop (j+k):=by rw[<- List.drop_drop,<- List.drop_drop,h]
structure Del(l:List Pln)(f:Pln->Bool)(cur:List Pln)(m j:Nat):Prop where
 len:cur.length=l.length
 t:cur.take m=(l.take j).filter f
 d:cur.drop j=l.drop j
 le:m<=j
 lm:m<=l.length
theorem ae7(l:List Pln)(n:Nat):i5 (bL tP l) n=bL tP (l.drop n):=by unfold bL;rw[D9,l5,l5,List.map_drop]
def eqP(x y:Pln):Bool:=x.n.x==y.n.x&&(x.n.y==y.n.y&&(x.n.z==y.n.z&&(x.b==y.b&&true)))
theorem Mb7(x y:Pln):eqP x y=true↔x=y:=by
 unfold eqP;simp only[Qig,Qid,beq_iff_eq];refine⟨λ⟨h1,h2,h3,h4⟩=>?_,λh=>by subst h;exact⟨rfl,rfl,rfl,rfl⟩⟩
 obtain⟨⟨x1,x2,x3⟩,x4⟩:=x;obtain⟨⟨y1,y2,y3⟩,y4⟩:=y
 simp only at h1 h2 h3 h4
 subst h1 h2 h3 h4;rfl
def ddF:Pln->List Pln->List Pln
 |_,[]=>[]
 |a,x::l=>if eqP x a then ddF x l else x::ddF x l
def dd:List Pln->List Pln
 |[]=>[]
 |x::l=>x::ddF x l
structure Cmp(l:List Pln)(n:Nat)(cur:List Pln)(m j:Nat)(R:List Pln):Prop where
 len:cur.length=l.length
 t:cur.take m++ddF (gL tP l (j-1)) ((l.take n).drop j)=R
 d:cur.drop (j-1)=l.drop (j-1)
 le:m+1<=j
theorem Ld4(l:List Pln)(n:Nat)(hn:n<=l.length):slR tP (bL tP l) 0 n=l.take n:=Qb3 tP (by rw[List.length_take];omega) λk hk=>by
 rw[Qiaj,N5 tP (by omega)]
 congr 1;simp[gL,Qiah,List.getElem?_take,hk]
theorem Ld5(l:List Pln)(n:Nat)(hn:n<=l.length):okS tP (bL tP l) 0 n=true:=Xa9 tP (f:=λk=>gL tP l k) λk hk=>by rw[Qiaj,N5 tP (by omega)]
end Go.Ev.Ce
namespace Go.Ev.Ce
open Go Go.Ev Go.Ev.L Go.Proofs Go.Sort
theorem rc8(l:List Pln):List.Perm (yb2 l) l:=List.mergeSort_perm l _
theorem zd5(x y z:Pln)(h1:(!ltOf Ya3 y x)=true)(h2:(!ltOf Ya3 z y)=true):(!ltOf Ya3 z x)=true:=by
 simp only[Qiz,Ca7,decide_eq_false_iff_not] at *
 unfold LtP at *
 omega
theorem zd6(x y:Pln):((!ltOf Ya3 y x)||!ltOf Ya3 x y)=true:=by
 simp only[Bool.or_eq_true,Qiz,Ca7,decide_eq_false_iff_not];unfold LtP;omega
theorem Nc1(l:List Pln):(yb2 l).Pairwise λx y=>(!ltOf Ya3 y x)=true:=List.pairwise_mergeSort zd5 zd6 l
instance:DecidableEq Pln:=λx y=>decidable_of_iff _ (Mb7 x y)
def PC:List Pt:=[⟨0,0,0,1⟩,⟨0,0,1,4⟩,⟨0,1,0,3⟩,⟨1,0,0,2⟩]
end Go.Ev.Ce
namespace Go.Ev.Ce
open Go Go.Ev Go.Ev.L Go.Proofs
set_option maxRecDepth 100000
structure wb8 where
structure rb5 where
structure rb6 where
structure wb9 where
 alt:Nat
structure Vb1 where
structure Mb8 where
structure Mb9 where
structure Vb2 where
 alt:Nat
structure zc0 where
structure zc1 where
 alt:Nat
def Ha4(l:List Pln):Prop:=l.Pairwise LtP
theorem Ec9{x y z:Pln}(h1:LtP x y)(h2:LtP y z):LtP x z:=by unfold LtP at *;omega
theorem ic1(x:Pln):¬ LtP x x:=by unfold LtP;omega
theorem qd4(x y:Pln):LtP x y\/x=y\/LtP y x:=by
 by_cases h1:LtP x y
 ·exact .inl h1
 ·by_cases h2:LtP y x
  ·exact .inr (.inr h2)
  ·refine .inr (.inl ?_);unfold LtP at h1 h2;have e1:x.n.x=y.n.x:=by omega
   have e2:x.n.y=y.n.y:=by omega
   have e3:x.n.z=y.n.z:=by omega
   have e4:x.b=y.b:=by omega
   cases x with | mk n b=>cases y with | mk m c=>cases n;cases m;simp_all
theorem Vb3:∀{l r:List Pln},Ha4 l->Ha4 r->(∀p,p∈l↔p∈r)->l=r
 |[],[],_,_,_=>rfl
 |[],b::r,_,_,h=>by have:=(h b).2 Qic;cases this
 |a::l,[],_,_,h=>by have:=(h a).1 Qic;cases this
 |a::l,b::r,hl,hr,h=>by
  obtain⟨hl1,hl2⟩:=Qis.1 hl;obtain⟨hr1,hr2⟩:=Qis.1 hr;have hab:a=b:=by
   rcases Qia.1 ((h a).1 Qic) with e|h1
   ·exact e
   ·rcases Qia.1 ((h b).2 Qic) with e|h2
    ·exact e.symm
    ·exact absurd (Ec9 (hr1 a h1) (hl1 b h2)) (ic1 b)
  subst hab;rw[Vb3 hl2 hr2 λp=>?_]
  constructor
  ·intro hp
   rcases Qia.1 ((h p).1 (Qib _ hp)) with e|h1
   ·subst e;exact absurd (hl1 p hp) (ic1 p)
   ·exact h1
  ·intro hp
   rcases Qia.1 ((h p).2 (Qib _ hp)) with e|h1
   ·subst e;exact absurd (hr1 p hp) (ic1 p)
   ·exact h1
def Nc2:List Pln->Pln->List Pln
 |[],y=>[y]
 |a::l,y=>if Ya3 a y<0 then a::Nc2 l y else if eqP a y then a::l else y::a::l
theorem rb7(y p:Pln):∀x,p∈Nc2 x y↔p=y\/p∈x
 |[]=>by simp[Nc2]
 |a::l=>by
  unfold Nc2;have ih:=rb7 y p l;split
  ·simp only[Qia,ih];constructor
   ·rintro (h|h|h)
    ·exact .inr (.inl h)
    ·exact .inl h
    ·exact .inr (.inr h)
   ·rintro (h|h|h)
    ·exact .inr (.inl h)
    ·exact .inl h
    ·exact .inr (.inr h)
  ·split
   ·rename_i h;rw[Mb7] at h;subst h;simp only[Qia];constructor
    ·exact λh=>.inr h
    ·rintro (h|h)
     ·exact .inl h
     ·exact h
   ·simp only[Qia]
theorem Nb0(y:Pln):∀{x},Ha4 x->Ha4 (Nc2 x y)
 |[],_=>List.pairwise_singleton _ _
 |a::l,h=>by
  obtain⟨h1,h2⟩:=Qis.1 h;unfold Nc2;split
  ·rename_i hc;rw[Mc0] at hc;refine Qis.2 ⟨λp hp=>?_,Nb0 y h2⟩
   rcases (rb7 y p l).1 hp with e|hp
   ·subst e;exact hc
   ·exact h1 p hp
  ·rename_i hc;rw[Mc0] at hc;split
   ·exact h
   ·rename_i hne;have hlt:LtP y a:=by
     rcases qd4 y a with h|h|h
     ·exact h
     ·exact absurd ((Mb7 _ _).2 h.symm) hne
     ·exact absurd h hc
    refine Qis.2 ⟨λp hp=>?_,h⟩
    rcases Qia.1 hp with e|hp
    ·subst e;exact hlt
    ·exact Ec9 hlt (h1 p hp)
theorem qd5{σ:Type}{step:σ->Stp σ}{s:σ}{t:Nat}(h:step s=.exit t):lp step s=(t,s):=by rw[Fd5];exact lc9 h
theorem zd7:yb2 []=[]:=List.eq_nil_of_length_eq_zero (ub9 [])
end Go.Ev.Ce
namespace Go.Ev.Ce
def rmZ(p:Pln)(x:Pt):Int:=p.b*x.pw-(p.n.x*x.px+p.n.y*x.py+p.n.z*x.pz)
structure Inr(r:List Pln)(x:Pt):Prop where
 w:0<x.pw
 h:∀p∈r,0<=rmZ p x
def Y5(p:Pln):Pln:=⟨⟨-p.n.x,-p.n.y,-p.n.z⟩,-p.b⟩
theorem Sa7(p:Pln)(x:Pt):rmZ (Y5 p) x=-rmZ p x:=by unfold rmZ Y5;grind
structure Cn(r:List Pln)(x:Pt):Prop extends Inr r x where
 c:∃p q s,p∈r/\q∈r/\s∈r/\mw p q s≠0/\rmZ p x=0/\rmZ q x=0/\rmZ s x=0
def Bdd(r:List Pln):Prop:=∀d:V3,d≠⟨0,0,0⟩->∃p∈r,0<dot p.n d
def go(x:Pt)(q:Pln)(d:V3):Pt:=⟨x.px*dot q.n d+rmZ q x*d.x,x.py*dot q.n d+rmZ q x*d.y,x.pz*dot q.n d+rmZ q x*d.z,x.pw*dot q.n d⟩
theorem Yc8(p q:Pln)(x:Pt)(d:V3):rmZ p (go x q d)=dot q.n d*rmZ p x-rmZ q x*dot p.n d:=by simp only[rmZ,go,dot];grind
theorem Fa8{a b c:Int}(hc:0<c)(h:a*c<=b*c):a<=b:=Int.le_of_mul_le_mul_right h hc
theorem first(x:Pt)(d:V3):∀r:List Pln,(∀p∈r,0<=rmZ p x)->(∃p∈r,0<dot p.n d)->∃q∈r,0<dot q.n d/\∀p∈r,0<dot p.n d->rmZ q x*dot p.n d<=rmZ p x*dot q.n d
 |[],_,h=>by obtain⟨p,hp,_⟩:=h;cases hp
 |a::r,hx,h=>by
  by_cases hr:∃p∈r,0<dot p.n d
  ·obtain⟨q,hq,h1,h2⟩:=first x d r (λp hp=>hx p (Qib _ hp)) hr
   by_cases ha:0<dot a.n d
   ·by_cases hc:rmZ q x*dot a.n d<=rmZ a x*dot q.n d
    ·refine⟨q,Qib _ hq,h1,λp hp h3=>?_⟩
     rcases Qia.1 hp with rfl|hp
     ·exact hc
     ·exact h2 p hp h3
    ·refine⟨a,Qic,ha,λp hp h3=>?_⟩
     rcases Qia.1 hp with rfl|hp
     ·exact Int.le_refl _
     ·have h4:=h2 p hp h3;have h5:rmZ a x*dot q.n d<rmZ q x*dot a.n d:=by omega
      have h6:=Qit h4 (Qie ha);have h7:=Int.mul_lt_mul_of_pos_right h5 h3;have e1:rmZ q x*dot p.n d*dot a.n d=rmZ q x*dot a.n d*dot p.n d:=by grind
      have e2:rmZ a x*dot q.n d*dot p.n d=rmZ a x*dot p.n d*dot q.n d:=by grind
      have e3:rmZ p x*dot q.n d*dot a.n d=rmZ p x*dot a.n d*dot q.n d:=by grind
      refine Fa8 h1 ?_;omega
   ·refine⟨q,Qib _ hq,h1,λp hp h3=>?_⟩
    rcases Qia.1 hp with rfl|hp
    ·exact absurd h3 ha
    ·exact h2 p hp h3
  ·have ha : 0 < dot a.n d := by
    obtain⟨p,hp,h3⟩:=h
    rcases Qia.1 hp with rfl|hp
    ·exact h3
    ·exact absurd ⟨p,hp,h3⟩ hr
   refine⟨a,Qic,ha,λp hp h3=>?_⟩
   rcases Qia.1 hp with rfl|hp
   ·exact Int.le_refl _
   ·exact absurd ⟨p,hp,h3⟩ hr
theorem step{r:List Pln}{x:Pt}(hx:Inr r x)(d:V3)(h:∃p∈r,0<dot p.n d):∃q∈r,0<dot q.n d/\Inr r (go x q d):=by
 obtain⟨q,hq,h1,h2⟩:=first x d r hx.h h;refine⟨q,hq,h1,⟨Qir hx.w h1,λp hp=>?_⟩⟩
 rw[Yc8];have h3:=hx.h p hp;have h4:=hx.h q hq;by_cases h5:0<dot p.n d
 ·have:=h2 p hp h5
  have e:rmZ p x*dot q.n d=dot q.n d*rmZ p x:=Int.mul_comm _ _;omega
 ·have h6:=Qih (Qie h1) h3;have h7:rmZ q x*dot p.n d<=0:=Int.mul_nonpos_of_nonneg_of_nonpos h4 (by omega)
  omega
theorem Ld6{h q:Pln}{x:Pt}{d:V3}(h1:0<=rmZ q x)(h2:0<=dot h.n d):rmZ h (go x q d)*x.pw<=rmZ h x*(go x q d).pw\/x.pw<=0:=by
 rcases Int.lt_or_le 0 x.pw with hw|hw
 ·left;rw[Yc8]
  have:=Qih h1 h2
  have h3:=Qih this (Qie hw);have e:rmZ h x*(go x q d).pw=dot q.n d*rmZ h x*x.pw:=by unfold go;grind
  have e2:(dot q.n d*rmZ h x-rmZ q x*dot h.n d)*x.pw=dot q.n d*rmZ h x*x.pw-rmZ q x*dot h.n d*x.pw:=by grind
  omega
 ·exact .inr hw
def neg(d:V3):V3:=⟨-d.x,-d.y,-d.z⟩
theorem ic2(a d:V3):dot a (neg d)=-dot a d:=by unfold dot neg;grind
theorem Nc3{d:V3}(h:d≠⟨0,0,0⟩):neg d≠⟨0,0,0⟩:=λh'=>h (by
 cases d;unfold neg at h';simp only[V3.mk.injEq] at h' ⊢;omega)
theorem turn(h:Pln){d:V3}(hd:d≠⟨0,0,0⟩):∃e,e≠(⟨0,0,0⟩:V3)/\0<=dot h.n e/\∀a,dot a d=0->dot a e=0:=by
 by_cases h1:0<=dot h.n d
 ·exact⟨d,hd,h1,λ_ h=>h⟩
 ·exact⟨neg d,Nc3 hd,by rw[ic2];omega,λa h=>by rw[ic2,h];rfl⟩
theorem perp{n:V3}(hn:n≠⟨0,0,0⟩):∃d,d≠(⟨0,0,0⟩:V3)/\dot n d=0:=by
 by_cases h:n.x=0/\n.y=0
 ·exact⟨⟨1,0,0⟩,by simp,by unfold dot;simp[h.1]⟩
 ·refine⟨⟨n.y,-n.x,0⟩,λh'=>h ?_,by unfold dot;grind⟩
  simp only[V3.mk.injEq] at h';omega
theorem V3.ext'{a b:V3}(h1:a.x=b.x)(h2:a.y=b.y)(h3:a.z=b.z):a=b:=by cases a;cases b;simp_all
theorem Yc9{m n d:V3}(hm:m≠⟨0,0,0⟩)(h1:dot m d=0)(h2:dot n d≠0):c7 m n≠⟨0,0,0⟩:=λh=>by
 unfold c7 at h;simp only[V3.mk.injEq] at h;obtain⟨c1,c2,c3⟩:=h;unfold dot at h1 h2;have e1:m.x*(n.x*d.x+n.y*d.y+n.z*d.z)=0:=by grind
 have e2:m.y*(n.x*d.x+n.y*d.y+n.z*d.z)=0:=by grind
 have e3:m.z*(n.x*d.x+n.y*d.y+n.z*d.z)=0:=by grind
 have k:∀{a:Int},a*(n.x*d.x+n.y*d.y+n.z*d.z)=0->a=0:=λh=>(Qif.1 h).resolve_right h2
 exact hm (V3.ext' (k e1) (k e2) (k e3))
theorem Yb7(a b:V3):dot a (c7 a b)=0:=by unfold dot c7;grind
theorem Yb8(a b:V3):dot b (c7 a b)=0:=by unfold dot c7;grind
theorem Ld7{p q:Pln}{x:Pt}{d:V3}(h:rmZ p x=0)(h':dot p.n d=0):rmZ p (go x q d)=0:=by rw[Yc8,h,h'];simp
theorem Ld8(q:Pln)(x:Pt)(d:V3):rmZ q (go x q d)=0:=by rw[Yc8];grind
theorem ye9{q:Pln}{d:V3}(h:0<dot q.n d):q.n≠⟨0,0,0⟩:=λh'=>by rw[h'] at h;unfold dot at h;simp at h
theorem ie0{a b c u v w:Int}(hu:0<u)(hv:0<v)(hw:0<w)(h1:a*v<=b*u)(h2:b*w<=c*v):a*w<=c*u:=by
 have h3:=Qit h1 (Qie hw);have h4:=Qit h2 (Qie hu);have e1:a*v*w=a*w*v:=by grind
 have e2:b*u*w=b*w*u:=by grind
 have e3:c*v*u=c*u*v:=by grind
 exact Fa8 hv (by omega)
theorem kd2{r:List Pln}(hb:Bdd r)(h:Pln){x:Pt}(hx:Inr r x):∃v,Cn r v/\rmZ h v*x.pw<=rmZ h x*v.pw:=by
 obtain⟨d0,n0,p0,_⟩:=turn h (d:=⟨1,0,0⟩) (by simp)
 obtain⟨q1,m1,k1,i1⟩:=step hx d0 (hb d0 n0);have l1:=(Ld6 (h:=h) (x:=x) (hx.h q1 m1) p0).resolve_right (by have:=hx.w;omega)
 obtain⟨e1,ne1,he1⟩:=perp (ye9 k1);obtain⟨d1,n1,p1,z1⟩:=turn h ne1;obtain⟨q2,m2,k2,i2⟩:=step i1 d1 (hb d1 n1);have l2:=(Ld6 (h:=h) (x:=go x q1 d0) (i1.h q2 m2) p1).resolve_right (by have:=i1.w;omega)
 have hc:=Yc9 (ye9 k1) (z1 _ he1) (n:=q2.n) (by omega)
 obtain⟨d2,n2,p2,z2⟩:=turn h hc;obtain⟨q3,m3,k3,i3⟩:=step i2 d2 (hb d2 n2);have l3:=(Ld6 (h:=h) (x:=go (go x q1 d0) q2 d1) (i2.h q3 m3) p2).resolve_right (by have:=i2.w;omega)
 have a1:rmZ q1 (go (go x q1 d0) q2 d1)=0:=Ld7 (Ld8 _ _ _) (z1 _ he1);refine⟨_,⟨i3,q3,q1,q2,m3,m1,m2,λh0=>?_,Ld8 _ _ _,Ld7 a1 (z2 _ (Yb7 _ _)),Ld7 (Ld8 _ _ _) (z2 _ (Yb8 _ _))⟩,?_⟩
 ·have:dot q3.n d2=0:=z2 _ h0
  omega
 ·exact ie0 i3.w i2.w hx.w l3 (ie0 i2.w i1.w hx.w l2 l1)
theorem ka1{r:List Pln}(hb:Bdd r){h:Pln}(hv:∀v,Cn r v->0<=rmZ h v){x:Pt}(hx:Inr r x):0<=rmZ h x:=by
 obtain⟨v,h1,h2⟩:=kd2 hb h hx;have h3:=Qih (hv v h1) (Qie hx.w);exact Fa8 h1.w (by rw[Qiy];omega)
def mid(x y:Pt):Pt:=⟨x.px*y.pw+y.px*x.pw,x.py*y.pw+y.py*x.pw,x.pz*y.pw+y.pz*x.pw,2*(x.pw*y.pw)⟩
theorem Ld9(p:Pln)(x y:Pt):rmZ p (mid x y)=rmZ p x*y.pw+rmZ p y*x.pw:=by unfold rmZ mid;grind
theorem Inr.mid{r:List Pln}{x y:Pt}(hx:Inr r x)(hy:Inr r y):Inr r (mid x y):=⟨by unfold Ce.mid;exact Qir (by decide) (Qir hx.w hy.w),λp hp=>by
 rw[Ld9];exact Int.add_nonneg (Qih (hx.h p hp) (Qie hy.w)) (Qih (hy.h p hp) (Qie hx.w))⟩
def Md0(r:List Pln):Prop:=∃x:Pt,0<x.pw/\∀p∈r,0<rmZ p x
theorem qd6{r:List Pln}:∀(l:List Pln),(∀p∈l,p∈r)->(∃x,Inr r x)->(∀p∈l,∃v,Inr r v/\0<rmZ p v)->∃x,Inr r x/\∀p∈l,0<rmZ p x
 |[],_,h,_=>by obtain⟨x,h⟩:=h;exact⟨x,h,λp hp=>by cases hp⟩
 |a::l,hl,h,hv=>by
  obtain⟨x,h1,h2⟩:=qd6 l (λp hp=>hl p (Qib _ hp)) h (λp hp=>hv p (Qib _ hp))
  obtain⟨y,h3,h4⟩:=hv a Qic;refine⟨mid x y,h1.mid h3,λp hp=>?_⟩
  rw[Ld9]
  rcases Qia.1 hp with rfl|hp
  ·have:=Qih (h1.h p (hl p Qic)) (Qie h3.w)
   have:=Qir h4 h1.w
   omega
  ·have:=Qir (h2 p hp) h3.w
   have:=Qih (h3.h p (hl p (Qib _ hp))) (Qie h1.w)
   omega
theorem Md1{r:List Pln}(hb:Bdd r)(h0:r≠[]):Md0 r↔∀p∈r,∃v,Cn r v/\0<rmZ p v:=by
 constructor
 ·intro ⟨x,hw,hx⟩ p hp;by_cases h:∃v,Cn r v/\0<rmZ p v
  ·exact h
  ·have hx':Inr r x:=⟨hw,λq hq=>Qie (hx q hq)⟩
   have:=ka1 hb (h:=Y5 p) (λv hv=>by
    rw[Sa7]
    have:¬ 0<rmZ p v:=λh'=>h ⟨v,hv,h'⟩
    omega) hx'
   rw[Sa7] at this
   have:=hx p hp
   omega
 ·intro h;obtain⟨p,hp⟩:=List.exists_mem_of_ne_nil r h0;obtain⟨v,hv,_⟩:=h p hp;obtain⟨x,h1,h2⟩:=qd6 r (λ_ h=>h) ⟨v,hv.toInr⟩ λp hp=>by
   obtain⟨v,hv,h⟩:=h p hp;exact⟨v,hv.toInr,h⟩
  exact⟨x,h1.w,h2⟩
structure Eqv(x v:Pt):Prop where
 e1:x.px*v.pw=v.px*x.pw
 e2:x.py*v.pw=v.py*x.pw
 e3:x.pz*v.pw=v.pz*x.pw
theorem Eqv.rm{x v:Pt}(h:Eqv x v)(p:Pln):rmZ p x*v.pw=rmZ p v*x.pw:=by
 obtain⟨e1,e2,e3⟩:=h;unfold rmZ
 grind
theorem Eqv.inr{r:List Pln}{x v:Pt}(h:Eqv x v)(hw:0<x.pw)(hv:Inr r v):Inr r x:=⟨hw,λp hp=>by
 have:=h.rm p
 have h2:=Qih (hv.h p hp) (Qie hw);exact Fa8 hv.w (by rw[Qiy];omega)⟩
end Go.Ev.Ce
namespace Go.Ev.Ce
open Go Go.Ev Go.Ev.L Go.Proofs
theorem ae8{p:Pln}{x:Pt}(hp:Bd p)(hx:Okx x):rm p x=rmZ p x:=by
 unfold rm rmZ;obtain⟨w1,w2,⟨a1,a2⟩,⟨a3,a4⟩,a5,a6⟩:=hx;have h0:=mb hp.b1 hp.b2 (show -600000000000<=x.pw by omega) w2
 have h1:=mb hp.x1 hp.x2 a1 a2;have h2:=mb hp.y1 hp.y2 a3 a4;have h3:=mb hp.z1 hp.z2 a5 a6;exact J9 (by omega) (by omega)
theorem qd7{r:List Pln}(hb:Bds r){x:Pt}(hx:Okx x):inn r x=true↔Inr r x:=by
 unfold inn;rw[Qio];constructor
 ·intro h;refine⟨hx.w1,λp hp=>?_⟩
  have:=h p hp
  rw[ae8 (hb p hp) hx] at this;simpa using this
 ·intro h p hp;rw[ae8 (hb p hp) hx];simpa using h.h p hp
theorem ie1{p q s:Pln}(h:(mpt p q s).2=true):mw p q s≠0/\∃k:Int,k≠0/\k*(mpt p q s).1.px=(mv p q s).x/\k*(mpt p q s).1.py=(mv p q s).y/\k*(mpt p q s).1.pz=(mv p q s).z/\k*(mpt p q s).1.pw=mw p q s:=by
 unfold mpt at h ⊢;by_cases h0:mw p q s=0
 ·rw[if_pos h0] at h;cases h
 refine⟨h0,?_⟩;have hg:=jd8 (v:=mv p q s) h0;have dv:∀{x:Int},(gc (mv p q s) (mw p q s))∣x->gc (mv p q s) (mw p q s)*Int.tdiv x (gc (mv p q s) (mw p q s))=x:=λh=>Qiv h
 have d1:gc (mv p q s) (mw p q s)∣(mv p q s).x:=by
  rw[<- Qiu];exact Qim.2 (Qin (Qil _ _) (Qil _ _))
 have d2:gc (mv p q s) (mw p q s)∣(mv p q s).y:=by
  rw[<- Qiu];exact Qim.2 (Qin (Qil _ _) (Qij _ _))
 have d3:gc (mv p q s) (mw p q s)∣(mv p q s).z:=by
  rw[<- Qiu];exact Qim.2 (Qin (Qij _ _) (Qil _ _))
 have d4:gc (mv p q s) (mw p q s)∣mw p q s:=by
  rw[<- Qiu];exact Qim.2 (Qin (Qij _ _) (Qij _ _))
 rw[if_neg h0];by_cases h1:mw p q s<0
 ·rw[if_pos h1];have e:∀{x:Int},(gc (mv p q s) (mw p q s))∣x->-(gc (mv p q s) (mw p q s))*Int.tdiv (-x) (gc (mv p q s) (mw p q s))=x:=λ{x} h=>by
   rw[Int.neg_mul,dv ((Int.dvd_neg).2 h),Int.neg_neg]
  exact⟨-(gc (mv p q s) (mw p q s)),by omega,e d1,e d2,e d3,e d4⟩
 ·rw[if_neg h1];exact⟨gc (mv p q s) (mw p q s),by omega,dv d1,dv d2,dv d3,dv d4⟩
theorem Md2{p q s:Pln}(h:(mpt p q s).2=true):rmZ p (mpt p q s).1=0/\rmZ q (mpt p q s).1=0/\rmZ s (mpt p q s).1=0:=by
 obtain⟨_,k,hk,e1,e2,e3,e4⟩:=ie1 h;generalize (mpt p q s).1=x at *
 have f:∀a:Pln,a.b*mw p q s-(a.n.x*(mv p q s).x+a.n.y*(mv p q s).y+a.n.z*(mv p q s).z)=0->rmZ a x=0:=λa ha=>by
  rw[<- e1,<- e2,<- e3,<- e4] at ha
  have:k*rmZ a x=0:=by rw[<- ha];unfold rmZ;grind
  exact (Qif.1 this).resolve_left hk
 refine⟨f p ?_,f q ?_,f s ?_⟩<;>(simp only[mw,mv,dot,c7];grind)
theorem ae9{p q s:Pln}(h:mw p q s≠0):(mpt p q s).2=true:=by
 unfold mpt;rw[if_neg h]
 split<;>rfl
theorem Md3{p q s:Pln}{x:Pt}(h1:rmZ p x=0)(h2:rmZ q x=0)(h3:rmZ s x=0):mw p q s*x.px=(mv p q s).x*x.pw/\mw p q s*x.py=(mv p q s).y*x.pw/\mw p q s*x.pz=(mv p q s).z*x.pw:=by
 have i1:(mv p q s).x*x.pw-mw p q s*x.px=(c7 q.n s.n).x*rmZ p x+(c7 s.n p.n).x*rmZ q x+(c7 p.n q.n).x*rmZ s x:=by simp only[mw,mv,dot,c7,rmZ];grind
 have i2:(mv p q s).y*x.pw-mw p q s*x.py=(c7 q.n s.n).y*rmZ p x+(c7 s.n p.n).y*rmZ q x+(c7 p.n q.n).y*rmZ s x:=by simp only[mw,mv,dot,c7,rmZ];grind
 have i3:(mv p q s).z*x.pw-mw p q s*x.pz=(c7 q.n s.n).z*rmZ p x+(c7 s.n p.n).z*rmZ q x+(c7 p.n q.n).z*rmZ s x:=by simp only[mw,mv,dot,c7,rmZ];grind
 rw[h1,h2,h3] at i1 i2 i3;simp only[Qiak,Int.add_zero] at i1 i2 i3;omega
theorem pe3{p q s:Pln}{x v:Pt}(h:mw p q s≠0)(h1:rmZ p x=0)(h2:rmZ q x=0)(h3:rmZ s x=0)(k1:rmZ p v=0)(k2:rmZ q v=0)(k3:rmZ s v=0):Eqv x v:=by
 obtain⟨a1,a2,a3⟩:=Md3 h1 h2 h3;obtain⟨c1,c2,c3⟩:=Md3 k1 k2 k3;have f:∀{a c m:Int},mw p q s*a=m*x.pw->mw p q s*c=m*v.pw->a*v.pw=c*x.pw:=λ{a c m} ha hc=>by
  have:mw p q s*(a*v.pw-c*x.pw)=0:=by grind
  have:=(Qif.1 this).resolve_left h
  omega
 exact⟨f a1 c1,f a2 c2,f a3 c3⟩
theorem zd8{r:List Pln}{p q:Pln}{out:List Pt}{s:Pln}{x:Pt}(h:x∈out):x∈Mb4 r p q out s:=by
 unfold Mb4;split
 ·exact Qiac _ h
 ·exact h
theorem rc9{r:List Pln}{p q:Pln}{x:Pt}:∀{l:List Pln} {out:List Pt},x∈out->x∈zd3 r p q l out
 |[],_,h=>h
 |s::l,out,h=>rc9 (l:=l) (out:=Mb4 r p q out s) (zd8 h)
theorem Nb1{r:List Pln}{p:Pln}{x:Pt}:∀{l:List Pln} {out:List Pt},x∈out->x∈Yc0 r p l out
 |[],_,h=>h
 |_::l,_,h=>Nb1 (l:=l) (rc9 h)
theorem Zc0{r:List Pln}{x:Pt}:∀{l:List Pln} {out:List Pt},x∈out->x∈kd0 r l out
 |[],_,h=>h
 |_::l,_,h=>Zc0 (l:=l) (Nb1 h)
theorem zd9{r:List Pln}{p q:Pln}{out:List Pt}{s:Pln}(h1:(mpt p q s).2=true)(h2:inn r (mpt p q s).1=true):(mpt p q s).1∈Mb4 r p q out s:=by
 unfold Mb4;rw[h1,h2];cases h:Zd9 out (mpt p q s).1 with
 |true=>simpa using (Kd4 _ _).1 h
 |false=>simp
theorem sc0{r:List Pln}{p q s:Pln}(h1:(mpt p q s).2=true)(h2:inn r (mpt p q s).1=true):∀{l:List Pln} {out:List Pt},s∈l->(mpt p q s).1∈zd3 r p q l out
 |[],_,h=>by cases h
 |t::l,out,h=>by
  show _∈zd3 r p q l (Mb4 r p q out t)
  rcases Qia.1 h with rfl|h
  ·exact rc9 (zd9 h1 h2)
  ·exact sc0 h1 h2 h
structure Hit(r:List Pln)(Q:Pt->Prop)(p q s:Pln):Prop where
 h1:(mpt p q s).2=true
 h2:inn r (mpt p q s).1=true
 h3:Q (mpt p q s).1
theorem Zc1{r:List Pln}{Q:Pt->Prop}{p q s:Pln}(hq:Hit r Q p q s)(hs:Hit r Q p s q)(hne:q≠s):∀{l:List Pln} {out:List Pt},q∈l->s∈l->∃x∈Yc0 r p l out,Q x
 |[],_,h,_=>by cases h
 |t::l,out,hql,hsl=>by
  show ∃x∈Yc0 r p l (zd3 r p t l out),Q x
  rcases Qia.1 hql with rfl|h1
  ·have h2:=(Qia.1 hsl).resolve_left λh=>hne h.symm
   exact⟨_,Nb1 (sc0 hq.h1 hq.h2 h2),hq.h3⟩
  ·rcases Qia.1 hsl with rfl|h2
   ·exact⟨_,Nb1 (sc0 hs.h1 hs.h2 h1),hs.h3⟩
   ·exact Zc1 hq hs hne (l:=l) h1 h2
theorem Zc2 {r : List Pln} {Q : Pt → Prop} {p q s : Pln} (H : ∀ a c d, (a = p ∨ a = q ∨ a = s) → (c = p ∨ c = q ∨ c = s) → (d = p ∨ d = q ∨ d = s) → a ≠ c → c ≠ d → a ≠ d → Hit r Q a c d) (h1 : p ≠ q) (h2 : q ≠ s) (h3 : p ≠ s) :
  ∀{l:List Pln} {out:List Pt},p∈l->q∈l->s∈l->∃x∈kd0 r l out,Q x
 |[],_,h,_,_=>by cases h
 |t::l,out,hp,hq,hs=>by
  have fin:∀{a c d:Pln} {out:List Pt},(a=p\/a=q\/a=s)->(c=p\/c=q\/c=s)->(d=p\/d=q\/d=s)->a≠c->c≠d->a≠d->c∈l->d∈l->∃x∈kd0 r l (Yc0 r a l out),Q x:=λha hc hd n1 n2 n3 m1 m2=>by
   obtain⟨x,hx,hQ⟩:=Zc1 (H _ _ _ ha hc hd n1 n2 n3) (H _ _ _ ha hd hc n3 n2.symm n1) n2 (out:=_) m1 m2;exact⟨x,Zc0 hx,hQ⟩
  show ∃x∈kd0 r l (Yc0 r t l out),Q x
  rcases Qia.1 hp with rfl|hp'
  ·exact fin (.inl rfl) (.inr (.inl rfl)) (.inr (.inr rfl)) h1 h2 h3 ((Qia.1 hq).resolve_left (Ne.symm h1)) ((Qia.1 hs).resolve_left (Ne.symm h3))
  ·rcases Qia.1 hq with rfl|hq'
   ·exact fin (.inr (.inl rfl)) (.inl rfl) (.inr (.inr rfl)) (Ne.symm h1) h3 h2 hp' ((Qia.1 hs).resolve_left (Ne.symm h2))
   ·rcases Qia.1 hs with rfl|hs'
    ·exact fin (.inr (.inr rfl)) (.inl rfl) (.inr (.inl rfl)) (Ne.symm h3) h1 (Ne.symm h2) hp' hq'
    ·exact Zc2 H h1 h2 h3 hp' hq' hs'
theorem ze0{p q s:Pln}(h:mw p q s≠0):p≠q/\q≠s/\p≠s:=by
 refine⟨λe=>h ?_,λe=>h ?_,λe=>h ?_⟩<;>(subst e;simp only[mw,dot,c7];grind)
theorem pe4{r:List Pln}(hb:Bds r):∀x∈cor r,Cn r x:=qd2 λp hp q hq s hs h hi=>by
 obtain⟨w1,w2,w3,w4,w5⟩:=jd9 (hb p hp) (hb q hq) (hb s hs) h;obtain⟨e1,e2,e3⟩:=Md2 h;exact⟨(qd7 hb ⟨w1,w5,w2,w3,w4⟩).1 hi,p,q,s,hp,hq,hs,(ie1 h).1,e1,e2,e3⟩
theorem pe5{r:List Pln}(hb:Bds r){v:Pt}(hv:Cn r v):∃x∈cor r,Eqv x v:=by
 obtain⟨p,q,s,hp,hq,hs,hw,e1,e2,e3⟩:=hv.c;obtain⟨n1,n2,n3⟩:=ze0 hw;refine Zc2 (λa c d ha hc hd m1 m2 m3=>?_) n1 n2 n3 hp hq hs
 have hm:∀{a},(a=p\/a=q\/a=s)->a∈r/\rmZ a v=0:=λh=>by
  rcases h with rfl|rfl|rfl
  ·exact⟨hp,e1⟩
  ·exact⟨hq,e2⟩
  ·exact⟨hs,e3⟩
 have hw':mw a c d≠0:=by
  have k:mw a c d=mw p q s\/mw a c d=-mw p q s:=by
   rcases ha with rfl|rfl|rfl<;>rcases hc with rfl|rfl|rfl<;>rcases hd with rfl|rfl|rfl<;>first|exact absurd rfl m1|exact absurd rfl m2|exact absurd rfl m3|exact .inl rfl|(left;simp only[mw,dot,c7];grind;done)|(right;simp only[mw,dot,c7];grind;done)
  rcases k with k|k<;>omega
 have h:=ae9 hw';obtain⟨w1,w2,w3,w4,w5⟩:=jd9 (hb a (hm ha).1) (hb c (hm hc).1) (hb d (hm hd).1) h;obtain⟨f1,f2,f3⟩:=Md2 h;have he:=pe3 hw' f1 f2 f3 (hm ha).2 (hm hc).2 (hm hd).2;exact⟨h,(qd7 hb ⟨w1,w5,w2,w3,w4⟩).2 (he.inr w1 hv.toInr),he⟩
theorem Md4(c:List Pln):Bdd (c++ws):=λd hd=>by
 have k:∀{n:V3} {m:Int},(⟨n,m⟩:Pln)∈ws->0<dot n d->∃p∈c++ws,0<dot p.n d:=λh h'=>⟨_,List.mem_append_right _ h,h'⟩
 by_cases h1:0<d.x
 ·exact k (n:=⟨1,0,0⟩) (m:=24) (by simp[ws]) (by unfold dot;simp;omega)
 by_cases h2:d.x<0
 ·exact k (n:=⟨-1,0,0⟩) (m:=24) (by simp[ws]) (by unfold dot;simp;omega)
 by_cases h3:0<d.y
 ·exact k (n:=⟨0,1,0⟩) (m:=24) (by simp[ws]) (by unfold dot;simp;omega)
 by_cases h4:d.y<0
 ·exact k (n:=⟨0,-1,0⟩) (m:=24) (by simp[ws]) (by unfold dot;simp;omega)
 by_cases h5:0<d.z
 ·exact k (n:=⟨0,0,1⟩) (m:=24) (by simp[ws]) (by unfold dot;simp;omega)
 by_cases h6:d.z<0
 ·exact k (n:=⟨0,0,-1⟩) (m:=24) (by simp[ws]) (by unfold dot;simp;omega)
 exact absurd (V3.ext' (by show d.x=0;omega) (by show d.y=0;omega) (by show d.z=0;omega)) hd
theorem qd8{r:List Pln}(hb:Bds r){p:Pln}(hp:Bd p):pos (cor r) p=true↔∃v,Cn r v/\0<rmZ p v:=by
 unfold pos;rw[Qik];constructor
 ·rintro⟨x,hx,h⟩;rw[ae8 hp (Mc9 hb x hx)] at h;exact⟨x,pe4 hb x hx,by simpa using h⟩
 ·rintro⟨v,hv,h⟩;obtain⟨x,hx,he⟩:=pe5 hb hv;refine⟨x,hx,?_⟩;rw[ae8 hp (Mc9 hb x hx)];have h1:=he.rm p;have h2:=Qir h (Mc9 hb x hx).w1
  have:0<rmZ p x:=Int.lt_of_mul_lt_mul_right (by rw[Qiy];omega:0*v.pw<rmZ p x*v.pw) (Qie hv.w)
  simpa using this
theorem Ad0{r:List Pln}(hb:Bds r)(hd:Bdd r)(h0:r≠[]):ae2 r=true↔Md0 r:=by
 rw[Md1 hd h0];unfold ae2;rw[Qio];exact⟨λh p hp=>(qd8 hb (hb p hp)).1 (h p hp),λh p hp=>(qd8 hb (hb p hp)).2 (h p hp)⟩
end Go.Ev.Ce
namespace Go.Ev.Ce
def dv(z v:Pt):V3:=⟨v.px*z.pw-z.px*v.pw,v.py*z.pw-z.py*v.pw,v.pz*z.pw-z.pz*v.pw⟩
def thr(n:V3)(z:Pt):Pln:=⟨⟨z.pw*n.x,z.pw*n.y,z.pw*n.z⟩,n.x*z.px+n.y*z.py+n.z*z.pz⟩
theorem Md5(n:V3)(z x:Pt):rmZ (thr n z) x=-dot n (dv z x):=by simp only[rmZ,thr,dot,dv];grind
theorem Md6{p:Pln}{z v:Pt}(hz:rmZ p z≠0)(hv:rmZ p v=0)(hw:0<v.pw):dv z v≠⟨0,0,0⟩:=λh=>by
 unfold dv at h;simp only[V3.mk.injEq] at h;obtain⟨e1,e2,e3⟩:=h
 have:rmZ p z*v.pw=rmZ p v*z.pw:=by unfold rmZ;grind
 rw[hv,Qiy] at this;exact (Qif.1 this).elim hz (by omega)
theorem pe6{p:Pln}{z:Pt}(hz:rmZ p z≠0):∀l:List Pt,l.length<=2->(∀v∈l,rmZ p v=0/\0<v.pw)->∃n,n≠(⟨0,0,0⟩:V3)/\∀v∈l,dot n (dv z v)=0
 |[],_,_=>⟨⟨1,0,0⟩,by simp,λv h=>by cases h⟩
 |[v],_,h=>by
  obtain⟨h1,h2⟩:=h v (by simp)
  obtain⟨d,hd,he⟩:=perp (Md6 hz h1 h2);exact⟨d,hd,λu hu=>by rw[List.mem_singleton.1 hu,<- he];unfold dot;grind⟩
 |[v,u],_,h=>by
  obtain⟨h1,h2⟩:=h v (by simp)
  by_cases hc:c7 (dv z v) (dv z u)=⟨0,0,0⟩
  ·obtain⟨d,hd,he⟩:=perp (Md6 hz h1 h2);have hu:dot (dv z u) d=0:=by
    by_cases h0:dot (dv z u) d=0
    ·exact h0
    ·exact absurd hc (Yc9 (Md6 hz h1 h2) he h0)
   refine⟨d,hd,λx hx=>?_⟩
   simp only[Qia,Qiaa,or_false] at hx
   rcases hx with rfl|rfl
   ·rw[<- he];unfold dot;grind
   ·rw[<- hu];unfold dot;grind
  ·refine⟨_,hc,λx hx=>?_⟩
   simp only[Qia,Qiaa,or_false] at hx
   rcases hx with rfl|rfl
   ·rw[<- Yb7 (dv z x) (dv z u)];unfold dot;grind
   ·rw[<- Yb8 (dv z v) (dv z x)];unfold dot;grind
 |_::_::_::_,h,_=>by simp at h
def pe7(p:Pln)(z v:Pt):Pt:=⟨rmZ p v*z.px-rmZ p z*v.px,rmZ p v*z.py-rmZ p z*v.py,rmZ p v*z.pz-rmZ p z*v.pz,rmZ p v*z.pw-rmZ p z*v.pw⟩
theorem Nc4(p q:Pln)(z v:Pt):rmZ q (pe7 p z v)=rmZ p v*rmZ q z-rmZ p z*rmZ q v:=by
 generalize ha:rmZ p v=a;generalize hb:rmZ p z=c;simp only[rmZ,pe7] at *
 rw[ha,hb]
 grind
theorem Md7{r:List Pln}(hb:Bdd r)(hB:Md0 r){h:Pln}(hn:h.n≠⟨0,0,0⟩):¬ ∀x,Inr r x->rmZ h x=0:=λH=>by
 obtain⟨x,hw,hx⟩:=hB;have hi:Inr r x:=⟨hw,λp hp=>Qie (hx p hp)⟩
 obtain⟨q,hq,h1,h2⟩:=step hi h.n (hb h.n hn);have h3:=H _ h2;rw[Yc8,H _ hi] at h3;have h4:=hx q hq;have h5:0<dot h.n h.n:=by
  have k:∀a:Int,a≠0->0<a*a:=λa ha=>by
   rcases Int.lt_or_gt_of_ne ha with h|h
   ·exact Int.mul_pos_of_neg_of_neg h h
   ·exact Qir h h
  have k0:∀a:Int,0<=a*a:=λa=>by
   by_cases h:a=0
   ·subst h;decide
   ·exact Qie (k a h)
  have a1:=k0 h.n.x;have a2:=k0 h.n.y;have a3:=k0 h.n.z;unfold dot;by_cases c1:h.n.x=0
  ·by_cases c2:h.n.y=0
   ·have:=k h.n.z (λc3=>hn (V3.ext' c1 c2 c3));omega
   ·have:=k _ c2;omega
  ·have:=k _ c1;omega
 have:=Qir h4 h5
 omega
theorem ze1 {r r' : List Pln} {p : Pln} (hb : Bdd r) (hB : Md0 r) (hp : p ∈ r) (hr : ∀ q ∈ r, q ∈ r' ∨ q = p)
  (l:List Pt) (hl:l.length<=2) (hl0:∀v∈l,rmZ p v=0/\0<v.pw) (hc:∀v,Cn r v->rmZ p v=0->∃x∈l,Eqv x v) {z:Pt} (hz:Inr r' z):Inr r z:=by
 by_cases h0:0<=rmZ p z
 ·exact⟨hz.w,λq hq=>(hr q hq).elim (hz.h q) λe=>e ▸ h0⟩
 exfalso;have hneg:rmZ p z<0:=by omega
 obtain⟨n,hn,hv⟩:=pe6 (p:=p) (z:=z) (by omega) l hl hl0
 have hn':(thr n z).n≠⟨0,0,0⟩:=λe=>hn (by
  unfold thr at e;simp only[V3.mk.injEq] at e;have k:∀{a:Int},z.pw*a=0->a=0:=λh=>(Qif.1 h).resolve_left (by have:=hz.w;omega)
  exact V3.ext' (k e.1) (k e.2.1) (k e.2.2))
 -- the face lies in that plane
 have hface:∀u,Inr r u->rmZ p u=0->rmZ (thr n z) u=0:=λu hu hu0=>by
  have hbd:Bdd (Y5 p::r):=λd hd=>by
   obtain⟨q,hq,h⟩:=hb d hd;exact⟨q,Qib _ hq,h⟩
  have hiu:Inr (Y5 p::r) u:=⟨hu.w,λq hq=>by
   rcases Qia.1 hq with rfl|hq
   ·rw[Sa7,hu0];decide
   ·exact hu.h q hq⟩
  have hvx:∀v,Cn (Y5 p::r) v->rmZ (thr n z) v=0:=λv hcv=>by
   have hir:Inr r v:=⟨hcv.w,λq hq=>hcv.h q (Qib _ hq)⟩
   have hp0:rmZ p v=0:=by
    have h1:=hcv.h (Y5 p) Qic;rw[Sa7] at h1;have h2:=hir.h p hp;omega
   obtain⟨a,c,d,ha,hc',hd,hw,e1,e2,e3⟩:=hcv.c
   -- a plane that is turned round gives the same kd2
   have fl:∀{a c d:Pln},mw (Y5 a) c d=-mw a c d/\mw c (Y5 a) d=-mw c a d/\mw c d (Y5 a)=-mw c d a:=λ{a c d}=>by
    refine⟨?_,?_,?_⟩<;>(simp only[mw,dot,c7,Y5];grind)
   have hr0:∀{a:Pln},rmZ (Y5 a) v=0->rmZ a v=0:=λh=>by rw[Sa7] at h;omega
   have hcn:Cn r v:=by
    refine⟨hir,?_⟩
    rcases Qia.1 ha with rfl|ha<;>rcases Qia.1 hc' with rfl|hc'<;>rcases Qia.1 hd with rfl|hd
    ·exact absurd (by simp only[mw,dot,c7];grind) hw
    ·exact absurd (by simp only[mw,dot,c7];grind) hw
    ·exact absurd (by simp only[mw,dot,c7];grind) hw
    ·exact⟨p,c,d,hp,hc',hd,by have:=(fl (a:=p) (c:=c) (d:=d)).1;omega,hp0,e2,e3⟩
    ·exact absurd (by simp only[mw,dot,c7];grind) hw
    ·exact⟨a,p,d,ha,hp,hd,by have:=(fl (a:=p) (c:=a) (d:=d)).2.1;omega,e1,hp0,e3⟩
    ·exact⟨a,c,p,ha,hc',hp,by have:=(fl (a:=p) (c:=a) (d:=c)).2.2;omega,e1,e2,hp0⟩
    ·exact⟨a,c,d,ha,hc',hd,hw,e1,e2,e3⟩
   obtain⟨x,hx,he⟩:=hc v hcn hp0;have h1:=he.rm (thr n z);rw[Md5 n z x,hv x hx] at h1;have h1:rmZ (thr n z) v*x.pw=0:=by omega
   exact (Qif.1 h1).resolve_right (by have:=(hl0 x hx).2;omega)
  have a1:=ka1 hbd (h:=thr n z) (λv hv=>by rw[hvx v hv];decide) hiu
  have a2:=ka1 hbd (h:=Y5 (thr n z)) (λv hv=>by rw[Sa7,hvx v hv];decide) hiu
  rw[Sa7] at a2;omega
 -- so do all vertices
 have hall:∀v,Inr r v->rmZ (thr n z) v=0:=λv hi=>by
  by_cases hv0:rmZ p v=0
  ·exact hface v hi hv0
  have hvp:0<rmZ p v:=by have:=hi.h p hp;omega
  have hu:Inr r (pe7 p z v):=by
   have w1:=Qir hvp hz.w;have w2:rmZ p z*v.pw<0:=Int.mul_neg_of_neg_of_pos hneg hi.w;refine⟨by show 0<rmZ p v*z.pw-rmZ p z*v.pw;omega,λq hq=>?_⟩
   rw[Nc4]
   rcases hr q hq with h|rfl
   ·have b1:=Qih (Qie hvp) (hz.h q h);have b2:rmZ p z*rmZ q v<=0:=Int.mul_nonpos_of_nonpos_of_nonneg (Qie hneg) (hi.h q hq);omega
   ·have:=Int.mul_comm (rmZ q v) (rmZ q z);omega
  have h1:=hface _ hu (by rw[Nc4];have:=Int.mul_comm (rmZ p v) (rmZ p z);omega)
  rw[Nc4] at h1;have h2:rmZ (thr n z) z=0:=by rw[Md5];simp only[dot,dv];grind
  rw[h2] at h1;have h1:rmZ p z*rmZ (thr n z) v=0:=by omega
  exact (Qif.1 h1).resolve_left (by omega)
 exact Md7 hb hB hn' hall
end Go.Ev.Ce
namespace Go.Ev.Ce
open Go Go.Ev Go.Ev.L Go.Proofs
def phP(out:List Pln):Nat:=match out with
 |[]=>0
 |_::_=>1
def Z7(p:Pln)(v:V3):Int:=if okp p&&inV v then (if dot p.n v-p.b<0 then -1 else if dot p.n v-p.b>0 then 1 else 0) else 0
theorem Md8{p:Pln}{v:V3}(hp:Bd p)(hv:inV v=true):Sm 331776 (dot p.n v):=by
 obtain⟨⟨a1,a2⟩,⟨a3,a4⟩,a5,a6⟩:=(ua6 v).1 hv;have r1:=mb hp.x1 hp.x2 a1 a2;have r2:=mb hp.y1 hp.y2 a3 a4;have r3:=mb hp.z1 hp.z2 a5 a6;unfold Sm dot;omega
theorem be0(p:Pln)(v:V3):va4 p v=some (i (Z7 p v),[]):=by
 unfold va4 Z7;simp only[Kd7,Xc9,he8,Ld0];cases hp:okp p with
 |false=>rfl
 |true =>
  cases hv:inV v with
  |false=>rfl
  |true =>
   have hb:=Eb7 hp;have hd:=Md8 hb hv;have e:Ca4 p.n v=dot p.n v:=by
    unfold Ca4;simp only[Eb3,Tb0];exact lb5 (hd.mono (by omega))
   have e2:W (dot p.n v-p.b)=dot p.n v-p.b:=J9 (by have:=hd.1;have:=hb.b2;omega) (by have:=hd.2;have:=hb.b1;omega)
   rw[e,e2];by_cases h1:dot p.n v-p.b<0
   ·simp only[Qip,if_true,h1,decide_true];rfl
   ·by_cases h2:dot p.n v-p.b>0
    ·simp only[Qip,if_true,h1,h2,decide_true,decide_false,if_false];rfl
    ·simp only[Qip,if_true,h1,h2,decide_false,if_false];rfl
theorem pe8(p:Pln)(v:V3):gb3 p v=Z7 p v:=by unfold gb3;rw[be0];rfl
theorem Zc3{p:Pln}{v:V3}(hp:okp p=true)(hv:inV v=true):Z7 p v>0↔dot p.n v>p.b:=by
 unfold Z7;rw[hp,hv];simp only[Qip,if_true];split
 ·omega
 ·split<;>omega
theorem db7{p:Pln}{v:V3}(hp:okp p=true)(hv:inV v=true):Z7 p v=0↔dot p.n v=p.b:=by
 unfold Z7;rw[hp,hv];simp only[Qip,if_true];split
 ·omega
 ·split<;>omega
theorem pe9(v:V3):g3 v∣v.x/\g3 v∣v.y/\g3 v∣v.z:=by
 unfold g3;refine⟨?_,?_,?_⟩<;>rw[<- Qiu]<;>apply Qim.2
 ·exact Qin (Qil _ _) (Qil _ _)
 ·exact Qin (Qil _ _) (Qij _ _)
 ·exact Qij _ _
theorem qe0(v:V3)(h:g3 v≠0):g3 ⟨Int.tdiv v.x (g3 v),Int.tdiv v.y (g3 v),Int.tdiv v.z (g3 v)⟩=1:=by
 generalize hg:g3 v=g at *
 have h0:0<=g:=hg ▸ vb1 v;obtain⟨n,rfl⟩:∃n:Nat,g=n:=⟨g.toNat,by omega⟩
 have hn:0<n:=by omega
 have hgn:Nat.gcd (Nat.gcd v.x.natAbs v.y.natAbs) v.z.natAbs=n:=by unfold g3 at hg;omega
 have d1:n∣Nat.gcd v.x.natAbs v.y.natAbs:=hgn ▸ Qil _ _;have d3:n∣v.z.natAbs:=hgn ▸ Qij _ _;have d4:n∣v.x.natAbs:=Qin d1 (Qil _ _);have d5:n∣v.y.natAbs:=Qin d1 (Qij _ _);unfold g3;simp only[Int.natAbs_tdiv,Int.natAbs_natCast];show ((Nat.gcd (Nat.gcd (v.x.natAbs / n) (v.y.natAbs / n)) (v.z.natAbs / n):Nat):Int)=1;rw[Nat.gcd_div d4 d5,Nat.gcd_div d1 d3,hgn,Nat.div_self hn];rfl
structure Thr(a b c:V3)(p:Pln):Prop where
 ok:okp p=true
 k:∃g:Int,0<g/\g*p.n.x=(c7 (sub b a) (sub c a)).x/\g*p.n.y=(c7 (sub b a) (sub c a)).y/\g*p.n.z=(c7 (sub b a) (sub c a)).z
 o:p.b=dot p.n a
theorem da0{a b c:V3}(h:(B0 a b c).2=true):(inV a=true/\inV b=true/\inV c=true)/\Thr a b c (B0 a b c).1:=by
 unfold B0 at h ⊢;cases ha:inV a with
 |false=>rw[ha] at h;cases h
 |true =>
  cases hb:inV b with
  |false=>rw[ha,hb] at h;cases h
  |true =>
   cases hc:inV c with
   |false=>rw[ha,hb,hc] at h;cases h
   |true =>
    rw[ha,hb,hc] at h;simp only[Qip,if_true] at h ⊢;obtain⟨_,k1,k2,k3⟩:=Za8 ha hb hc;generalize hn:c7 (sub b a) (sub c a)=n at *
    by_cases h0:g3 n=0
    ·rw[if_pos h0] at h;cases h
    ·rw[if_neg h0];have hp:=vb1 n;obtain⟨d1,d2,d3⟩:=pe9 n;have q1:=ca9 (g:=g3 n) k1 (by omega)
     have q2:=ca9 (g:=g3 n) k2 (by omega)
     have q3:=ca9 (g:=g3 n) k3 (by omega)
     refine⟨⟨trivial,trivial,trivial⟩,⟨?_,⟨g3 n,by omega,by rw[hn];exact Qiv d1,by rw[hn];exact Qiv d2,by rw[hn];exact Qiv d3⟩,rfl⟩⟩
     obtain⟨⟨a1,a2⟩,⟨a3,a4⟩,a5,a6⟩:=(ua6 a).1 ha;have r1:=mb q1.1 q1.2 a1 a2;have r2:=mb q2.1 q2.2 a3 a4;have r3:=mb q3.1 q3.2 a5 a6;unfold okp;rw[qe0 n h0];simp only[List.all_cons,List.all_nil,Qig,Qid,hb5,beq_self_eq_true,true_and,and_true];refine⟨⟨q1,q2,q3⟩,?_⟩;unfold Sm dot
     simp only
     omega
theorem be1(a b c:V3):Bd (B0 a b c).1:=by
 cases h:(B0 a b c).2 with
 |true=>exact Eb7 (da0 h).2.ok
 |false =>
  have:(B0 a b c).1=⟨⟨0,0,0⟩,0⟩:=by
   unfold B0 at h ⊢;split
   ·rename_i hc;rw[if_pos hc] at h;split
    ·rfl
    ·rename_i h0;rw[if_neg h0] at h;cases h
   ·rfl
  rw[this]
  constructor<;>simp
theorem Nb2{p:Pln}(h:okp p=true):okp (Y5 p)=true:=by
 unfold okp Y5 g3 at *
 simp only[List.all_cons,List.all_nil,Qig,Qid,hb5,Int.natAbs_neg] at h ⊢;obtain⟨⟨h1,h2,h3⟩,h4,h5⟩:=h;exact⟨⟨h1.neg,h2.neg,h3.neg⟩,h4,h5.neg⟩
noncomputable def Ad1(l:List V3)(p:Pln):Bool:=l.any λv=>Z7 p v != 0
noncomputable def nf(l:List V3)(a c k:Nat):Bool:=(B0 (gL tV l a) (gL tV l c) (gL tV l k)).2&&Ad1 l (B0 (gL tV l a) (gL tV l c) (gL tV l k)).1
noncomputable def nf2(l:List V3)(a c:Nat):Bool:=(List.range c).any (nf l a c)
noncomputable def nf1(l:List V3)(a:Nat):Bool:=(List.range a).any (nf2 l a)
noncomputable def nf0(l:List V3):Bool:=(List.range l.length).any (nf1 l)
theorem sc1 {σ : Type} {step : σ → Stp σ} {mk : Nat → σ} (n : Nat) (c : Nat → Bool) (u fin : Nat) (hn : n ≤ 1000000000) (h : ∀ j, j < n → step (mk j) = sl (c j) (.exit u) (.next (mk (j + 1)))) (hf : step (mk n) = .exit fin) :
  ∃j,lp step (mk 0)=(if (List.range n).any c then u else fin,mk j):=by
 have key:=R2 (step:=step) (mk:=λj (_:Unit)=>mk j) n (λj _=>j<=n/\∀i,i<j->c i=false) (λt s=>t=(if (List.range n).any c then u else fin)/\∃j,s=mk j) hn
  (λj _ hj hi=>by
   rw[h j hj];refine Nx.sl (λhc=>.ex ⟨?_,j,rfl⟩) (λhc=>.nx ⟨(),rfl,by omega,λi hi'=>?_⟩)
   ·rw[if_pos (Qik.2 ⟨j,Qian.2 hj,hc⟩)]
   ·by_cases e:i=j
    ·rw[e];exact hc
    ·exact hi.2 i (by omega))
  (λj _ hj hi=>by
   have e:j=n:=by omega
   subst e;refine⟨fin,hf,?_,j,rfl⟩;rw[if_neg λhh=>?_]
   obtain⟨i,hi1,hi2⟩:=Qik.1 hh;rw[hi.2 i (Qian.1 hi1)] at hi2;cases hi2) 0 () ⟨by omega,by omega⟩
 obtain⟨t,s,h1,rfl,j,rfl⟩:=key;exact⟨j,h1⟩
theorem Md9(l:List V3)(x1 x2 x3:Int)(okb:Bool)(p:Pln)(hl:l.length<=1000000000):∃t s,lp (v8 ⟨l,x1,x2,x3,okb,p.n.x,p.n.y,p.n.z,p.b⟩) ⟨0⟩=(t,s)/\(((okb&&Ad1 l p)=true/\t=1)\/((okb&&Ad1 l p)=false/\(t=2\/t=3))):=by
 cases okb with
 |false =>
  cases l with
  |nil =>
   refine⟨3,⟨0⟩,?_,.inr ⟨rfl,.inr rfl⟩⟩;exact qd5 (step:=v8 ⟨[],x1,x2,x3,false,p.n.x,p.n.y,p.n.z,p.b⟩) rfl
  |cons v l =>
   refine⟨2,⟨0⟩,?_,.inr ⟨rfl,.inl rfl⟩⟩;refine qd5 (step:=v8 ⟨v::l,x1,x2,x3,false,p.n.x,p.n.y,p.n.z,p.b⟩) ?_;simp only[v8,R7];rw[btD (by simp only[List.length_cons];omega)]
   rfl
 |true =>
  have h:=Kd1 (step:=v8 ⟨l,x1,x2,x3,true,p.n.x,p.n.y,p.n.z,p.b⟩) (mk:=λj=>(⟨(j:Int)⟩:W5)) (c:=λv=>Z7 p v != 0) (u:=1) (fin:=3) tV l hl
   (λj hj=>by
    simp only[v8,R7,Ld1,pe8,Int.toNat_natCast,C4 hj (show l.length<=4611686018427387904 by omega)]
    rw[btD (o9 hj),bt (i6 hj)]
    rfl)
   (by simp only[v8,R7];rw[bfD (A1 (Qiw _))]) 0 (Nat.zero_le _)
  rw[Qiam] at h;have h:(lp (v8 ⟨l,x1,x2,x3,true,p.n.x,p.n.y,p.n.z,p.b⟩) ⟨0⟩).1=_:=h;cases hlp:lp (v8 ⟨l,x1,x2,x3,true,p.n.x,p.n.y,p.n.z,p.b⟩) ⟨0⟩ with
  |mk t s =>
  rw[hlp] at h;refine⟨t,s,rfl,?_⟩
  simp only at h
  rw[h];unfold Ad1;cases hh:l.any λv=>Z7 p v != 0 with
  |true=>exact .inl ⟨rfl,rfl⟩
  |false=>exact .inr ⟨rfl,.inr rfl⟩
theorem Nd0(l:List V3)(hl:l.length<=1000000000)(a c:Nat)(ha:a<l.length)(hc:c<a):∃j,lp (L0 ⟨(a:Int),(c:Int)⟩) ⟨l,0⟩=(if nf2 l a c then 1 else 2,⟨l,((j:Nat):Int)⟩) :=
 sc1 (step:=L0 ⟨(a:Int),(c:Int)⟩) (mk:=λj=>(⟨l,(j:Int)⟩:W6)) c (nf l a c) 1 2 (by omega)
  (λj hj=>by
   simp only[L0,Z2,zd4,Ec7,Int.toNat_natCast,r5,m9,C4 hj (show c<=4611686018427387904 by omega)]
   rw[btD (o9 hj),bt (i6 ha),bt (i6 (show c<l.length by omega)),bt (i6 (show j<l.length by omega)),w6]
   obtain⟨t,s,h1,h2⟩:=Md9 l (a:Int) (c:Int) (j:Int) (B0 (gL tV l a) (gL tV l c) (gL tV l j)).2 (B0 (gL tV l a) (gL tV l c) (gL tV l j)).1 hl;rw[h1];unfold nf
   rcases h2 with⟨e,rfl⟩|⟨e,rfl|rfl⟩<;>rw[e]<;>rfl)
  (by simp only[L0,Z2];rw[bfD (A1 (Qiw _))])
theorem Nd1(l:List V3)(hl:l.length<=1000000000)(a:Nat)(ha:a<l.length):∃j,lp (L1 ⟨(a:Int)⟩) ⟨l,0⟩=(if nf1 l a then 1 else 2,⟨l,((j:Nat):Int)⟩) :=
 sc1 (step:=L1 ⟨(a:Int)⟩) (mk:=λj=>(⟨l,(j:Int)⟩:W7)) a (nf2 l a) 1 2 (by omega)
  (λj hj=>by
   obtain⟨j',h1⟩:=Nd0 l hl a j ha hj;simp only[L1,Z3,r5,m9,C4 hj (show a<=4611686018427387904 by omega)]
   rw[btD (o9 hj),h1];cases nf2 l a j<;>rfl)
  (by simp only[L1,Z3];rw[bfD (A1 (Qiw _))])
theorem be2(l:List V3)(hl:l.length<=1000000000):va5 l=some (b (!nf0 l),[]):=by
 obtain⟨j,h⟩:=sc1 (step:=L2 ⟨⟩) (mk:=λj=>(⟨l,(j:Int)⟩:W8)) l.length (nf1 l) 1 2 hl
  (λj hj=>by
   obtain⟨j',h1⟩:=Nd1 l hl j hj;simp only[L2,Z4,r5,m9,C4 hj (show l.length<=4611686018427387904 by omega)]
   rw[btD (o9 hj),h1];cases nf1 l j<;>rfl)
  (by simp only[L2,Z4];rw[bfD (A1 (Qiw _))])
 have h:lp (L2 ⟨⟩) ⟨l,0⟩=(if nf0 l then 1 else 2,⟨l,((j:Nat):Int)⟩):=h
 unfold va5;simp only[r5,m9];rw[h];cases nf0 l<;>rfl
theorem qe1(l:List V3)(hl:l.length<=1000000000):Qa8 l=!nf0 l:=by unfold Qa8;rw[be2 l hl];rfl
def hold(p:Pln)(l:List V3):Bool:=!l.any λv=>decide (Z7 p v>0)
noncomputable def Zc4 (l:List V3) (a c:Nat) (out:List Pln) (k:Nat):List Pln :=
  if (B0 (gL tV l a) (gL tV l c) (gL tV l k)).2 then
    (if hold (Y5 (B0 (gL tV l a) (gL tV l c) (gL tV l k)).1) l then Nc2 (if hold (B0 (gL tV l a) (gL tV l c) (gL tV l k)).1 l then Nc2 out (B0 (gL tV l a) (gL tV l c) (gL tV l k)).1 else out) (Y5 (B0 (gL tV l a) (gL tV l c) (gL tV l k)).1)
     else (if hold (B0 (gL tV l a) (gL tV l c) (gL tV l k)).1 l then Nc2 out (B0 (gL tV l a) (gL tV l c) (gL tV l k)).1 else out))
  else out
noncomputable def F2(l:List V3)(a:Nat)(out:List Pln)(c:Nat):List Pln:=(List.range c).foldl (Zc4 l a c) out
noncomputable def F1(l:List V3)(out:List Pln)(a:Nat):List Pln:=(List.range a).foldl (F2 l a) out
noncomputable def F0(l:List V3):List Pln:=(List.range l.length).foldl (F1 l) []
theorem F7 {τ:Type} (f:τ→Nat→τ) (a:τ) (n:Nat):(List.range (n+1)).foldl f a=f ((List.range n).foldl f a) n:=by
  rw[List.range_succ,List.foldl_append];rfl
theorem sc2 {f:List Pln→Nat→List Pln} {m:Nat} (h:∀ o k,(f o k).length≤o.length+m) (o:List Pln):∀ n,((List.range n).foldl f o).length≤o.length+m*n
  |0=>Nat.le_refl _
  | n+1=>by
    rw[F7];have h1:=h ((List.range n).foldl f o) n;have h2:=sc2 h o n;rw[Nat.mul_succ];omega
def Nb3(l:List Pln)(p:Pln):Bool:=l.any λq=>eqP q p
theorem Zc5(l:List Pln)(p:Pln):Nb3 l p=true↔p∈l:=by
 unfold Nb3;rw[Qik];exact⟨λ⟨q,h,e⟩=>by rw[Mb7] at e;exact e ▸ h,λh=>⟨p,h,(Mb7 p p).2 rfl⟩⟩
def ipt(v:V3):Pt:=⟨v.x,v.y,v.z,1⟩
theorem qe2{v:V3}(h:inV v=true):∀p∈ws,0<=rmZ p (ipt v):=by
 obtain⟨⟨a1,a2⟩,⟨a3,a4⟩,a5,a6⟩:=(ua6 v).1 h;intro p hp;simp only[ws,Qia,Qiaa,or_false] at hp
 rcases hp with rfl|rfl|rfl|rfl|rfl|rfl<;>simp only[rmZ,ipt]<;>omega
theorem sc3{p:Pln}(h:okp p=true):g3 p.n=1:=by
 unfold okp at h;simp only[Qid,beq_iff_eq] at h;exact h.2.1
theorem Sa8{p:Pln}(h:okp p=true):p.n≠⟨0,0,0⟩:=λe=>by
 have:=sc3 h
 rw[e] at this
 revert this
 decide
theorem Nd2(c:Int)(n:V3):g3 ⟨c*n.x,c*n.y,c*n.z⟩=c.natAbs*g3 n:=by
 unfold g3;simp only[Int.natAbs_mul,Nat.gcd_mul_left];rw[Int.natCast_mul]
theorem Zc6{m n:V3}(hm:g3 m=1)(hn:g3 n=1)(h:c7 m n=⟨0,0,0⟩):n=m\/n=neg m:=by
 unfold c7 at h;simp only[V3.mk.injEq] at h;obtain⟨c1,c2,c3⟩:=h;have k:∀{c d:Int},c*m.x=d*n.x->c*m.y=d*n.y->c*m.z=d*n.z->c.natAbs=d.natAbs:=λ{c d} e1 e2 e3=>by
  have a1:=Nd2 c m;have a2:=Nd2 d n;rw[e1,e2,e3,a2,hm,hn] at a1;omega
 have ax:=k (c:=n.x) (d:=m.x) (by grind) (by grind) (by grind)
 have ay:=k (c:=n.y) (d:=m.y) (by grind) (by grind) (by grind)
 have az:=k (c:=n.z) (d:=m.z) (by grind) (by grind) (by grind)
 have sg:∀{a c:Int},a.natAbs=c.natAbs->a=c\/a=-c:=λh=>by omega
 -- the sign of one component that is not zero is that of all
 have go:∀{s u t v:Int},u≠0->s*v=u*t->s=u->t=v:=λ{s u t v} hu h e=>by
  subst e;exact (Qiai hu h).symm
 have gn:∀{s u t v:Int},u≠0->s*v=u*t->s=-u->t=-v:=λ{s u t v} hu h e=>by
  subst e
  have:u*t=u*(-v):=by rw[<- h];grind
  exact Qiai hu this
 by_cases hx:m.x=0
 ·have hx':n.x=0:=by omega
  by_cases hy:m.y=0
  ·have hy':n.y=0:=by omega
   rcases sg az with e|e
   ·exact .inl (V3.ext' (by omega) (by omega) e)
   ·exact .inr (V3.ext' (by show n.x=-m.x;omega) (by show n.y=-m.y;omega) e)
  ·rcases sg ay with e|e
   ·exact .inl (V3.ext' (by omega) e (go hy (by grind) e))
   ·exact .inr (V3.ext' (by show n.x=-m.x;omega) e (gn hy (by grind) e))
 ·rcases sg ax with e|e
  ·exact .inl (V3.ext' e (go hx (by grind) e) (go hx (by grind) e))
  ·exact .inr (V3.ext' e (gn hx (by grind) e) (gn hx (by grind) e))
structure Ge4(l:List V3):Prop where
 h:∃a c k v,a∈l/\c∈l/\k∈l/\v∈l/\dot (c7 (sub c a) (sub k a)) (sub v a)≠0
theorem gLm{l:List V3}{j:Nat}(h:j<l.length):gL tV l j∈l:=Ra9 tV h
theorem Ge5{l:List V3}(hf:nf0 l=true):Ge4 l:=by
 unfold nf0 at hf;obtain⟨a,ha,hf⟩:=Qik.1 hf;unfold nf1 at hf;obtain⟨c,hc,hf⟩:=Qik.1 hf;unfold nf2 at hf;obtain⟨k,hk,hf⟩:=Qik.1 hf;rw[Qian] at ha hc hk;unfold nf at hf;rw[Qid] at hf;obtain⟨h1,h2⟩:=hf;obtain⟨⟨i1,i2,i3⟩,⟨ok,⟨g,hg,e1,e2,e3⟩,o⟩⟩:=da0 h1;unfold Ad1 at h2;obtain⟨v,hv,h2⟩:=Qik.1 h2;generalize (B0 (gL tV l a) (gL tV l c) (gL tV l k)).1=p at *
 refine⟨_,_,_,v,gLm ha,gLm (show c<l.length by omega),gLm (show k<l.length by omega),hv,λh0=>?_⟩
 have hs:Z7 p v≠0:=by simpa using h2
 have hiv:inV v=true:=by
  cases hi:inV v with
  |true=>rfl
  |false=>exact absurd (by unfold Z7;rw[ok,hi];rfl) hs
 apply hs;rw[db7 ok hiv,o]
 have:g*(dot p.n v-dot p.n (gL tV l a))=dot (c7 (sub (gL tV l c) (gL tV l a)) (sub (gL tV l k) (gL tV l a))) (sub v (gL tV l a)):=by
  unfold dot;rw[<- e1,<- e2,<- e3];unfold sub
  grind
 rw[h0] at this
 have:=(Qif.1 this).resolve_left (by omega)
 omega
theorem db8{p:Pln}{l:List V3}(hp:okp p=true)(hl:l.all inV=true):hold p l=true↔∀v∈l,dot p.n v<=p.b:=by
 unfold hold;rw[Qiz,<- Bool.not_eq_true,Qik];constructor
 ·intro h v hv;have h1:¬ Z7 p v>0:=λh'=>h ⟨v,hv,by simpa using h'⟩
  rw[Zc3 hp (Qio.1 hl v hv)] at h1;omega
 ·rintro h ⟨v,hv,h1⟩;have h1:Z7 p v>0:=by simpa using h1
  rw[Zc3 hp (Qio.1 hl v hv)] at h1
  have:=h v hv
  omega
structure Fct(l:List V3)(p:Pln):Prop where
 ok:okp p=true
 hd:hold p l=true
theorem rb8(p:Pln)(v:V3):dot (Y5 p).n v=-dot p.n v:=by unfold dot Y5;grind
theorem Ad2 (l : List V3) (a c k : Nat) (out : List Pln) (p : Pln) : p ∈ Zc4 l a c out k ↔ p ∈ out ∨ ((B0 (gL tV l a) (gL tV l c) (gL tV l k)).2 = true ∧
  ((p=(B0 (gL tV l a) (gL tV l c) (gL tV l k)).1/\hold p l=true)\/(p=Y5 (B0 (gL tV l a) (gL tV l c) (gL tV l k)).1/\hold p l=true))):=by
 unfold Zc4;generalize B0 (gL tV l a) (gL tV l c) (gL tV l k)=T;cases h2:T.2 with
 |false=>simp
 |true =>
  simp only[if_true];cases h4:hold (Y5 T.1) l with
  |false =>
   simp only[Qiag,if_false];cases h3:hold T.1 l with
   |false =>
    simp only[Qiag,if_false];constructor
    ·exact λh=>.inl h
    ·rintro (h|⟨_,⟨rfl,h⟩|⟨rfl,h⟩⟩)
     ·exact h
     ·rw[h3] at h;cases h
     ·rw[h4] at h;cases h
   |true =>
    simp only[if_true,rb7];constructor
    ·rintro (rfl|h)
     ·exact .inr ⟨trivial,.inl ⟨rfl,h3⟩⟩
     ·exact .inl h
    ·rintro (h|⟨_,⟨rfl,h⟩|⟨rfl,h⟩⟩)
     ·exact .inr h
     ·exact .inl rfl
     ·rw[h4] at h;cases h
  |true =>
   simp only[if_true,rb7];cases h3:hold T.1 l with
   |false =>
    simp only[Qiag,if_false];constructor
    ·rintro (rfl|h)
     ·exact .inr ⟨trivial,.inr ⟨rfl,h4⟩⟩
     ·exact .inl h
    ·rintro (h|⟨_,⟨rfl,h⟩|⟨rfl,h⟩⟩)
     ·exact .inr h
     ·rw[h3] at h;cases h
     ·exact .inl rfl
   |true =>
    simp only[if_true,rb7];constructor
    ·rintro (rfl|rfl|h)
     ·exact .inr ⟨trivial,.inr ⟨rfl,h4⟩⟩
     ·exact .inr ⟨trivial,.inl ⟨rfl,h3⟩⟩
     ·exact .inl h
    ·rintro (h|⟨_,⟨rfl,h⟩|⟨rfl,h⟩⟩)
     ·exact .inr (.inr h)
     ·exact .inr (.inl rfl)
     ·exact .inl rfl
theorem Sa9{f:List Pln->Nat->List Pln}{Q:Nat->Pln->Prop}(h:∀o k p,p∈f o k↔p∈o\/Q k p)(o:List Pln)(p:Pln):∀n,p∈(List.range n).foldl f o↔p∈o\/∃k,k<n/\Q k p
 |0=>by simp
 |n+1=>by
  rw[F7,h,Sa9 h o p n];constructor
  ·rintro ((h|⟨k,hk,h⟩)|h)
   ·exact .inl h
   ·exact .inr ⟨k,by omega,h⟩
   ·exact .inr ⟨n,by omega,h⟩
  ·rintro (h|⟨k,hk,h⟩)
   ·exact .inl (.inl h)
   ·by_cases e:k=n
    ·subst e;exact .inr h
    ·exact .inl (.inr ⟨k,by omega,h⟩)
def Fq (l : List V3) (a c k : Nat) (p : Pln) : Prop := (B0 (gL tV l a) (gL tV l c) (gL tV l k)).2 = true ∧
  ((p=(B0 (gL tV l a) (gL tV l c) (gL tV l k)).1/\hold p l=true)\/(p=Y5 (B0 (gL tV l a) (gL tV l c) (gL tV l k)).1/\hold p l=true))
theorem qe3(l:List V3)(a c:Nat)(out:List Pln)(p:Pln):p∈F2 l a out c↔p∈out\/∃k,k<c/\Fq l a c k p:=Sa9 (λo k p=>Ad2 l a c k o p) out p c
theorem qe4(l:List V3)(a:Nat)(out:List Pln)(p:Pln):p∈F1 l out a↔p∈out\/∃c,c<a/\∃k,k<c/\Fq l a c k p:=Sa9 (λo c p=>qe3 l a c o p) out p a
theorem kd3(l:List V3)(p:Pln):p∈F0 l↔∃a,a<l.length/\∃c,c<a/\∃k,k<c/\Fq l a c k p:=by
 have:=Sa9 (λo a p=>qe4 l a o p) [] p l.length
 simpa [F0] using this
theorem Ad3{l:List V3}{a c:Nat}{out:List Pln}{k:Nat}(h:Ha4 out):Ha4 (Zc4 l a c out k):=by
 unfold Zc4;split
 ·split
  ·refine Nb0 _ ?_;split
   ·exact Nb0 _ h
   ·exact h
  ·split
   ·exact Nb0 _ h
   ·exact h
 ·exact h
theorem Nb4{f:List Pln->Nat->List Pln}(h:∀o k,Ha4 o->Ha4 (f o k)){o:List Pln}(ho:Ha4 o):∀n,Ha4 ((List.range n).foldl f o)
 |0=>ho
 |n+1=>by rw[F7];exact h _ _ (Nb4 h ho n)
theorem qe5{l:List V3}{a c:Nat}{out:List Pln}(h:Ha4 out):Ha4 (F2 l a out c):=Nb4 (λ_ _ h=>Ad3 h) h c
theorem qe6{l:List V3}{a:Nat}{out:List Pln}(h:Ha4 out):Ha4 (F1 l out a):=Nb4 (λ_ _ h=>qe5 h) h a
theorem Vb4(l:List V3):Ha4 (F0 l):=Nb4 (λ_ _ h=>qe6 h) .nil l.length
theorem Vb5{l:List Pln}(h:Ha4 l):l.Nodup:=List.Pairwise.imp (λ{x y} (h:LtP x y) (e:x=y)=>ic1 y (e ▸ h)) h
theorem Nd3{l:List V3}{p:Pln}(hp:p∈F0 l):Fct l p:=by
 obtain⟨a,ha,c,hc,k,hk,h1,⟨h2,h3⟩|⟨h2,h3⟩⟩:=(kd3 l p).1 hp
 ·exact⟨h2 ▸ (da0 h1).2.ok,h3⟩
 ·exact⟨h2 ▸ Nb2 (da0 h1).2.ok,h3⟩
structure Zc7(c:List Pln):Prop where
 l:c.length<=47
 v:∀p∈c,okp p=true
 f:Md0 (c++ws)
theorem Zc7.chk{c:List Pln}(h:Zc7 c):(chk c==0)=true:=by
 rw[beq_iff_eq,rc6];exact⟨by have:=h.l;omega,h.v⟩
theorem Zc7.bds{c:List Pln}(h:Zc7 c):Bds (c++ws):=(ae3 h.chk).1
theorem Zc7.ful{c:List Pln}(h:Zc7 c):ful c=true:=by
 unfold Ce.ful;rw[h.chk,(Ad0 h.bds (Md4 c) (by simp[ws])).2 h.f]
 rfl
theorem Zc7.pts{c:List Pln}(h:Zc7 c):pts c=cor (c++ws):=by unfold Ce.pts;rw[if_pos h.chk]
end Go.Ev.Ce
namespace Go.Ev.Ce
def d8(a b:V3):V3:=⟨a.x-b.x,a.y-b.y,a.z-b.z⟩
def N3(u w x:V3):V3:=c7 (d8 w u) (d8 x u)
def lb6:List V3->V3
 |[]=>⟨0,0,0⟩
 |v::l=>⟨v.x+(lb6 l).x,v.y+(lb6 l).y,v.z+(lb6 l).z⟩
def Nb5:List Int->Int
 |[]=>0
 |x::l=>x+Nb5 l
theorem Zc8(n:V3):∀l:List V3,dot n (lb6 l)=Nb5 (l.map (dot n))
 |[]=>by simp[lb6,Nb5,dot]
 |v::l=>by
  have:=Zc8 n l
  simp only[List.map_cons,Nb5,<- this];simp only[lb6,dot]
  grind
theorem Zc9(m s:Int):∀l:List Int,Nb5 (l.map λa=>m*a-s)=m*Nb5 l-s*l.length
 |[]=>by simp[Nb5]
 |a::l=>by
  have:=Zc9 m s l
  simp only[List.map_cons,Nb5,this,List.length_cons]
  grind
theorem Yb9:∀{l:List Int},(∀a∈l,a<=0)->Nb5 l<=0
 |[],_=>by simp[Nb5]
 |a::l,h=>by
  have:=Yb9 (l:=l) λx hx=>h x (Qib _ hx)
  have:=h a Qic
  simp only[Nb5];omega
theorem Vb6:∀{l:List Int},(∀a∈l,a<=0)->Nb5 l=0->∀a∈l,a=0
 |[],_,_=>λa ha=>by cases ha
 |a::l,h,h0=>by
  have h1:=Yb9 (l:=l) λx hx=>h x (Qib _ hx)
  have h2:=h a Qic;simp only[Nb5] at h0;intro b hb
  rcases Qia.1 hb with rfl|hb
  ·omega
  ·exact Vb6 (l:=l) (λx hx=>h x (Qib _ hx)) (by omega) b hb
def Sol(l:List V3):Prop:=∃a c k v,a∈l/\c∈l/\k∈l/\v∈l/\dot (N3 a c k) (d8 v a)≠0
theorem Sol.off{l:List V3}(h:Sol l){n:V3}(hn:n≠⟨0,0,0⟩)(b:Int):∃v∈l,dot n v≠b:=by
 obtain⟨a,c,k,v,ha,hc,hk,hv,hd⟩:=h;by_cases h1:dot n a=b
 ·by_cases h2:dot n c=b
  ·by_cases h3:dot n k=b
   ·by_cases h4:dot n v=b
    ·exfalso;unfold N3 at hd;generalize hD:dot (c7 (d8 c a) (d8 k a)) (d8 v a)=D at *
     have q1:dot n (d8 c a)=0:=by unfold dot d8 at *;grind
     have q2:dot n (d8 k a)=0:=by unfold dot d8 at *;grind
     have q3:dot n (d8 v a)=0:=by unfold dot d8 at *;grind
     generalize d8 c a=p at *
     generalize d8 k a=q at *
     generalize d8 v a=r at *
     have i1:D*n.x=(c7 q r).x*dot n p+(c7 r p).x*dot n q+(c7 p q).x*dot n r:=by rw[<- hD];simp only[dot,c7];grind
     have i2:D*n.y=(c7 q r).y*dot n p+(c7 r p).y*dot n q+(c7 p q).y*dot n r:=by rw[<- hD];simp only[dot,c7];grind
     have i3:D*n.z=(c7 q r).z*dot n p+(c7 r p).z*dot n q+(c7 p q).z*dot n r:=by rw[<- hD];simp only[dot,c7];grind
     rw[q1,q2,q3] at i1 i2 i3;have z:∀{x:Int},D*x=0->x=0:=λh=>(Qif.1 h).resolve_left hd
     exact hn (V3.ext' (z (by omega)) (z (by omega)) (z (by omega)))
    ·exact⟨v,hv,h4⟩
   ·exact⟨k,hk,h3⟩
  ·exact⟨c,hc,h2⟩
 ·exact⟨a,ha,h1⟩
theorem Sol.ne{l:List V3}(h:Sol l):∃v,v∈l:=by obtain⟨a,_,_,_,ha,_⟩:=h;exact⟨a,ha⟩
structure Fac(l:List V3)(n:V3)(b:Int):Prop where
 hd:∀v∈l,dot n v<=b
 on:∃u w x,u∈l/\w∈l/\x∈l/\N3 u w x≠⟨0,0,0⟩/\dot n u=b/\dot n w=b/\dot n x=b
def qe7(l:List V3)(c:List Pln):Prop:=∀n b,n≠⟨0,0,0⟩->Fac l n b->∃s t:Int,0<s/\0<t/\∃q∈c,t*q.n.x=s*n.x/\t*q.n.y=s*n.y/\t*q.n.z=s*n.z/\t*q.b=s*b
def pol(m:Int)(S v:V3):Pln:=⟨⟨m*v.x-S.x,m*v.y-S.y,m*v.z-S.z⟩,1⟩
theorem be3(m:Int)(S v d:V3):dot (pol m S v).n d=m*dot d v-dot d S:=by simp only[dot,pol];grind
theorem ad1(l:List V3)(d:V3):Nb5 (l.map λv=>(l.length:Int)*dot d v-dot d (lb6 l))=0:=by
 have h:=Zc9 (l.length:Int) (dot d (lb6 l)) (l.map (dot d));rw[List.map_map] at h;have e:((λa=>(l.length:Int)*a-dot d (lb6 l))∘dot d)=λv=>(l.length:Int)*dot d v-dot d (lb6 l):=rfl
 rw[e] at h;rw[h,<- Zc8,List.length_map]
 grind
theorem Fc0{a b:V3}(h:dot a b≠0):b≠⟨0,0,0⟩:=λe=>h (by subst e;simp[dot])
theorem sc4{a b:V3}(h:dot a b≠0):a≠⟨0,0,0⟩:=λe=>h (by subst e;simp[dot])
theorem qd9{l:List V3}(h:Sol l):0<(l.length:Int):=by
 obtain⟨v,hv⟩:=h.ne
 have:=List.length_pos_of_mem hv
 omega
theorem be4{l:List V3}(h:Sol l):Bdd (l.map (pol l.length (lb6 l))):=λd hd=>by
 by_cases hh:∃p∈l.map (pol l.length (lb6 l)),0<dot p.n d
 ·exact hh
 exfalso;have hm:=qd9 h;have hall:∀a∈l.map (λv=>(l.length:Int)*dot d v-dot d (lb6 l)),a<=0:=λa ha=>by
  obtain⟨v,hv,rfl⟩:=Qii.1 ha;refine Int.not_lt.1 λh'=>hh ⟨pol l.length (lb6 l) v,Qii.2 ⟨v,hv,rfl⟩,?_⟩
  rw[be3];omega
 have hz:=Vb6 hall (ad1 l d);obtain⟨a,ha⟩:=h.ne;obtain⟨v,hv,hne⟩:=h.off hd (dot d a);have e1:=hz _ (Qii.2 ⟨a,ha,rfl⟩);have e2:=hz _ (Qii.2 ⟨v,hv,rfl⟩);apply hne
 have:(l.length:Int)*(dot d v-dot d a)=0:=by grind
 have:=(Qif.1 this).resolve_left (by omega)
 omega
theorem vb2{l:List V3}(h4:Sol l){c:List Pln}(hc:qe7 l c){x:Pt}(hx:Inr c x){h:Pln}(hh:∀v∈l,dot h.n v<=h.b):0<=rmZ h x:=by
 have hm:=qd9 h4;have hr:=be4 h4;generalize hS:lb6 l=S at hr;generalize hM:(l.length:Int)=m at hr hm
 -- the linear function on the polar
 have hv:∀y,Cn (l.map (pol m S)) y->0<=rmZ ⟨⟨m*x.px-x.pw*S.x,m*x.py-x.pw*S.y,m*x.pz-x.pw*S.z⟩,x.pw⟩ y:=λy hy=>by
  obtain⟨p1,p2,p3,hp1,hp2,hp3,hw,e1,e2,e3⟩:=hy.c;obtain⟨v1,m1,rfl⟩:=Qii.1 hp1;obtain⟨v2,m2,rfl⟩:=Qii.1 hp2;obtain⟨v3,m3,rfl⟩:=Qii.1 hp3;have rp:∀v,rmZ (pol m S v) y=y.pw-(m*dot ⟨y.px,y.py,y.pz⟩ v-dot ⟨y.px,y.py,y.pz⟩ S):=λv=>by simp only[rmZ,pol,dot];grind
  rw[rp] at e1 e2 e3;have hn3:dot (pol m S v1).n (N3 v1 v2 v3)≠0:=λh0=>hw (by
   have:mw (pol m S v1) (pol m S v2) (pol m S v3)=m*m*dot (pol m S v1).n (N3 v1 v2 v3):=by simp only[mw,pol,dot,N3,c7,d8];grind
   rw[this,h0,Qiak])
  have hne:N3 v1 v2 v3≠⟨0,0,0⟩:=Fc0 hn3;have hfac:Fac l ⟨m*y.px,m*y.py,m*y.pz⟩ (y.pw+dot ⟨y.px,y.py,y.pz⟩ S):=by
   have ed:∀v,dot ⟨m*y.px,m*y.py,m*y.pz⟩ v=m*dot ⟨y.px,y.py,y.pz⟩ v:=λv=>by simp only[dot];grind
   refine⟨λv hv=>?_,v1,v2,v3,m1,m2,m3,hne,?_,?_,?_⟩
   ·have:=hy.h (pol m S v) (Qii.2 ⟨v,hv,rfl⟩)
    rw[rp] at this;rw[ed];omega
   ·rw[ed];omega
   ·rw[ed];omega
   ·rw[ed];omega
  have hyn:(⟨m*y.px,m*y.py,m*y.pz⟩:V3)≠⟨0,0,0⟩:=λe=>by
   have k:∀{a:Int},m*a=0->a=0:=λh=>(Qif.1 h).resolve_left (by omega)
   simp only[V3.mk.injEq] at e;have a1:=k e.1;have a2:=k e.2.1;have a3:=k e.2.2;rw[a1,a2,a3] at e1;have hw:=hy.w;simp only[dot] at e1;simp only[Qiy,Int.add_zero,Qiak,Int.sub_zero] at e1;omega
  obtain⟨s,t,hs,ht,q,hq,f1,f2,f3,f4⟩:=hc _ _ hyn hfac;have hxq:=hx.h q hq;have e:t*rmZ q x=s*rmZ ⟨⟨m*x.px-x.pw*S.x,m*x.py-x.pw*S.y,m*x.pz-x.pw*S.z⟩,x.pw⟩ y:=by
   have:t*rmZ q x=(t*q.b)*x.pw-((t*q.n.x)*x.px+(t*q.n.y)*x.py+(t*q.n.z)*x.pz):=by simp only[rmZ];grind
   rw[this,f1,f2,f3,f4];simp only[rmZ,dot];grind
  have h1:=Qih (Qie ht) hxq;rw[e] at h1;exact Qiad h1 hs
 by_cases hn:h.n=⟨0,0,0⟩
 ·obtain⟨v,hv⟩:=h4.ne;have h1:=hh v hv;have e:rmZ h x=h.b*x.pw:=by simp only[rmZ,hn];grind
  rw[e];rw[hn] at h1;simp only[dot,Qiy,Int.add_zero] at h1;exact Qih h1 (Qie hx.w)
 ·-- the polar point of h
  have hall:∀a∈l.map (λv=>(l.length:Int)*dot h.n v-dot h.n (lb6 l)),a<=(l.length:Int)*h.b-dot h.n (lb6 l):=λa ha=>by
   obtain⟨v,hv,rfl⟩:=Qii.1 ha
   have:=Qiae (hh v hv) (show 0<=(l.length:Int) by omega)
   omega
  have hpos:0<m*h.b-dot h.n S:=by
   rw[<- hM,<- hS];by_cases h0:0<(l.length:Int)*h.b-dot h.n (lb6 l)
   ·exact h0
   exfalso;have hz:=Vb6 (λa ha=>by have:=hall a ha;omega) (ad1 l h.n)
   obtain⟨v,hv,hne⟩:=h4.off hn h.b;have e1:=hz _ (Qii.2 ⟨v,hv,rfl⟩);have h2:=hh v hv
   have:(l.length:Int)*dot h.n v<(l.length:Int)*h.b:=Int.mul_lt_mul_of_pos_left (by omega) (by omega)
   omega
  have hy:Inr (l.map (pol m S)) ⟨h.n.x,h.n.y,h.n.z,m*h.b-dot h.n S⟩:=⟨hpos,λp hp=>by
   obtain⟨v,hv,rfl⟩:=Qii.1 hp;have e:rmZ (pol m S v) ⟨h.n.x,h.n.y,h.n.z,m*h.b-dot h.n S⟩=m*(h.b-dot h.n v):=by simp only[rmZ,pol,dot];grind
   rw[e];exact Qih (by omega) (by have:=hh v hv;omega)⟩
  have h1:=ka1 hr hv hy;have e:rmZ ⟨⟨m*x.px-x.pw*S.x,m*x.py-x.pw*S.y,m*x.pz-x.pw*S.z⟩,x.pw⟩ ⟨h.n.x,h.n.y,h.n.z,m*h.b-dot h.n S⟩=m*rmZ h x:=by simp only[rmZ,dot];grind
  rw[e] at h1;exact Qiad h1 hm
theorem Nc5(own:List V3):(∃a c k,a∈own/\c∈own/\k∈own/\dot a (c7 c k)≠0)\/∃d,d≠(⟨0,0,0⟩:V3)/\∀n∈own,dot n d=0:=by
 by_cases h1:∃a∈own,a≠⟨0,0,0⟩
 ·obtain⟨a,ha,hne⟩:=h1;by_cases h2:∃c∈own,c7 a c≠⟨0,0,0⟩
  ·obtain⟨c,hc,hx⟩:=h2;by_cases h3:∃k∈own,dot k (c7 a c)≠0
   ·obtain⟨k,hk,h⟩:=h3;exact .inl ⟨k,a,c,hk,ha,hc,h⟩
   ·exact .inr ⟨c7 a c,hx,λn hn=>Qiq λh=>h3 ⟨n,hn,h⟩⟩
  ·obtain⟨d,hd,h0⟩:=perp hne;refine .inr ⟨d,hd,λn hn=>?_⟩
   have hc:c7 a n=⟨0,0,0⟩:=Qiq λh=>h2 ⟨n,hn,h⟩
   have e:∀{s t:Int},s*t=0->s≠0->t=0:=λh hs=>(Qif.1 h).resolve_left hs
   unfold c7 at hc;simp only[V3.mk.injEq] at hc;obtain⟨c1,c2,c3⟩:=hc;have k1:a.x*dot n d=0:=by
    have:a.x*dot n d=n.x*dot a d+(a.x*n.y-a.y*n.x)*d.y-(a.z*n.x-a.x*n.z)*d.z:=by simp only[dot];grind
    rw[this,h0,c3,c2];simp
   have k2:a.y*dot n d=0:=by
    have:a.y*dot n d=n.y*dot a d+(a.y*n.z-a.z*n.y)*d.z-(a.x*n.y-a.y*n.x)*d.x:=by simp only[dot];grind
    rw[this,h0,c1,c3];simp
   have k3:a.z*dot n d=0:=by
    have:a.z*dot n d=n.z*dot a d+(a.z*n.x-a.x*n.z)*d.x-(a.y*n.z-a.z*n.y)*d.y:=by simp only[dot];grind
    rw[this,h0,c2,c1];simp
   by_cases hx:a.x=0
   ·by_cases hy:a.y=0
    ·exact e k3 λhz=>hne (V3.ext' hx hy hz)
    ·exact e k2 hy
   ·exact e k1 hx
 ·exact .inr ⟨⟨1, 0, 0⟩, by simp, fun n hn => by
   have:n=⟨0,0,0⟩:=Qiq λh=>h1 ⟨n,hn,h⟩
   rw[this];simp[dot]⟩
theorem big(d:V3):∀c:List Pln,∃N:Int,0<N/\∀p∈c,dot p.n d<=N/\-dot p.n d<=N
 |[]=>⟨1,by decide,λp hp=>by cases hp⟩
 |q::c=>by
  obtain⟨N,h0,h⟩:=big d c;refine⟨N+(dot q.n d).natAbs,by omega,λp hp=>?_⟩
  rcases Qia.1 hp with rfl|hp
  ·omega
  ·have:=h p hp;omega
theorem Ta0{p q s:Pln}(hw:mw p q s≠0){d:V3}(h1:dot p.n d=0)(h2:dot q.n d=0)(h3:dot s.n d=0):d=⟨0,0,0⟩:=by
 have i1:mw p q s*d.x=(c7 q.n s.n).x*dot p.n d+(c7 s.n p.n).x*dot q.n d+(c7 p.n q.n).x*dot s.n d:=by simp only[mw,dot,c7];grind
 have i2:mw p q s*d.y=(c7 q.n s.n).y*dot p.n d+(c7 s.n p.n).y*dot q.n d+(c7 p.n q.n).y*dot s.n d:=by simp only[mw,dot,c7];grind
 have i3:mw p q s*d.z=(c7 q.n s.n).z*dot p.n d+(c7 s.n p.n).z*dot q.n d+(c7 p.n q.n).z*dot s.n d:=by simp only[mw,dot,c7];grind
 rw[h1,h2,h3] at i1 i2 i3;have z:∀{x:Int},mw p q s*x=0->x=0:=λh=>(Qif.1 h).resolve_left hw
 exact V3.ext' (z (by omega)) (z (by omega)) (z (by omega))
def Spn(c:List Pln)(v:V3):Prop:=∃p q s,p∈c/\q∈c/\s∈c/\mw p q s≠0/\dot p.n v=p.b/\dot q.n v=q.b/\dot s.n v=s.b
theorem be5{l:List V3}(h4:Sol l){c w:List Pln}(hc:qe7 l c)(hin:∀p∈c++w,∀v∈l,dot p.n v<=p.b){x:Pt}(hx:Cn (c++w) x):∃v∈l,Eqv x ⟨v.x,v.y,v.z,1⟩/\Spn c v:=by
 obtain⟨p,q,s,hp,hq,hs,hw,e1,e2,e3⟩:=hx.c;have hxc:Inr c x:=⟨hx.w,λa ha=>hx.h a (Qiac _ ha)⟩
 have hv:∃v∈l,dot p.n v=p.b/\dot q.n v=q.b/\dot s.n v=s.b:=by
  apply Qiq;intro hno;have h1:=vb2 h4 hc hxc (h:=⟨⟨p.n.x+q.n.x+s.n.x,p.n.y+q.n.y+s.n.y,p.n.z+q.n.z+s.n.z⟩,p.b+q.b+s.b-1⟩) λv hv=>by
   have a1:=hin p hp v hv;have a2:=hin q hq v hv;have a3:=hin s hs v hv;have e:dot ⟨p.n.x+q.n.x+s.n.x,p.n.y+q.n.y+s.n.y,p.n.z+q.n.z+s.n.z⟩ v=dot p.n v+dot q.n v+dot s.n v:=by simp only[dot];grind
   simp only[e]
   have:¬ (dot p.n v=p.b/\dot q.n v=q.b/\dot s.n v=s.b):=λh=>hno ⟨v,hv,h⟩
   omega
  have e:rmZ ⟨⟨p.n.x+q.n.x+s.n.x,p.n.y+q.n.y+s.n.y,p.n.z+q.n.z+s.n.z⟩,p.b+q.b+s.b-1⟩ x=rmZ p x+rmZ q x+rmZ s x-x.pw:=by simp only[rmZ];grind
  rw[e,e1,e2,e3] at h1
  have:=hx.w
  omega
 obtain⟨v,hv,t1,t2,t3⟩:=hv;have hd:(⟨x.px-v.x*x.pw,x.py-v.y*x.pw,x.pz-v.z*x.pw⟩:V3)=⟨0,0,0⟩:=by
  have k:∀{a:Pln},dot a.n v=a.b->rmZ a x=0->dot a.n ⟨x.px-v.x*x.pw,x.py-v.y*x.pw,x.pz-v.z*x.pw⟩=0:=λ{a} h1 h2=>by
   rw[rmZ,<- h1] at h2;simp only[dot] at h2 ⊢
   grind
  exact Ta0 hw (k t1 e1) (k t2 e2) (k t3 e3)
 simp only[V3.mk.injEq] at hd;refine⟨v,hv,⟨?_,?_,?_⟩,?_⟩
 ·show x.px*1=v.x*x.pw;omega
 ·show x.py*1=v.y*x.pw;omega
 ·show x.pz*1=v.z*x.pw;omega
 -- the facets through it span the space
 have hf:∀a:Pln,decide (dot a.n v=a.b)=true↔dot a.n v=a.b:=λa=>by simp
 rcases Nc5 ((c.filter λa=>decide (dot a.n v=a.b)).map Pln.n) with⟨a,b,k,ha',hb',hk',hd⟩|⟨d,hd,h0⟩
 ·obtain⟨a,ha,rfl⟩:=Qii.1 ha';obtain⟨b,hb,rfl⟩:=Qii.1 hb';obtain⟨k,hk,rfl⟩:=Qii.1 hk';rw[List.mem_filter,hf] at ha hb hk;exact⟨a,b,k,ha.1,hb.1,hk.1,hd,ha.2,hb.2,hk.2⟩
 ·exfalso;obtain⟨N,hN,hb⟩:=big d c;have h0':∀a∈c,dot a.n v=a.b->dot a.n d=0:=λa ha h=>h0 a.n (Qii.2 ⟨a,List.mem_filter.2 ⟨ha,by simpa using h⟩,rfl⟩)
  have iny:∀e:V3,(∀a∈c,dot a.n v=a.b->dot a.n e=0)->(∀a∈c,dot a.n e<=N)->Inr c ⟨N*v.x+e.x,N*v.y+e.y,N*v.z+e.z,N⟩:=λe he hle=>⟨hN,λa ha=>by
   have ea:rmZ a ⟨N*v.x+e.x,N*v.y+e.y,N*v.z+e.z,N⟩=N*(a.b-dot a.n v)-dot a.n e:=by simp only[rmZ,dot];grind
   rw[ea];have h1:=hin a (Qiac _ ha) v hv;by_cases ht:dot a.n v=a.b
   ·rw[he a ha ht,ht];simp
   ·have h2:N*1<=N*(a.b-dot a.n v):=Qiae (by omega) (by omega)
    have:=hle a ha
    omega⟩
  have y1:=iny d h0' λa ha=>(hb a ha).1
  have y2:=iny (neg d) (λa ha h=>by rw[ic2,h0' a ha h];rfl) λa ha=>by rw[ic2];exact (hb a ha).2
  have z:∀a∈c++w,dot a.n v=a.b->dot a.n d=0:=λa ha ht=>by
   have a1:=vb2 h4 hc y1 (h:=a) (hin a ha);have a2:=vb2 h4 hc y2 (h:=a) (hin a ha);have e1:rmZ a ⟨N*v.x+d.x,N*v.y+d.y,N*v.z+d.z,N⟩=N*(a.b-dot a.n v)-dot a.n d:=by simp only[rmZ,dot];grind
   have e2:rmZ a ⟨N*v.x+(neg d).x,N*v.y+(neg d).y,N*v.z+(neg d).z,N⟩=N*(a.b-dot a.n v)+dot a.n d:=by simp only[rmZ,dot,neg];grind
   rw[e1,ht] at a1;rw[e2,ht] at a2;simp only[Int.sub_self,Qiak] at a1 a2;omega
  exact hd (Ta0 hw (z p hp t1) (z q hq t2) (z s hs t3))
end Go.Ev.Ce
