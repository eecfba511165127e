/- Own work. -/
import Derived.Test.YtkfaiccnekeklaaGreatDoorEvOaDN
set_option linter.all false
def Qia:=@Bool.and_eq_true
def Qib:=@List.mem_cons
def Qic:=@Bool.and_self
def Qid:=@List.mem_cons_self
def Qie:=@Bool.and_true
def Qif:=@List.mem_cons_of_mem
def Qig:=@List.pairwise_cons
def Qih:=@Int.mul_le_mul_of_nonneg_right
def Qii:=@Int.le_of_lt
def Qij:=@Nat.gcd_dvd_left
def Qik:=@Nat.lt_irrefl
def Qil:=@Int.mul_nonneg
def Qim:=@Int.eq_ofNat_of_zero_le
def Qin:=@Nat.gcd_dvd_right
def Qio:=@Int.mul_tdiv_cancel'
def Qip:=@Eq.trans
def Qiq:=@List.getD_eq_getElem?_getD
def Qir:=@Nat.dvd_trans
def Qis:=@Bool.not_eq_true'
def Qit:=@Nat.gcd_zero_left
def Qiu:=@Nat.zero_add
def Qiv:=@List.drop_zero
def Qiw:=@Nat.beq_refl
def Qix:=@Int.zero_mul
def Qiy:=@Nat.zero_le
namespace Go.Ev.Ce
open Go Go.Ev Go.Ev.L Go.Proofs
set_option maxRecDepth 100000
structure wa3 where
 (Oa0 Oa1 Oa2 Be4 f0 d8 g7:Int)
noncomputable def dc9:List (Nat×Sum):=[(10,ga7)]
theorem Vb3:j5 prog G dc9:=⟨qa3,trivial⟩
structure wa4 where
 bs0:Bool
noncomputable def ba6{α:Type}(kk:wa4->α)(x:wa3):α:=let t1:=(r7 (⟨x.f0,x.d8,x.g7⟩:V3) (⟨x.Oa0,x.Oa1,x.Oa2⟩:V3));(kk ⟨t1 != 0⟩)
noncomputable def Ma8(x:wa3):wa4:=ba6 (λr=>r) x
noncomputable def Ga5(x:wa3)(r:wa4):DT (c7×List c8):=.ret (b r.bs0,[⟨0,3,[[i x.f0,i x.d8,i x.g7]],true,false,0⟩])
theorem oc1{α β:Type}(F:α->β)(kk:wa4->α)(x:wa3):F (ba6 kk x)=ba6 (λr=>F (kk r)) x:=by unfold ba6;(repeat' apply q8 (f:=F))<;>rfl
noncomputable def qb5:Sum:=rb4 ⟨[.agg (kLq 4),sPq 0],[⟨0,3,true,some [kLq 3]⟩],λa H=>(⟨cIq a 0 0,cIq a 0 1,cIq a 0 2,cIq a 0 3,hIq H 0 0 0,hIq H 0 0 1,hIq H 0 0 2⟩,())⟩ (λx=>Ga5 x (Ma8 x))
theorem ec0:g8 prog G 86 qb5:=ca1 (enc:=λx=>⟨[.agg [i x.Oa0,i x.Oa1,i x.Oa2,i x.Be4],.ptr 0 0 0 0],[⟨0,3,[[i x.f0,i x.d8,i x.g7]],true,false,0⟩]⟩) (λa H=>by kernel_rfl) (bd b86 Vb3) λx=>n9 (Qip (b:=ba6 (λr=>(Ga5 x r).run) x) (by kernel_rfl) (oc1 (λr=>(Ga5 x r).run) (λr=>r) x).symm)
structure P0 where
 ga8:List Pln
 (f0 d8 g7:Int)
noncomputable def oa4:List (Nat×Sum):=[(86,qb5)]
theorem Qa2:j5 prog G oa4:=⟨ec0,trivial⟩
structure E0 where
 ga8:List Pln
 (is7 f0 d8 g7:Int)
structure n5 where
 is8:Int
noncomputable def ja3(p:E0)(s:n5):St:=⟨eL tP p.ga8::.fn 86 [.ptr 0 0 0 0]::ra 5 (i p.is7::i s.is8::ra 10 []),[⟨0,3,[[i p.f0,i p.d8,i p.g7]],true,false,0⟩]⟩
noncomputable def B0{α:Type}(k:n5->α)(e:Nat->α)(z:α)(p:E0)(s:n5):α:=let t1:=(Ma8 ⟨(gL tP p.ga8 s.is8.toNat).n.x,(gL tP p.ga8 s.is8.toNat).n.y,(gL tP p.ga8 s.is8.toNat).n.z,(gL tP p.ga8 s.is8.toNat).b,p.f0,p.d8,p.g7⟩);(sl (decide (s.is8<p.is7)) (sl (inB s.is8 (List.length p.ga8)) (sl t1.bs0 (e 1) (k ⟨W (s.is8+1)⟩)) z) (e 2))
noncomputable def B7(p:E0)(s:n5):Stp n5:=B0 .next .exit .fail p s
noncomputable def W6:Lo E0 n5:=⟨En oa4,1,le3,[1,0,1,4,4],[0,1,7,8],.p,[⟨sLq tP::.fn 86 [.o (.ptr 0 0 0 0)]::ru2 5 (sIq::sIq::ru2 10 []),[⟨0,3,true,some [kLq 3]⟩],λa H=>(⟨aLq tP a 0,aIq a 7,hIq H 0 0 0,hIq H 0 0 1,hIq H 0 0 2⟩,⟨aIq a 8⟩)⟩],B7,[(none,λp s=>⟨[i s.is8],[⟨0,3,[[i p.f0,i p.d8,i p.g7]],true,false,0⟩]⟩),(some 0,λp s=>upq (ja3 p s) [(9,b (decide (s.is8<p.is7)))])],ja3⟩
theorem Ma9:W6.Ok:=Lo.ok [] (by kernel_rfl) .nil rfl (.cons (λa H=>by kernel_rfl) .nil) λp s=>(.of @B0 (λF _ _ _ _ _=>by unfold B0;(repeat' apply q8 (f:=F))<;>rfl) (by kernel_rfl))
structure P1 where
 alt:Nat
 is0:Int
noncomputable def B3{α:Type}(kk:P1->α)(x:P0):α:=let t1:=(lp (B7 (⟨rt tP x.ga8,(↑(List.length x.ga8):Int),x.f0,x.d8,x.g7⟩:E0)) (⟨0⟩:n5));(sl ((cnE tP x.ga8)&&true) (sl (Nat.beq t1.1 1) (kk ⟨1,t1.2.is8⟩) (sl (Nat.beq t1.1 2) (kk ⟨1,-1⟩) (kk ⟨0,0⟩))) (kk ⟨0,0⟩))
noncomputable def P2(x:P0):P1:=B3 (λr=>r) x
noncomputable def Z9(x:P0)(r:P1):DT (c7×List c8):=(.ite (Nat.beq r.alt 1) (.ret (i r.is0,[⟨0,3,[[i x.f0,i x.d8,i x.g7]],true,false,0⟩])) .fail)
theorem Xa7{α β:Type}(F:α->β)(kk:P1->α)(x:P0):F (B3 kk x)=B3 (λr=>F (kk r)) x:=by unfold B3;(repeat' apply q8 (f:=F))<;>rfl
noncomputable def ra6:Sum:=rb4 ⟨[sLq tP,.fn 86 [.o (.ptr 0 0 0 0)]],[⟨0,3,true,some [kLq 3]⟩],λa H=>(⟨aLq tP a 0,hIq H 0 0 0,hIq H 0 0 1,hIq H 0 0 2⟩,())⟩ (λx=>Z9 x (P2 x))
theorem Wa4:g8 prog G 112 ra6:=ca1 (enc:=λx=>⟨[eL tP x.ga8,.fn 86 [.ptr 0 0 0 0]],[⟨0,3,[[i x.f0,i x.d8,i x.g7]],true,false,0⟩]⟩) (λa H=>by kernel_rfl) (bd Ie6 Qa2) λx=>gb6 (.s .p (.s (.s .p (.b (.u W6.ls))) .p)) [W6.pr] (by kernel_rfl) (.cons Ma9 .nil) (Qip (b:=B3 (λr=>(Z9 x r).run) x) (by kernel_rfl) (Xa7 (λr=>(Z9 x r).run) (λr=>r) x).symm)
structure L0 where
 ga8:List Pln
 (f0 d8 g7:Int)
noncomputable def Ka0:List (Nat×Sum):=[(112,ra6)]
theorem Ga6:j5 prog G Ka0:=⟨Wa4,trivial⟩
structure L1 where
 alt:Nat
 bs0:Bool
noncomputable def u8{α:Type}(kk:L1->α)(x:L0):α:=let t1:=(P2 ⟨rt tP x.ga8,x.f0,x.d8,x.g7⟩);(sl ((cnE tP x.ga8)&&true) (sl (Nat.beq t1.alt 1) (kk ⟨1,decide (t1.is0>=0)⟩) (kk ⟨0,false⟩)) (kk ⟨0,false⟩))
noncomputable def L2(x:L0):L1:=u8 (λr=>r) x
noncomputable def S4(x:L0)(r:L1):DT (c7×List c8):=(.ite (Nat.beq r.alt 1) (.ret (b r.bs0,[⟨0,3,[[i x.f0,i x.d8,i x.g7]],true,false,0⟩])) .fail)
theorem Na0{α β:Type}(F:α->β)(kk:L1->α)(x:L0):F (u8 kk x)=u8 (λr=>F (kk r)) x:=by unfold u8;(repeat' apply q8 (f:=F))<;>rfl
noncomputable def ja4:Sum:=rb4 ⟨[sLq tP,.fn 86 [.o (.ptr 0 0 0 0)]],[⟨0,3,true,some [kLq 3]⟩],λa H=>(⟨aLq tP a 0,hIq H 0 0 0,hIq H 0 0 1,hIq H 0 0 2⟩,())⟩ (λx=>S4 x (L2 x))
theorem Ka1:g8 prog G 85 ja4:=ca1 (enc:=λx=>⟨[eL tP x.ga8,.fn 86 [.ptr 0 0 0 0]],[⟨0,3,[[i x.f0,i x.d8,i x.g7]],true,false,0⟩]⟩) (λa H=>by kernel_rfl) (bd b85 Ga6) λx=>n9 (Qip (b:=u8 (λr=>(S4 x r).run) x) (by kernel_rfl) (Na0 (λr=>(S4 x r).run) (λr=>r) x).symm)
noncomputable def Wa5:List (Nat×Sum):=[(53,ta1),(85,ja4)]
theorem oc2:j5 prog G Wa5:=⟨Aa1,Ka1,trivial⟩
structure ja5 where
 (ga8 Bb5:List Pln)
 (is9 A6:Int)
 Be5:Nat
 Nd8:Nat->List c7
 (Gc0 f0 d8 g7 i9:Int)
structure O7 where
 Gc1:Int
noncomputable def ib9(p:ja5)(s:O7):St:=⟨eL tP p.ga8::ra 3 (.ptr 0 0 0 0::ra 3 (eL tP p.Bb5::i p.is9::i p.A6::ra 6 (.tree 4 p.Be5 p.Nd8::i p.Gc0::i s.Gc1::ra 18 []))),[⟨0,4,[[i p.f0,i p.d8,i p.g7,i p.i9]],true,false,0⟩]⟩
noncomputable def ca9{α:Type}(k:O7->α)(e:Nat->α)(z:α)(p:ja5)(s:O7):α:=let t1:=(R2 (⟨p.f0,p.d8,p.g7⟩:V3) (⟨toI (hdA (p.Nd8 s.Gc1.toNat)),toI (hdA (tlA (p.Nd8 s.Gc1.toNat))),toI (hdA (tlA (tlA (p.Nd8 s.Gc1.toNat))))⟩:V3));let t2:=(L2 ⟨rt tP p.ga8,t1.x,t1.y,t1.z⟩);(sl (decide (s.Gc1<p.Gc0)) (sl (inB s.Gc1 p.Be5) (sl ((Nat.ble 4 (len (p.Nd8 s.Gc1.toNat)))&&(ra5 [CK.int .i64,CK.int .i64,CK.int .i64,CK.int .i64] (p.Nd8 s.Gc1.toNat))) (sl (!((t1.x==0)&&((t1.y==0)&&((t1.z==0)&&true)))) (sl ((cnE tP p.ga8)&&true) (sl (Nat.beq t2.alt 1) (sl t2.bs0 (e 1) (k ⟨W (s.Gc1+1)⟩)) z) z) (k ⟨W (s.Gc1+1)⟩)) z) z) (e 2))
noncomputable def Y3(p:ja5)(s:O7):Stp O7:=ca9 .next .exit .fail p s
noncomputable def Na1:Lo ja5 O7:=⟨En Wa5,0,pe4,[1,0,1,4,4,1,1,0,4,1,1,4,4],[0,4,8,9,10,17,18,19],.p,[⟨sLq tP::ru2 3 (sPq 0::ru2 3 (sLq tP::sIq::sIq::ru2 6 (sTq 4::sIq::sIq::ru2 18 []))),[⟨0,4,true,some [kLq 4]⟩],λa H=>(⟨aLq tP a 0,aLq tP a 8,aIq a 9,aIq a 10,aNq a 17,aGq a 17,aIq a 18,hIq H 0 0 0,hIq H 0 0 1,hIq H 0 0 2,hIq H 0 0 3⟩,⟨aIq a 19⟩)⟩],Y3,[(none,λp s=>⟨[b true],[]⟩),(some 2,λp s=>upq (ib9 p s) [(20,b (decide (s.Gc1<p.Gc0)))])],ib9⟩
theorem ec1:Na1.Ok:=Lo.ok [] (by kernel_rfl) .nil rfl (.cons (λa H=>by kernel_rfl) .nil) λp s=>(.of @ca9 (λF _ _ _ _ _=>by unfold ca9;(repeat' apply q8 (f:=F))<;>rfl) (by kernel_rfl))
structure ja6 where
 is9:Int
structure O8 where
 (ga8 Bb5:List Pln)
 A6:Int
noncomputable def jb0(p:ja6)(s:O8):St:=⟨eL tP s.ga8::ra 7 (eL tP s.Bb5::i p.is9::i s.A6::ra 27 []),[]⟩
noncomputable def da0{α:Type}(k:O8->α)(e:Nat->α)(z:α)(p:ja6)(s:O8):α:=let t1:=(lp (Y3 (⟨rt tP s.ga8,rt tP s.Bb5,p.is9,s.A6,s.A6.toNat-0,(λk=>(λk=>(tP).row (gL tP s.ga8 k)) (0+k)),(↑(s.A6.toNat-0):Int),(gL tP s.Bb5 s.A6.toNat).n.x,(gL tP s.Bb5 s.A6.toNat).n.y,(gL tP s.Bb5 s.A6.toNat).n.z,(gL tP s.Bb5 s.A6.toNat).b⟩:ja5)) (⟨0⟩:O7));(sl (decide (s.A6<p.is9)) (sl (inB s.A6 (List.length s.Bb5)) (sl (inB s.A6 ((List.length s.ga8)+1)) (sl ((cnE tP s.ga8)&&((cnE tP s.Bb5)&&true)) (sl (Nat.beq t1.1 1) (e 1) (sl (Nat.beq t1.1 2) (k ⟨rt tP s.ga8,rt tP s.Bb5,W (s.A6+1)⟩) z)) z) z) z) (e 2))
noncomputable def Y4(p:ja6)(s:O8):Stp O8:=da0 .next .exit .fail p s
noncomputable def Na2:Lo ja6 O8:=⟨En Wa5,0,pe4,[1,0,1,4,4],[0,8,9,10],.s .p (.s .p (.s (.b (.s .p (.s .p (.b (.u Na1.ls))))) .p)),[⟨sLq tP::ru2 7 (sLq tP::sIq::sIq::ru2 27 []),[],λa H=>(⟨aIq a 9⟩,⟨aLq tP a 0,aLq tP a 8,aIq a 10⟩)⟩],Y4,[(none,λp s=>⟨[b true],[]⟩),(some 0,λp s=>upq (jb0 p s) [(11,b (decide (s.A6<p.is9)))])],jb0⟩
theorem ec2:Na2.Ok:=Lo.ok [Na1.pr] (by kernel_rfl) (.cons ec1 .nil) rfl (.cons (λa H=>by kernel_rfl) .nil) λp s=>(.of @da0 (λF _ _ _ _ _=>by unfold da0;(repeat' apply q8 (f:=F))<;>rfl) (by kernel_rfl))
noncomputable def ua0(x:List Pln):Option (c7×List c8):=let t1:=(lp (Y4 (⟨(↑(List.length x):Int)⟩:ja6)) (⟨rt tP x,rt tP x,0⟩:O8));(sl ((cnE tP x)&&((cnE tP x)&&true)) (sl (Nat.beq t1.1 1) (some (b true,[])) (sl (Nat.beq t1.1 2) (some (b false,[])) none)) none)
noncomputable def ka0(x:List Pln):Bool:=J0 (one r1B) (ua0 x)
noncomputable def ka1(x:List Pln):Bool:=okO (one r1B) (ua0 x)
noncomputable def Ib7:Sum:=K2 (La8 tP) (λx=>.guard (ka1 x) (.ret ((one r1B).enc (ka0 x),[])))
theorem Ac6:g8 prog G 44 Ib7:=ta0 (bd b44 oc2) (one r1B) (o:=ua0) λx=>gb6 (.s .p (.s (.s .p (.b (.u Na2.ls))) .p)) [Na2.pr] (by kernel_rfl) (.cons ec2 .nil) (by kernel_rfl)
structure qa7 where
 (Oa0 Oa1 Oa2:Int)
 K3:List Pln
noncomputable def ab1:List (Nat×Sum):=[(43,Oa9),(44,Ib7)]
theorem Ob2:j5 prog G ab1:=⟨cb8,Ac6,trivial⟩
structure G5 where
 Oa3:List Pln
 is8:Int
 K3:List Pln
 (Eb8 Eb9 Fb0:Int)
structure n4 where
 ph:Nat
 is9:Int
 ns4:Nat
 eh2:List (List c7)
noncomputable def Ka2(p:G5)(s:n4):St:=⟨.unk::.unk::.ptr 1 0 0 0::.unk::.v (.slice none 0 0)::.unk::.unk::eL tP p.Oa3::i p.is8::i s.is9::ra 15 [],[⟨0,1,[[eL tP p.K3]],true,false,0⟩,⟨0,3,[[i p.Eb8,i p.Eb9,i p.Fb0]],true,false,0⟩]⟩
noncomputable def Ka3(p:G5)(s:n4):St:=⟨.unk::.unk::.ptr 1 0 0 0::.unk::.sl 2 0 s.ns4 0::.unk::.unk::eL tP p.Oa3::i p.is8::i s.is9::ra 15 [],[⟨0,1,[[eL tP p.K3]],true,false,0⟩,⟨0,3,[[i p.Eb8,i p.Eb9,i p.Fb0]],true,false,0⟩,⟨45,4,s.eh2,true,false,0⟩]⟩
noncomputable def Fb8(p:G5)(s:n4):St:=(sel (Nat.beq s.ph 1) (Ka3 p s) (Ka2 p s))
noncomputable def G6{α:Type}(k:n4->α)(e:Nat->α)(z:α)(p:G5)(s:n4):α:=let t1:=(ha4 (gL tP p.Oa3 s.is9.toNat) (⟨p.Eb8,p.Eb9,p.Fb0⟩:V3));(sl (decide (s.is9<p.is8)) (sl (inB s.is9 (List.length p.Oa3)) (sl (ha5 (gL tP p.Oa3 s.is9.toNat) (⟨p.Eb8,p.Eb9,p.Fb0⟩:V3)) (sl (t1==0) (k ⟨1,W (s.is9+1),1,[[i (gL tP p.Oa3 s.is9.toNat).n.x,i (gL tP p.Oa3 s.is9.toNat).n.y,i (gL tP p.Oa3 s.is9.toNat).n.z,i (gL tP p.Oa3 s.is9.toNat).b]]⟩) (k ⟨0,W (s.is9+1),0,[]⟩)) z) z) (e 1))
noncomputable def G7{α:Type}(k:n4->α)(e:Nat->α)(z:α)(p:G5)(s:n4):α:=let t1:=(ha4 (gL tP p.Oa3 s.is9.toNat) (⟨p.Eb8,p.Eb9,p.Fb0⟩:V3));(sl (decide (s.is9<p.is8)) (sl (inB s.is9 (List.length p.Oa3)) (sl (ha5 (gL tP p.Oa3 s.is9.toNat) (⟨p.Eb8,p.Eb9,p.Fb0⟩:V3)) (sl (t1==0) (sl (Nat.beq s.ns4 (len s.eh2)&&Nat.ble ((s.ns4+1)*32) room) (k ⟨1,W (s.is9+1),s.ns4+1,app s.eh2 [[i (gL tP p.Oa3 s.is9.toNat).n.x,i (gL tP p.Oa3 s.is9.toNat).n.y,i (gL tP p.Oa3 s.is9.toNat).n.z,i (gL tP p.Oa3 s.is9.toNat).b]]⟩) z) (k ⟨1,W (s.is9+1),s.ns4,s.eh2⟩)) z) z) (e 2))
noncomputable def fa0(p:G5)(s:n4):Stp n4:=(sel (Nat.beq s.ph 1) (G7 .next .exit .fail p s) (G6 .next .exit .fail p s))
noncomputable def xa3:Lo G5 n4:=⟨En ab1,1,we4,[1,1,0,1,4,4],[2,4,7,8,9],.p,[⟨sUq::sUq::sPq 1::sUq::.s (.o .nil)::sUq::sUq::sLq tP::sIq::sIq::ru2 15 [],[⟨0,1,true,some [[.c 4 (nL tP)]]⟩,⟨0,3,true,some [kLq 3]⟩],λa H=>(⟨aLq tP a 7,aIq a 8,hLq tP H 0 0 0,hIq H 1 0 0,hIq H 1 0 1,hIq H 1 0 2⟩,⟨0,aIq a 9,0,[]⟩)⟩,⟨sUq::sUq::sPq 1::sUq::.s (.o (.sl 2 0 (some 0) none))::sUq::sUq::sLq tP::sIq::sIq::ru2 15 [],[⟨0,1,true,some [[.c 4 (nL tP)]]⟩,⟨0,3,true,some [kLq 3]⟩,⟨45,4,true,none⟩],λa H=>(⟨aLq tP a 7,aIq a 8,hLq tP H 0 0 0,hIq H 1 0 0,hIq H 1 0 1,hIq H 1 0 2⟩,⟨1,aIq a 9,slN (slT a 4),elT H 2⟩)⟩],fa0,[(some 0,λp s=>upq (Ka2 p s) [(10,b (decide (s.is9<p.is8)))]),(some 0,λp s=>upq (Ka3 p s) [(10,b (decide (s.is9<p.is8)))])],Fb8⟩
theorem Fb9:xa3.Ok:=Lo.ok [] (by kernel_rfl) .nil rfl (.cons (λa H=>by kernel_rfl) (.cons (λa H=>by kernel_rfl) .nil)) λp s=>(.sel (Nat.beq s.ph 1) (.of @G7 (λF _ _ _ _ _=>by unfold G7;(repeat' apply q8 (f:=F))<;>rfl) (by kernel_rfl)) (.of @G6 (λF _ _ _ _ _=>by unfold G6;(repeat' apply q8 (f:=F))<;>rfl) (by kernel_rfl)))
structure qa8 where
 alt:Nat
 bs0:Bool
 K3:List Pln
noncomputable def Y5{α:Type}(kk:qa8->α)(x:qa7):α:=let t1:=(lp (fa0 (⟨rt tP x.K3,(↑(List.length x.K3):Int),rt tP x.K3,x.Oa0,x.Oa1,x.Oa2⟩:G5)) (⟨0,0,0,[]⟩:n4));let t2:=(ka0 []);let t3:=(ka0 (slR tP t1.2.eh2 0 t1.2.ns4));(sl ((cnE tP x.K3)&&((cnE tP x.K3)&&true)) (sl (Nat.beq t1.1 1) (sl (ka1 []) (kk ⟨1,!t2,rt tP x.K3⟩) (kk ⟨0,false,[]⟩)) (sl (Nat.beq t1.1 2) (sl (okS tP t1.2.eh2 0 t1.2.ns4) (sl (ka1 (slR tP t1.2.eh2 0 t1.2.ns4)) (kk ⟨1,!t3,rt tP x.K3⟩) (kk ⟨0,false,[]⟩)) (kk ⟨0,false,[]⟩)) (kk ⟨0,false,[]⟩))) (kk ⟨0,false,[]⟩))
noncomputable def Q6(x:qa7):qa8:=Y5 (λr=>r) x
noncomputable def Ba8(x:qa7)(r:qa8):DT (c7×List c8):=(.ite (Nat.beq r.alt 1) (.ret (b r.bs0,[⟨0,1,[[eL tP r.K3]],true,false,0⟩])) .fail)
theorem ec3{α β:Type}(F:α->β)(kk:qa8->α)(x:qa7):F (Y5 kk x)=Y5 (λr=>F (kk r)) x:=by unfold Y5;(repeat' apply q8 (f:=F))<;>rfl
noncomputable def Ga7:Sum:=rb4 ⟨[.agg (kLq 3),sPq 0],[⟨0,1,true,some [[.c 4 (nL tP)]]⟩],λa H=>(⟨cIq a 0 0,cIq a 0 1,cIq a 0 2,hLq tP H 0 0 0⟩,())⟩ (λx=>Ba8 x (Q6 x))
theorem ab2:g8 prog G 42 Ga7:=ca1 (enc:=λx=>⟨[.agg [i x.Oa0,i x.Oa1,i x.Oa2],.ptr 0 0 0 0],[⟨0,1,[[eL tP x.K3]],true,false,0⟩]⟩) (λa H=>by kernel_rfl) (bd b42 Ob2) λx=>gb6 (.s .p (.s .p (.s (.s .p (.b (.u xa3.ls))) .p))) [xa3.pr] (by kernel_rfl) (.cons Fb9 .nil) (Qip (b:=Y5 (λr=>(Ba8 x r).run) x) (by kernel_rfl) (ec3 (λr=>(Ba8 x r).run) (λr=>r) x).symm)
structure T8 where
 ns0:Nat
 eh0:List (List c7)
 r8:List Pln
noncomputable def ua1:List (Nat×Sum):=[(42,Ga7)]
theorem Xa8:j5 prog G ua1:=⟨ab2,trivial⟩
structure J4 where
 ns0:Nat
 is7:Int
 eh0:List (List c7)
structure o4 where
 is8:Int
 r8:List Pln
noncomputable def oa5(p:J4)(s:o4):St:=⟨.sl 0 0 p.ns0 0::.fn 42 [.ptr 1 0 0 0]::ra 5 (i p.is7::i s.is8::ra 10 []),[⟨29,3,p.eh0,true,false,0⟩,⟨0,1,[[eL tP s.r8]],true,false,0⟩]⟩
noncomputable def E1{α:Type}(k:o4->α)(e:Nat->α)(z:α)(p:J4)(s:o4):α:=let t1:=(Q6 ⟨(rdR tV p.eh0 (0+s.is8.toNat)).x,(rdR tV p.eh0 (0+s.is8.toNat)).y,(rdR tV p.eh0 (0+s.is8.toNat)).z,rt tP s.r8⟩);(sl (decide (s.is8<p.is7)) (sl (inB s.is8 p.ns0) (sl (ldR tV p.eh0 (0+s.is8.toNat)) (sl ((cnE tP s.r8)&&true) (sl (Nat.beq t1.alt 1) (sl t1.bs0 (e 1) (k ⟨W (s.is8+1),t1.K3⟩)) z) z) z) z) (e 2))
noncomputable def G8(p:J4)(s:o4):Stp o4:=E1 .next .exit .fail p s
noncomputable def aa9:Lo J4 o4:=⟨En ua1,2,Ud1,[1,0,1,4,4],[0,1,7,8],.p,[⟨.s (.o (.sl 0 0 (some 0) none))::.fn 42 [.o (.ptr 1 0 0 0)]::ru2 5 (sIq::sIq::ru2 10 []),[⟨29,3,true,none⟩,⟨0,1,true,some [[.c 4 (nL tP)]]⟩],λa H=>(⟨slN (slT a 0),aIq a 7,elT H 0⟩,⟨aIq a 8,hLq tP H 1 0 0⟩)⟩],G8,[(none,λp s=>let t1:=(Q6 ⟨(rdR tV p.eh0 (0+s.is8.toNat)).x,(rdR tV p.eh0 (0+s.is8.toNat)).y,(rdR tV p.eh0 (0+s.is8.toNat)).z,rt tP s.r8⟩);⟨[i s.is8],[⟨29,3,p.eh0,true,false,0⟩,⟨0,1,[[eL tP t1.K3]],true,false,0⟩]⟩),(some 0,λp s=>upq (oa5 p s) [(9,b (decide (s.is8<p.is7)))])],oa5⟩
theorem Wa6:aa9.Ok:=Lo.ok [] (by kernel_rfl) .nil rfl (.cons (λa H=>by kernel_rfl) .nil) λp s=>(.of @E1 (λF _ _ _ _ _=>by unfold E1;(repeat' apply q8 (f:=F))<;>rfl) (by kernel_rfl))
structure T9 where
 alt:Nat
 is0:Int
 r8:List Pln
noncomputable def F4{α:Type}(kk:T9->α)(x:T8):α:=let t1:=(lp (G8 (⟨x.ns0,(↑x.ns0:Int),x.eh0⟩:J4)) (⟨0,rt tP x.r8⟩:o4));let t2:=(Q6 ⟨(rdR tV x.eh0 (0+t1.2.is8.toNat)).x,(rdR tV x.eh0 (0+t1.2.is8.toNat)).y,(rdR tV x.eh0 (0+t1.2.is8.toNat)).z,rt tP t1.2.r8⟩);(sl ((cnE tP x.r8)&&true) (sl (Nat.beq t1.1 1) (kk ⟨1,t1.2.is8,t2.K3⟩) (sl (Nat.beq t1.1 2) (kk ⟨1,-1,t1.2.r8⟩) (kk ⟨0,0,[]⟩))) (kk ⟨0,0,[]⟩))
noncomputable def U0(x:T8):T9:=F4 (λr=>r) x
noncomputable def ea3(x:T8)(r:T9):DT (c7×List c8):=(.ite (Nat.beq r.alt 1) (.ret (i r.is0,[⟨29,3,x.eh0,true,false,0⟩,⟨0,1,[[eL tP r.r8]],true,false,0⟩])) .fail)
theorem jb1{α β:Type}(F:α->β)(kk:T9->α)(x:T8):F (F4 kk x)=F4 (λr=>F (kk r)) x:=by unfold F4;(repeat' apply q8 (f:=F))<;>rfl
noncomputable def ya5:Sum:=rb4 ⟨[.s (.o (.sl 0 0 (some 0) none)),.fn 42 [.o (.ptr 1 0 0 0)]],[⟨29,3,true,none⟩,⟨0,1,true,some [[.c 4 (nL tP)]]⟩],λa H=>(⟨slN (slT a 0),elT H 0,hLq tP H 1 0 0⟩,())⟩ (λx=>ea3 x (U0 x))
theorem db5:g8 prog G 87 ya5:=ca1 (enc:=λx=>⟨[.sl 0 0 x.ns0 0,.fn 42 [.ptr 1 0 0 0]],[⟨29,3,x.eh0,true,false,0⟩,⟨0,1,[[eL tP x.r8]],true,false,0⟩]⟩) (λa H=>by kernel_rfl) (bd b87 Xa8) λx=>gb6 (.s .p (.s (.s .p (.b (.u aa9.ls))) .p)) [aa9.pr] (by kernel_rfl) (.cons Wa6 .nil) (Qip (b:=F4 (λr=>(ea3 x r).run) x) (by kernel_rfl) (jb1 (λr=>(ea3 x r).run) (λr=>r) x).symm)
structure U1 where
 ns0:Nat
 eh0:List (List c7)
 r8:List Pln
noncomputable def ua2:List (Nat×Sum):=[(87,ya5),(42,Ga7)]
theorem Xa9:j5 prog G ua2:=⟨db5,ab2,trivial⟩
structure J5 where
 ns0:Nat
structure p6 where
 (is5 is6:Int)
 eh0:List (List c7)
 r8:List Pln
noncomputable def oa6(p:J5)(s:p6):St:=⟨.sl 0 0 p.ns0 0::.fn 42 [.ptr 1 0 0 0]::ra 3 (i s.is5::i s.is6::ra 35 []),[⟨29,3,s.eh0,true,false,0⟩,⟨0,1,[[eL tP s.r8]],true,false,0⟩]⟩
noncomputable def E2{α:Type}(k:p6->α)(e:Nat->α)(z:α)(p:J5)(s:p6):α:=let t1:=(Q6 ⟨(rdR tV s.eh0 (0+s.is6.toNat)).x,(rdR tV s.eh0 (0+s.is6.toNat)).y,(rdR tV s.eh0 (0+s.is6.toNat)).z,rt tP s.r8⟩);(sl (decide (s.is6<(↑p.ns0:Int))) (sl (inB s.is6 p.ns0) (sl (ldR tV s.eh0 (0+s.is6.toNat)) (sl ((cnE tP s.r8)&&true) (sl (Nat.beq t1.alt 1) (sl (!t1.bs0) (sl (inB s.is5 p.ns0) (sl ((Nat.blt (0+s.is5.toNat) (len s.eh0))&&(Nat.ble (0+3) (len (i8 s.eh0 (0+s.is5.toNat))))) (k ⟨W (s.is5+1),W (s.is6+1),setAt s.eh0 (0+s.is5.toNat) (C9 (i8 s.eh0 (0+s.is5.toNat)) 0 [i (rdR tV s.eh0 (0+s.is6.toNat)).x,i (rdR tV s.eh0 (0+s.is6.toNat)).y,i (rdR tV s.eh0 (0+s.is6.toNat)).z]),t1.K3⟩) z) z) (k ⟨s.is5,W (s.is6+1),s.eh0,t1.K3⟩)) z) z) z) z) (e 1))
noncomputable def A4(p:J5)(s:p6):Stp p6:=E2 .next .exit .fail p s
noncomputable def ba0:Lo J5 p6:=⟨En ua2,2,we5,[1,1,1,0,1,4,4],[0,1,5,6],.p,[⟨.s (.o (.sl 0 0 (some 0) none))::.fn 42 [.o (.ptr 1 0 0 0)]::ru2 3 (sIq::sIq::ru2 35 []),[⟨29,3,true,none⟩,⟨0,1,true,some [[.c 4 (nL tP)]]⟩],λa H=>(⟨slN (slT a 0)⟩,⟨aIq a 5,aIq a 6,elT H 0,hLq tP H 1 0 0⟩)⟩],A4,[(some 0,λp s=>upq (oa6 p s) [(16,i s.is6),(17,.sl 0 0 p.ns0 0),(18,i (↑p.ns0:Int)),(19,b (decide (s.is6<(↑p.ns0:Int))))])],oa6⟩
theorem Wa7:ba0.Ok:=Lo.ok [] (by kernel_rfl) .nil rfl (.cons (λa H=>by kernel_rfl) .nil) λp s=>(.of @E2 (λF _ _ _ _ _=>by unfold E2;(repeat' apply q8 (f:=F))<;>rfl) (by kernel_rfl))
structure U2 where
 (alt ns0:Nat)
 eh0:List (List c7)
 r8:List Pln
noncomputable def F5{α:Type}(kk:U2->α)(x:U1):α:=let t1:=(U0 ⟨x.ns0,x.eh0,rt tP x.r8⟩);let t2:=(lp (A4 (⟨x.ns0⟩:J5)) (⟨t1.is0,W (t1.is0+1),x.eh0,rt tP t1.r8⟩:p6));(sl ((cnE tP x.r8)&&true) (sl (Nat.beq t1.alt 1) (sl (t1.is0==(-1)) (kk ⟨1,x.ns0,x.eh0,t1.r8⟩) (sl ((cnE tP t1.r8)&&true) (sl (Nat.beq t2.1 1) (sl (inB t2.2.is5 (x.ns0+1)) (sl (inB t2.2.is5 (x.ns0+1)) (kk ⟨1,t2.2.is5.toNat-0,app (I1 t2.2.eh0 (0+t2.2.is5.toNat)) (app (List.replicate (x.ns0-t2.2.is5.toNat) [i 0,i 0,i 0]) (j6 t2.2.eh0 ((0+t2.2.is5.toNat)+(x.ns0-t2.2.is5.toNat)))),t2.2.r8⟩) (kk ⟨0,0,[],[]⟩)) (kk ⟨0,0,[],[]⟩)) (kk ⟨0,0,[],[]⟩)) (kk ⟨0,0,[],[]⟩))) (kk ⟨0,0,[],[]⟩)) (kk ⟨0,0,[],[]⟩))
noncomputable def U3(x:U1):U2:=F5 (λr=>r) x
noncomputable def ea4(x:U1)(r:U2):DT (c7×List c8):=(.ite (Nat.beq r.alt 1) (.ret (.sl 0 0 r.ns0 0,[⟨29,3,r.eh0,true,false,0⟩,⟨0,1,[[eL tP r.r8]],true,false,0⟩])) .fail)
theorem jb2{α β:Type}(F:α->β)(kk:U2->α)(x:U1):F (F5 kk x)=F5 (λr=>F (kk r)) x:=by unfold F5;(repeat' apply q8 (f:=F))<;>rfl
noncomputable def ya6:Sum:=rb4 ⟨[.s (.o (.sl 0 0 (some 0) none)),.fn 42 [.o (.ptr 1 0 0 0)]],[⟨29,3,true,none⟩,⟨0,1,true,some [[.c 4 (nL tP)]]⟩],λa H=>(⟨slN (slT a 0),elT H 0,hLq tP H 1 0 0⟩,())⟩ (λx=>ea4 x (U3 x))
theorem db6:g8 prog G 45 ya6:=ca1 (enc:=λx=>⟨[.sl 0 0 x.ns0 0,.fn 42 [.ptr 1 0 0 0]],[⟨29,3,x.eh0,true,false,0⟩,⟨0,1,[[eL tP x.r8]],true,false,0⟩]⟩) (λa H=>by kernel_rfl) (bd b45 Xa9) λx=>gb6 (.s .p (.s .p (.s .p (.s (.s .p (.b (.u ba0.ls))) .p)))) [ba0.pr] (by kernel_rfl) (.cons Wa7 .nil) (Qip (b:=F5 (λr=>(ea4 x r).run) x) (by kernel_rfl) (jb2 (λr=>(ea4 x r).run) (λr=>r) x).symm)
noncomputable def Vb4:List (Nat×Sum):=[(73,xa2),(74,ka9),(76,oa3)]
theorem Ob3:j5 prog G Vb4:=⟨Na8,Ba7,Da9,trivial⟩
structure qa9 where
 (alt ns0:Nat)
 eh0:List (List c7)
noncomputable def Y6{α:Type}(kk:qa9->α)(x:V3×List V3):α:=let t1:=(Z8 (hC tV (λk=>(tV).row (gL tV (x.1::x.2) k)),tC tV (List.length x.2) (λk=>(tV).row (gL tV (x.1::x.2) k))));let t2:=(L8 ⟨t1.ns0,app (bL tV (qb3 (slR tV t1.eh0 0 t1.ns0))) (j6 t1.eh0 t1.ns0)⟩);(sl (okL tV (List.length x.2+1) (λk=>(tV).row (gL tV (x.1::x.2) k))) (sl (Nat.beq t1.alt 1) (sl (Bool.and (Nat.ble t1.ns0 room) (Bool.and (Nat.ble t1.ns0 (len t1.eh0)) (okS tV t1.eh0 0 t1.ns0))) (sl (Nat.beq t2.alt 1) (kk ⟨1,t2.ns0,t2.eh0⟩) (kk ⟨0,0,[]⟩)) (kk ⟨0,0,[]⟩)) (kk ⟨0,0,[]⟩)) (kk ⟨0,0,[]⟩))
noncomputable def ra0(x:V3×List V3):qa9:=Y6 (λr=>r) x
noncomputable def Ba9(r:qa9):DT (c7×List c8):=(.ite (Nat.beq r.alt 1) (.ret (.sl 0 0 r.ns0 0,[⟨29,3,r.eh0,true,false,0⟩])) .fail)
theorem ec4{α β:Type}(F:α->β)(kk:qa9->α)(x:V3×List V3):F (Y6 kk x)=Y6 (λr=>F (kk r)) x:=by unfold Y6;(repeat' apply q8 (f:=F))<;>rfl
noncomputable def ga1:Sum:=K2 (hd9 tV) (λx=>Ba9 (ra0 x))
theorem la8:g8 prog G 35 ga1:=Ia1 (bd b35 Ob3) λx=>n9 (Qip (b:=Y6 (λr=>(Ba9 r).run) x) (by kernel_rfl) (ec4 (λr=>(Ba9 r).run) (λr=>r) x).symm)
noncomputable def oc3:List (Nat×Sum):=[(11,Vb2),(35,ga1),(45,ya6)]
theorem ec5:j5 prog G oc3:=⟨Ib6,la8,db6,trivial⟩
noncomputable def oa7(x:V3×List V3):Option (c7×List c8):=let t1:=(Qa0 (hC tV (λk=>(tV).row (gL tV (x.1::x.2) k)),tC tV (List.length x.2) (λk=>(tV).row (gL tV (x.1::x.2) k))));let t2:=(ra0 (hC tV (λk=>(tV).row (gL tV (x.1::x.2) k)),tC tV (List.length x.2) (λk=>(tV).row (gL tV (x.1::x.2) k))));let t3:=(U3 ⟨t2.ns0,t2.eh0,rt tP t1.1⟩);(sl (okL tV (List.length x.2+1) (λk=>(tV).row (gL tV (x.1::x.2) k))) (sl (Qa1 (hC tV (λk=>(tV).row (gL tV (x.1::x.2) k)),tC tV (List.length x.2) (λk=>(tV).row (gL tV (x.1::x.2) k)))) (sl (t1.2 != 0) (some (.tup [.v (.slice none 0 0),i t1.2],[])) (sl (okL tV (List.length x.2+1) (λk=>(tV).row (gL tV (x.1::x.2) k))) (sl (Nat.beq t2.alt 1) (sl ((cnE tP t1.1)&&true) (sl (Nat.beq t3.alt 1) (some (.tup [.sl 0 0 t3.ns0 0,i 0],[⟨29,3,t3.eh0,true,false,0⟩])) none) none) none) none)) none) none)
noncomputable def xb4(x:V3×List V3):List V3×Int:=J0 (two (r1L tV) r1I) (oa7 x)
noncomputable def xb5(x:V3×List V3):Bool:=okO (two (r1L tV) r1I) (oa7 x)
noncomputable def Ac7:Sum:=K2 (hd9 tV) (λx=>.guard (xb5 x) (.ret ((two (r1L tV) r1I).enc (xb4 x),[])))
theorem oc4:g8 prog G 13 Ac7:=ta0 (bd b13 ec5) (two (r1L tV) r1I) (o:=oa7) λx=>n9 (by kernel_rfl)
end Go.Ev.Ce
namespace Go.Ev.L
open Go Go.Ev
noncomputable def qe6:Cod Unit where
 enc _:=.v (.slice none 0 0)
 dec x:=match x with
  |.v (.slice none 0 0)=>some ()
  |_=>none
 grd _:=true
 ok x a hx _:=by
  split at hx
  ·exact .refl _
  ·cases hx
noncomputable def cE0:Cod (Addr×Nat) where
 enc z:=.v (.slice (some z.1) 0 z.2)
 dec x:=match x with
  |.v (.slice (some a) 0 c)=>some (a,c)
  |_=>none
 grd _:=true
 ok x a hx _:=by
  split at hx
  ·cases hx;exact .refl _
  ·cases hx
section
variable{α:Type}{t:Ty α}{P:Program}{G:Nat->List Value}{f:FuncId}
theorem Eb0{β:Type}{c:Cod β}{k k':β->DT (c7×List c8)}(h:g8 P G f (K2 c k))(hk:∀a r,(k' a).run=some r->(k a).run=some r):g8 P G f (K2 c k'):=h.le λargs blks r hr=>by
 unfold K2 at hr ⊢
 split at hr
 ·obtain⟨a,h1,hr⟩:=ba9 hr;obtain⟨g,hr⟩:=DT.run_guard_some hr;simp only[h1,onO,g];exact hk a r hr
 ·cases hr
theorem Ud6{k:List α->DT (c7×List c8)}(hA:g8 P G f (K2 (hd9 t) λz=>k (z.1::z.2)))(hN:g8 P G f (K2 qe6 λ_=>k []))(hE:g8 P G f (K2 cE0 λ_=>k [])):g8 P G f (K2 (La8 t) k):=by
 intro args blks r out he W ρ F w args' hH hlen hargs hG;unfold K2 at he
 split at he
 ·rename_i x;obtain⟨a,h1,he⟩:=ba9 he;obtain⟨g1,hk⟩:=DT.run_guard_some he;have nilCase:∀v',args'[0]?=some v'->v'=.slice none 0 0->a=[]->Sa8 P f/\Calls P f args'.toArray w λe w'=>∃r',e=.returned r'/\I9 W ρ [] F w r out r' w':=λv' hv e ha=>by
   subst ha;refine hN [.v (.slice none 0 0)] [] r out ?_ W ρ F w args' hH hlen (λi x' y' hx hy=>?_) hG
   ·exact hk
   ·match i with
    |0=>cases hx;rw[hv] at hy;cases hy;rw[e];exact .val (.cell (.v _))
    |i+1=>cases hx
  have emptyCase:∀v' ad c,args'[0]?=some v'->v'=.slice (some ad) 0 c->a=[]->Sa8 P f/\Calls P f args'.toArray w λe w'=>∃r',e=.returned r'/\I9 W ρ [] F w r out r' w':=λv' ad c hv e ha=>by
   subst ha;refine hE [.v (.slice (some ad) 0 c)] [] r out ?_ W ρ F w args' hH hlen (λi x' y' hx hy=>?_) hG
   ·exact hk
   ·match i with
    |0=>cases hx;rw[hv] at hy;cases hy;rw[e];exact .val (.cell (.v _))
    |i+1=>cases hx
  obtain⟨v',hv⟩:∃v',args'[0]?=some v':=by
   cases args' with
   |nil=>simp at hlen
   |cons v' r'=>exact⟨v',rfl⟩
  cases x with
  |tree e n get =>
   have hb:Nat.beq e t.es=true/\a=lsL t n get:=by
    have h1:(Bool.rec none (some (lsL t n get)) (Nat.beq e t.es):Option (List α))=some a:=h1;cases hb:Nat.beq e t.es with
    |false=>rw[hb] at h1;cases h1
    |true =>
     rw[hb] at h1;have h1:some (lsL t n get)=some a:=h1;injection h1 with h1;exact⟨rfl,h1.symm⟩
   cases n with
   |zero =>
    have ha:a=[]:=hb.2;have hm:=ia3 (hargs 0 _ v' rfl hv);cases hm with
    |tree _ _ _ ad cap cs hs hcap hes hF hw hr=>exact emptyCase _ ad cap hv rfl ha
    |nil=>exact nilCase _ hv rfl ha
   |succ m =>
    have ha:a=hC t get::tC t m get:=hb.2.trans (hd8 t m get);subst ha;refine hA [.tree e (m+1) get] [] r out ?_ W ρ F w args' hH hlen hargs hG;have hc:(hd9 t).dec (.tree e (m+1) get)=some (hC t get,tC t m get):=by
     show (Bool.rec none (some (hC t get,tC t m get)) (Nat.beq e t.es):Option (α×List α))=_;rw[hb.1]
    have hg:(hd9 t).grd (.tree e (m+1) get)=true:=g1;simp only[K2,hc,onO,hg];exact hk
  |v q =>
   have hq:=Z2 (hargs 0 _ v' rfl hv);unfold La8 at h1
   simp only at h1
   split at h1
   ·rename_i heq;cases heq
   ·rename_i heq;injection heq with heq;injection h1 with h1;exact nilCase v' hv (hq.trans heq) h1.symm
   ·rename_i ad c heq;injection heq with heq;injection h1 with h1;exact emptyCase v' _ _ hv (hq.trans heq) h1.symm
   ·cases h1
  |_=>cases h1
 ·cases he
end
end Go.Ev.L
namespace Go.Ev.Ce
open Go Go.Ev Go.Ev.L Go.Proofs
set_option maxRecDepth 100000
noncomputable def Ac8:List (Nat×Sum):=[(34,mb9),(35,ga1),(36,na5)]
theorem oc5:j5 prog G Ac8:=⟨Ib4,la8,va7,trivial⟩
noncomputable def db7(x:Unit):Option (c7×List c8):=let t1:=(Ba2 []);(sl (Ba3 []) (sl (t1 != 0) (some (.tup [.v (.slice none 0 0),i t1],[])) none) none)
noncomputable def db8(x:Unit):List Pln×Int:=J0 (two (r1L tP) r1I) (db7 x)
noncomputable def db9(x:Unit):Bool:=okO (two (r1L tP) r1I) (db7 x)
noncomputable def eb0:Sum:=K2 qe6 (λx=>.guard (db9 x) (.ret ((two (r1L tP) r1I).enc (db8 x),[])))
theorem Wa8:g8 prog G 11 eb0:=ta0 (bd b11 oc5) (two (r1L tP) r1I) (o:=db7) λx=>Cd8 .p [] (by kernel_rfl) .nil (by kernel_rfl)
noncomputable def ec6:List (Nat×Sum):=[(11,eb0),(35,ga1)]
theorem Vb5:j5 prog G ec6:=⟨Wa8,la8,trivial⟩
noncomputable def Na3(x:Unit):Option (c7×List c8):=let t1:=(db8 ());(sl (db9 ()) (sl (t1.2 != 0) (some (.tup [.v (.slice none 0 0),i t1.2],[])) none) none)
noncomputable def qb6(x:Unit):List V3×Int:=J0 (two (r1L tV) r1I) (Na3 x)
noncomputable def Na4(x:Unit):Bool:=okO (two (r1L tV) r1I) (Na3 x)
noncomputable def qb7:Sum:=K2 qe6 (λx=>.guard (Na4 x) (.ret ((two (r1L tV) r1I).enc (qb6 x),[])))
theorem jb3:g8 prog G 13 qb7:=ta0 (bd b13 Vb5) (two (r1L tV) r1I) (o:=Na3) λx=>n9 (by kernel_rfl)
noncomputable def Ac9:List (Nat×Sum):=[(36,na5)]
theorem oc6:j5 prog G Ac9:=⟨va7,trivial⟩
noncomputable def eb1(x:Addr×Nat):Option (c7×List c8):=none
noncomputable def Ib8(x:Addr×Nat):List Pln×Int:=J0 (two (r1L tP) r1I) (eb1 x)
noncomputable def Ib9(x:Addr×Nat):Bool:=okO (two (r1L tP) r1I) (eb1 x)
noncomputable def Jb0:Sum:=K2 cE0 (λx=>.guard (Ib9 x) (.ret ((two (r1L tP) r1I).enc (Ib8 x),[])))
theorem xb6:g8 prog G 11 Jb0:=ta0 (bd b11 oc6) (two (r1L tP) r1I) (o:=eb1) λx=>Cd8 .p [] (by kernel_rfl) .nil (by kernel_rfl)
noncomputable def ec7:List (Nat×Sum):=[(11,Jb0),(35,ga1)]
theorem Vb6:j5 prog G ec7:=⟨xb6,la8,trivial⟩
noncomputable def Na5(x:Addr×Nat):Option (c7×List c8):=let t1:=(Ib8 x);(sl (Ib9 x) (sl (t1.2 != 0) (some (.tup [.v (.slice none 0 0),i t1.2],[])) none) none)
noncomputable def oc7(x:Addr×Nat):List V3×Int:=J0 (two (r1L tV) r1I) (Na5 x)
noncomputable def oc8(x:Addr×Nat):Bool:=okO (two (r1L tV) r1I) (Na5 x)
noncomputable def oc9:Sum:=K2 cE0 (λx=>.guard (oc8 x) (.ret ((two (r1L tV) r1I).enc (oc7 x),[])))
theorem ec8:g8 prog G 13 oc9:=ta0 (bd b13 Vb6) (two (r1L tV) r1I) (o:=Na5) λx=>n9 (by kernel_rfl)
structure Gb0 where
structure xb7 where
structure xb8 where
structure Gb1 where
 alt:Nat
structure ec9 where
structure Vb7 where
structure Vb8 where
structure fc0 where
 alt:Nat
structure Ic8 where
structure Ic9 where
 alt:Nat
noncomputable def Jc0:List (Nat×Sum):=[]
theorem Bc0:j5 prog G Jc0:=trivial
noncomputable def Ca0(x:V3)(y:V3):Option (c7×List c8):=(sl (x.x != y.x) (some (b (decide (x.x<y.x)),[])) (sl (x.y != y.y) (some (b (decide (x.y<y.y)),[])) (some (b (decide (x.z<y.z)),[]))))
noncomputable def Ca1(x:V3)(y:V3):Bool:=J0 (one r1B) (Ca0 x y)
noncomputable def Qa3(x:V3)(y:V3):Bool:=okO (one r1B) (Ca0 x y)
noncomputable def Vb9:Sum:=Y2 (w9 tV) (w9 tV) (λx y=>.guard (Qa3 x y) (.ret ((one r1B).enc (Ca1 x y),[])))
theorem Jc1:g8 prog G 46 Vb9:=Xa3 (bd b46 Bc0) (one r1B) (o:=Ca0) λx y=>n9 (by kernel_rfl)
noncomputable def Bc1:List (Nat×Sum):=[(46,Vb9)]
theorem ld9:j5 prog G Bc1:=⟨Jc1,trivial⟩
structure Ka4 where
 i5:List V3
 (f0 d8 g7:Int)
structure da1 where
 is5:Int
noncomputable def Wb0(p:Ka4)(s:da1):St:=⟨eL tV p.i5::.unk::.unk::.ptr 0 0 0 0::.unk::i s.is5::ra 41 [],[⟨0,3,[[i p.f0,i p.d8,i p.g7]],true,false,0⟩]⟩
noncomputable def ua3{α:Type}(k:da1->α)(e:Nat->α)(z:α)(p:Ka4)(s:da1):α:=let t1:=(Ca1 (gL tV p.i5 s.is5.toNat) (⟨p.f0,p.d8,p.g7⟩:V3));(sl (decide (s.is5<(↑(List.length p.i5):Int))) (sl (inB s.is5 (List.length p.i5)) (sl (Qa3 (gL tV p.i5 s.is5.toNat) (⟨p.f0,p.d8,p.g7⟩:V3)) (sl t1 (k ⟨W (s.is5+1)⟩) (e 1)) z) z) (e 2))
noncomputable def ra1(p:Ka4)(s:da1):Stp da1:=ua3 .next .exit .fail p s
noncomputable def xb9:Lo Ka4 da1:=⟨En Bc1,0,we1,[1,1,0,4,4],[0,3,5],.p,[⟨sLq tV::sUq::sUq::sPq 0::sUq::sIq::ru2 41 [],[⟨0,3,true,some [kLq 3]⟩],λa H=>(⟨aLq tV a 0,hIq H 0 0 0,hIq H 0 0 1,hIq H 0 0 2⟩,⟨aIq a 5⟩)⟩],ra1,[(some 0,λp s=>let t1:=(Ca1 (gL tV p.i5 s.is5.toNat) (⟨p.f0,p.d8,p.g7⟩:V3));⟨eL tV p.i5::.unk::.unk::.ptr 0 0 0 0::.unk::i s.is5::.unk::i s.is5::eL tV p.i5::i (↑(List.length p.i5):Int)::b (decide (s.is5<(↑(List.length p.i5):Int)))::b true::eL tV p.i5::i s.is5::.tptr [i (gL tV p.i5 s.is5.toNat).x,i (gL tV p.i5 s.is5.toNat).y,i (gL tV p.i5 s.is5.toNat).z]::.agg [i (gL tV p.i5 s.is5.toNat).x,i (gL tV p.i5 s.is5.toNat).y,i (gL tV p.i5 s.is5.toNat).z]::.agg [i p.f0,i p.d8,i p.g7]::b t1::b t1::ra 28 [],[⟨0,3,[[i p.f0,i p.d8,i p.g7]],true,false,0⟩]⟩),(some 0,λp s=>upq (Wb0 p s) [(7,i s.is5),(8,eL tV p.i5),(9,i (↑(List.length p.i5):Int)),(10,b (decide (s.is5<(↑(List.length p.i5):Int)))),(11,b false),(12,u),(13,u),(14,u),(15,u),(16,u),(17,u),(18,b false)])],Wb0⟩
theorem Zc0:xb9.Ok:=Lo.ok [] (by kernel_rfl) .nil rfl (.cons (λa H=>by kernel_rfl) .nil) λp s=>(.of @ua3 (λF _ _ _ _ _=>by unfold ua3;(repeat' apply q8 (f:=F))<;>rfl) (by kernel_rfl))
noncomputable def jb4(x:List V3)(y:V3):Option (c7×List c8):=let t1:=(lp (ra1 (⟨rt tV x,y.x,y.y,y.z⟩:Ka4)) (⟨0⟩:da1));let a0:=(p7 (λk=>(λk=>(tV).row (gL tV (rt tV x) k)) (0+k)) (List.range (t1.2.is5.toNat-0)));let a1:=(p7 (λk=>(λk=>(tV).row (gL tV (rt tV x) k)) (t1.2.is5.toNat+k)) (List.range ((List.length (rt tV x))-t1.2.is5.toNat)));let a2:=(inB t1.2.is5 ((List.length (rt tV x))+1));let a3:=(Nat.beq (0+(len a0)) (len (app [] a0))&&Nat.ble (((0+(len a0))+1)*24) room);let a4:=(((0+(len a0))+1)+(len a1));let a5:=(gL tV (rt tV x) t1.2.is5.toNat);let a6:=(Nat.beq 0 0&&Nat.ble ((0+(len a0))*24) room);let w0:Option (c7×List c8):=(sl a2 (sl a6 (sl a3 (sl a2 (sl (Nat.beq ((0+(len a0))+1) (len (app (app [] a0) [[i y.x,i y.y,i y.z]]))&&Nat.ble (a4*24) room) (some (.sl 0 0 a4 0,[⟨29,3,app (app (app [] a0) [[i y.x,i y.y,i y.z]]) a1,true,false,0⟩])) none) none) none) none) none);let w1:Option (c7×List c8):=(sl (decide (t1.2.is5<(↑(List.length (rt tV x)):Int))) (sl (inB t1.2.is5 (List.length (rt tV x))) (sl ((a5.x==y.x)&&((a5.y==y.y)&&((a5.z==y.z)&&true))) (some (eL tV (rt tV x),[])) w0) none) w0);(sl ((cnE tV x)&&true) (sl (Nat.beq t1.1 1) w1 (sl (Nat.beq t1.1 2) w1 none)) none)
noncomputable def Eb1(x:List V3)(y:V3):List V3:=J0 (one (r1L tV)) (jb4 x y)
noncomputable def Eb2(x:List V3)(y:V3):Bool:=okO (one (r1L tV)) (jb4 x y)
noncomputable def Qc6:Sum:=Y2 (La8 tV) (w9 tV) (λx y=>.guard (Eb2 x y) (.ret ((one (r1L tV)).enc (Eb1 x y),[])))
theorem xd5:g8 prog G 14 Qc6:=Xa3 (bd b14 ld9) (one (r1L tV)) (o:=jb4) λx y=>gb6 (.s .p (.s .p (.s (.b (.u xb9.ls)) .p))) [xb9.pr] (by kernel_rfl) (.cons Zc0 .nil) (by kernel_rfl)
noncomputable def qb8:List (Nat×Sum):=[]
theorem fc1:j5 prog G qb8:=trivial
structure ga2 where
 (i5 qd8:List V3)
structure I6 where
 is5:Int
noncomputable def ab3(p:ga2)(s:I6):St:=⟨eL tV p.i5::eL tV p.qd8::ra 3 (i s.is5::ra 20 []),[]⟩
noncomputable def aa0{α:Type}(k:I6->α)(e:Nat->α)(z:α)(p:ga2)(s:I6):α:=(sl (decide (s.is5<(↑(List.length p.i5):Int))) (sl (inB s.is5 (List.length p.i5)) (sl (inB s.is5 (List.length p.qd8)) (sl (!(((gL tV p.i5 s.is5.toNat).x==(gL tV p.qd8 s.is5.toNat).x)&&(((gL tV p.i5 s.is5.toNat).y==(gL tV p.qd8 s.is5.toNat).y)&&(((gL tV p.i5 s.is5.toNat).z==(gL tV p.qd8 s.is5.toNat).z)&&true)))) (e 1) (k ⟨W (s.is5+1)⟩)) z) z) (e 2))
noncomputable def da2(p:ga2)(s:I6):Stp I6:=aa0 .next .exit .fail p s
noncomputable def Ga8:Lo ga2 I6:=⟨En qb8,0,we2,[1,1,0,1,4,4],[0,1,5],.p,[⟨sLq tV::sLq tV::ru2 3 (sIq::ru2 20 []),[],λa H=>(⟨aLq tV a 0,aLq tV a 1⟩,⟨aIq a 5⟩)⟩],da2,[(none,λp s=>⟨[b false],[]⟩),(some 0,λp s=>upq (ab3 p s) [(11,i s.is5),(12,eL tV p.i5),(13,i (↑(List.length p.i5):Int)),(14,b (decide (s.is5<(↑(List.length p.i5):Int))))])],ab3⟩
theorem Wb1:Ga8.Ok:=Lo.ok [] (by kernel_rfl) .nil rfl (.cons (λa H=>by kernel_rfl) .nil) λp s=>(.of @aa0 (λF _ _ _ _ _=>by unfold aa0;(repeat' apply q8 (f:=F))<;>rfl) (by kernel_rfl))
noncomputable def oa8(x:List V3)(y:List V3):Option (c7×List c8):=let t1:=(lp (da2 (⟨rt tV x,rt tV y⟩:ga2)) (⟨0⟩:I6));(sl ((↑(List.length x):Int) != (↑(List.length y):Int)) (some (b false,[])) (sl ((cnE tV x)&&((cnE tV y)&&true)) (sl (Nat.beq t1.1 1) (some (b false,[])) (sl (Nat.beq t1.1 2) (some (b true,[])) none)) none))
noncomputable def G9(x:List V3)(y:List V3):Bool:=J0 (one r1B) (oa8 x y)
noncomputable def H4(x:List V3)(y:List V3):Bool:=okO (one r1B) (oa8 x y)
noncomputable def yb0:Sum:=Y2 (La8 tV) (La8 tV) (λx y=>.guard (H4 x y) (.ret ((one r1B).enc (G9 x y),[])))
theorem pc0:g8 prog G 15 yb0:=Xa3 (bd b15 fc1) (one r1B) (o:=oa8) λx y=>gb6 (.s .p (.s .p (.s (.s .p (.b (.u Ga8.ls))) .p))) [Ga8.pr] (by kernel_rfl) (.cons Wb1 .nil) (by kernel_rfl)
structure M3 where
 r0:V3
 r1:V3
 r2:V3
structure Trn where
 m:M3
 d:Int
structure Frm where
 t:Trn
 s:V3
noncomputable def tN:Ty M3 where
 es:=9
 row x:=[i x.r0.x,i x.r0.y,i x.r0.z,i x.r1.x,i x.r1.y,i x.r1.z,i x.r2.x,i x.r2.y,i x.r2.z]
 rd r:=⟨⟨toI (hdA r),toI (hdA (tlA r)),toI (hdA (tlA (tlA r)))⟩,⟨toI (hdA (tlA (tlA (tlA r)))),toI (hdA (tlA (tlA (tlA (tlA r))))),toI (hdA (tlA (tlA (tlA (tlA (tlA r))))))⟩,⟨toI (hdA (tlA (tlA (tlA (tlA (tlA (tlA r))))))),toI (hdA (tlA (tlA (tlA (tlA (tlA (tlA (tlA r)))))))),toI (hdA (tlA (tlA (tlA (tlA (tlA (tlA (tlA (tlA r)))))))))⟩⟩
 ok r:=ra8 9 r
 cks:=List.replicate 9 (.int .i64)
 d:=⟨⟨0,0,0⟩,⟨0,0,0⟩,⟨0,0,0⟩⟩
 h0 _:=rfl
 h1 _:=rfl
 h2 _:=rfl
 h3 _ h:=.of (qa1 h)
 h4 _:=rfl
 h5 _:=rfl
noncomputable def r1N:R1 M3:=r1A tN 9 λ_ h=>h
noncomputable def tT:Ty Trn where
 es:=10
 row x:=[i x.m.r0.x,i x.m.r0.y,i x.m.r0.z,i x.m.r1.x,i x.m.r1.y,i x.m.r1.z,i x.m.r2.x,i x.m.r2.y,i x.m.r2.z,i x.d]
 rd r:=⟨⟨⟨toI (hdA r),toI (hdA (tlA r)),toI (hdA (tlA (tlA r)))⟩,⟨toI (hdA (tlA (tlA (tlA r)))),toI (hdA (tlA (tlA (tlA (tlA r))))),toI (hdA (tlA (tlA (tlA (tlA (tlA r))))))⟩,⟨toI (hdA (tlA (tlA (tlA (tlA (tlA (tlA r))))))),toI (hdA (tlA (tlA (tlA (tlA (tlA (tlA (tlA r)))))))),toI (hdA (tlA (tlA (tlA (tlA (tlA (tlA (tlA (tlA r)))))))))⟩⟩,toI (hdA (tlA (tlA (tlA (tlA (tlA (tlA (tlA (tlA (tlA r))))))))))⟩
 ok r:=ra8 10 r
 cks:=List.replicate 10 (.int .i64)
 d:=⟨⟨⟨0,0,0⟩,⟨0,0,0⟩,⟨0,0,0⟩⟩,0⟩
 h0 _:=rfl
 h1 _:=rfl
 h2 _:=rfl
 h3 _ h:=.of (qa1 h)
 h4 _:=rfl
 h5 _:=rfl
noncomputable def r1T:R1 Trn:=r1A tT 10 λ_ h=>h
noncomputable def tF:Ty Frm where
 es:=13
 row x:=[i x.t.m.r0.x,i x.t.m.r0.y,i x.t.m.r0.z,i x.t.m.r1.x,i x.t.m.r1.y,i x.t.m.r1.z,i x.t.m.r2.x,i x.t.m.r2.y,i x.t.m.r2.z,i x.t.d,i x.s.x,i x.s.y,i x.s.z]
 rd r:=⟨⟨⟨⟨toI (hdA r),toI (hdA (tlA r)),toI (hdA (tlA (tlA r)))⟩,⟨toI (hdA (tlA (tlA (tlA r)))),toI (hdA (tlA (tlA (tlA (tlA r))))),toI (hdA (tlA (tlA (tlA (tlA (tlA r))))))⟩,⟨toI (hdA (tlA (tlA (tlA (tlA (tlA (tlA r))))))),toI (hdA (tlA (tlA (tlA (tlA (tlA (tlA (tlA r)))))))),toI (hdA (tlA (tlA (tlA (tlA (tlA (tlA (tlA (tlA r)))))))))⟩⟩,toI (hdA (tlA (tlA (tlA (tlA (tlA (tlA (tlA (tlA (tlA r))))))))))⟩,⟨toI (hdA (tlA (tlA (tlA (tlA (tlA (tlA (tlA (tlA (tlA (tlA r))))))))))),toI (hdA (tlA (tlA (tlA (tlA (tlA (tlA (tlA (tlA (tlA (tlA (tlA r)))))))))))),toI (hdA (tlA (tlA (tlA (tlA (tlA (tlA (tlA (tlA (tlA (tlA (tlA (tlA r)))))))))))))⟩⟩
 ok r:=ra8 13 r
 cks:=List.replicate 13 (.int .i64)
 d:=⟨⟨⟨⟨0,0,0⟩,⟨0,0,0⟩,⟨0,0,0⟩⟩,0⟩,⟨0,0,0⟩⟩
 h0 _:=rfl
 h1 _:=rfl
 h2 _:=rfl
 h3 _ h:=.of (qa1 h)
 h4 _:=rfl
 h5 _:=rfl
noncomputable def r1F:R1 Frm:=r1A tF 13 λ_ h=>h
noncomputable def yb1:List (Nat×Sum):=[]
theorem rb5:j5 prog G yb1:=trivial
noncomputable def sa0(x:M3)(y:M3):M3:=(⟨(⟨W ((W ((W (0+(W (x.r0.x*y.r0.x))))+(W (x.r0.y*y.r1.x))))+(W (x.r0.z*y.r2.x))),W ((W ((W (0+(W (x.r0.x*y.r0.y))))+(W (x.r0.y*y.r1.y))))+(W (x.r0.z*y.r2.y))),W ((W ((W (0+(W (x.r0.x*y.r0.z))))+(W (x.r0.y*y.r1.z))))+(W (x.r0.z*y.r2.z)))⟩:V3),(⟨W ((W ((W (0+(W (x.r1.x*y.r0.x))))+(W (x.r1.y*y.r1.x))))+(W (x.r1.z*y.r2.x))),W ((W ((W (0+(W (x.r1.x*y.r0.y))))+(W (x.r1.y*y.r1.y))))+(W (x.r1.z*y.r2.y))),W ((W ((W (0+(W (x.r1.x*y.r0.z))))+(W (x.r1.y*y.r1.z))))+(W (x.r1.z*y.r2.z)))⟩:V3),(⟨W ((W ((W (0+(W (x.r2.x*y.r0.x))))+(W (x.r2.y*y.r1.x))))+(W (x.r2.z*y.r2.x))),W ((W ((W (0+(W (x.r2.x*y.r0.y))))+(W (x.r2.y*y.r1.y))))+(W (x.r2.z*y.r2.y))),W ((W ((W (0+(W (x.r2.x*y.r0.z))))+(W (x.r2.y*y.r1.z))))+(W (x.r2.z*y.r2.z)))⟩:V3)⟩:M3)
noncomputable def sa1:Sum:=Y2 (w9 tN) (w9 tN) (λx y=>.ret ((one r1N).enc (sa0 x y),[]))
theorem yb2:g8 prog G 49 sa1:=qa0 (bd b49 rb5) λx y=>n9 (by kernel_rfl)
noncomputable def rb6:List (Nat×Sum):=[]
theorem nb1:j5 prog G rb6:=trivial
noncomputable def oa9(x:M3):M3:=(⟨(⟨x.r0.x,x.r1.x,x.r2.x⟩:V3),(⟨x.r0.y,x.r1.y,x.r2.y⟩:V3),(⟨x.r0.z,x.r1.z,x.r2.z⟩:V3)⟩:M3)
noncomputable def pa0:Sum:=K2 (w9 tN) (λx=>.ret ((one r1N).enc (oa9 x),[]))
theorem rb7:g8 prog G 50 pa0:=Ia1 (bd b50 nb1) λx=>n9 (by kernel_rfl)
noncomputable def rb8:List (Nat×Sum):=[]
theorem nb2:j5 prog G rb8:=trivial
noncomputable def Ka5(x:M3)(y:Int):M3:=(⟨(⟨W (x.r0.x*y),W (x.r0.y*y),W (x.r0.z*y)⟩:V3),(⟨W (x.r1.x*y),W (x.r1.y*y),W (x.r1.z*y)⟩:V3),(⟨W (x.r2.x*y),W (x.r2.y*y),W (x.r2.z*y)⟩:V3)⟩:M3)
noncomputable def Ka6:Sum:=Y2 (w9 tN) cI (λx y=>.ret ((one r1N).enc (Ka5 x y),[]))
theorem rb9:g8 prog G 51 Ka6:=qa0 (bd b51 nb2) λx y=>n9 (by kernel_rfl)
noncomputable def Wb2:List (Nat×Sum):=[]
theorem Ob4:j5 prog G Wb2:=trivial
noncomputable def Q7(x:M3)(y:V3):V3:=(⟨W ((W ((W (x.r0.x*y.x))+(W (x.r0.y*y.y))))+(W (x.r0.z*y.z))),W ((W ((W (x.r1.x*y.x))+(W (x.r1.y*y.y))))+(W (x.r1.z*y.z))),W ((W ((W (x.r2.x*y.x))+(W (x.r2.y*y.y))))+(W (x.r2.z*y.z)))⟩:V3)
noncomputable def ga3:Sum:=Y2 (w9 tN) (w9 tV) (λx y=>.ret ((one r1V).enc (Q7 x y),[]))
theorem Wb3:g8 prog G 32 ga3:=qa0 (bd b32 Ob4) λx y=>n9 (by kernel_rfl)
noncomputable def sb0:List (Nat×Sum):=[]
theorem nb3:j5 prog G sb0:=trivial
noncomputable def pa1(x:M3)(y:Int):Option (c7×List c8):=(sl (decide (x.r0.x<(W (0-y)))) (some (b false,[])) (sl (decide (x.r0.x>y)) (some (b false,[])) (sl (decide (x.r0.y<(W (0-y)))) (some (b false,[])) (sl (decide (x.r0.y>y)) (some (b false,[])) (sl (decide (x.r0.z<(W (0-y)))) (some (b false,[])) (sl (decide (x.r0.z>y)) (some (b false,[])) (sl (decide (x.r1.x<(W (0-y)))) (some (b false,[])) (sl (decide (x.r1.x>y)) (some (b false,[])) (sl (decide (x.r1.y<(W (0-y)))) (some (b false,[])) (sl (decide (x.r1.y>y)) (some (b false,[])) (sl (decide (x.r1.z<(W (0-y)))) (some (b false,[])) (sl (decide (x.r1.z>y)) (some (b false,[])) (sl (decide (x.r2.x<(W (0-y)))) (some (b false,[])) (sl (decide (x.r2.x>y)) (some (b false,[])) (sl (decide (x.r2.y<(W (0-y)))) (some (b false,[])) (sl (decide (x.r2.y>y)) (some (b false,[])) (sl (decide (x.r2.z<(W (0-y)))) (some (b false,[])) (sl (decide (x.r2.z>y)) (some (b false,[])) (some (b true,[]))))))))))))))))))))
noncomputable def Ka7(x:M3)(y:Int):Bool:=J0 (one r1B) (pa1 x y)
noncomputable def Ka8(x:M3)(y:Int):Bool:=okO (one r1B) (pa1 x y)
noncomputable def Ka9:Sum:=Y2 (w9 tN) cI (λx y=>.guard (Ka8 x y) (.ret ((one r1B).enc (Ka7 x y),[])))
theorem sb1:g8 prog G 47 Ka9:=Xa3 (bd b47 nb3) (one r1B) (o:=pa1) λx y=>n9 (by kernel_rfl)
noncomputable def La0:List (Nat×Sum):=[]
theorem sb2:j5 prog G La0:=trivial
@[reducible] noncomputable def Na9:Sum:=pb2 (En La0) xe0
theorem yb3:g8 prog G 88 Na9:=bd b88 sb2
noncomputable def Ob5:List (Nat×Sum):=[(53,ta1),(10,ga7),(88,Na9)]
theorem Gb2:j5 prog G Ob5:=⟨Aa1,qa3,yb3,trivial⟩
noncomputable def ab4(x:M3):Int:=let t1:=(R2 x.r1 x.r2);let t2:=(r7 x.r0 t1);t2
noncomputable def ab5:Sum:=K2 (w9 tN) (λx=>.ret ((one r1I).enc (ab4 x),[]))
theorem Ob6:g8 prog G 52 ab5:=Ia1 (bd b52 Gb2) λx=>n9 (by kernel_rfl)
noncomputable def Ca2:List (Nat×Sum):=[]
theorem jb5:j5 prog G Ca2:=trivial
structure k8 where
 (is1 Ke2 f0 d8 g7 i9 C1 C3 C4 C5 C6:Int)
structure i6 where
 (is6 is8:Int)
noncomputable def ua4(p:k8)(s:i6):St:=⟨.unk::i p.is1::.ptr 0 0 0 0::.unk::.ptr 1 0 0 0::.unk::i s.is6::.unk::i s.is8::.unk::.unk::i p.Ke2::ra 44 [],[⟨0,9,[[i p.f0,i p.d8,i p.g7,i p.i9,i p.C1,i p.C3,i p.C4,i p.C5,i p.C6]],true,false,0⟩,⟨0,9,[[i 0,i 0,i 0,i 0,i 0,i 0,i 0,i 0,i 0]],true,false,0⟩]⟩
noncomputable def J6{α:Type}(k:i6->α)(e:Nat->α)(z:α)(p:k8)(s:i6):α:=(sl (decide (s.is8>0)) (sl (s.is8==0) z (k ⟨s.is8,Int.tmod s.is6 s.is8⟩)) (e 1))
noncomputable def j7(p:k8)(s:i6):Stp i6:=J6 .next .exit .fail p s
noncomputable def ga4:Lo k8 i6:=⟨En Ca2,0,we6,[1,1,0,1,4,4,1,1,0,4,1,1,4,4],[1,2,4,6,8,11],.p,[⟨sUq::sIq::sPq 0::sUq::sPq 1::sUq::sIq::sUq::sIq::sUq::sUq::sIq::ru2 44 [],[⟨0,9,true,some [kLq 9]⟩,⟨0,9,true,some [[.o (.lit .i64 0),.o (.lit .i64 0),.o (.lit .i64 0),.o (.lit .i64 0),.o (.lit .i64 0),.o (.lit .i64 0),.o (.lit .i64 0),.o (.lit .i64 0),.o (.lit .i64 0)]]⟩],λa H=>(⟨aIq a 1,aIq a 11,hIq H 0 0 0,hIq H 0 0 1,hIq H 0 0 2,hIq H 0 0 3,hIq H 0 0 4,hIq H 0 0 5,hIq H 0 0 6,hIq H 0 0 7,hIq H 0 0 8⟩,⟨aIq a 6,aIq a 8⟩)⟩],j7,[(some 2,λp s=>upq (ua4 p s) [(30,i s.is8),(31,b (decide (s.is8>0)))])],ua4⟩
theorem eb2:ga4.Ok:=Lo.ok [] (by kernel_rfl) .nil rfl (.cons (λa H=>by kernel_rfl) .nil) λp s=>(.of @J6 (λF _ _ _ _ _=>by unfold J6;(repeat' apply q8 (f:=F))<;>rfl) (by kernel_rfl))
noncomputable def P4(x:M3)(y:Int):Option (c7×List c8):=let t1:=(lp (j7 (⟨y,0,x.r0.x,x.r0.y,x.r0.z,x.r1.x,x.r1.y,x.r1.z,x.r2.x,x.r2.y,x.r2.z⟩:k8)) (⟨y,(if (W (0-x.r0.x))>x.r0.x then (W (0-x.r0.x)) else x.r0.x)⟩:i6));let t2:=(lp (j7 (⟨y,1,x.r0.x,x.r0.y,x.r0.z,x.r1.x,x.r1.y,x.r1.z,x.r2.x,x.r2.y,x.r2.z⟩:k8)) (⟨t1.2.is6,(if (W (0-x.r0.y))>x.r0.y then (W (0-x.r0.y)) else x.r0.y)⟩:i6));let t3:=(lp (j7 (⟨y,2,x.r0.x,x.r0.y,x.r0.z,x.r1.x,x.r1.y,x.r1.z,x.r2.x,x.r2.y,x.r2.z⟩:k8)) (⟨t2.2.is6,(if (W (0-x.r0.z))>x.r0.z then (W (0-x.r0.z)) else x.r0.z)⟩:i6));let t4:=(lp (j7 (⟨y,3,x.r0.x,x.r0.y,x.r0.z,x.r1.x,x.r1.y,x.r1.z,x.r2.x,x.r2.y,x.r2.z⟩:k8)) (⟨t3.2.is6,(if (W (0-x.r1.x))>x.r1.x then (W (0-x.r1.x)) else x.r1.x)⟩:i6));let t5:=(lp (j7 (⟨y,4,x.r0.x,x.r0.y,x.r0.z,x.r1.x,x.r1.y,x.r1.z,x.r2.x,x.r2.y,x.r2.z⟩:k8)) (⟨t4.2.is6,(if (W (0-x.r1.y))>x.r1.y then (W (0-x.r1.y)) else x.r1.y)⟩:i6));let t6:=(lp (j7 (⟨y,5,x.r0.x,x.r0.y,x.r0.z,x.r1.x,x.r1.y,x.r1.z,x.r2.x,x.r2.y,x.r2.z⟩:k8)) (⟨t5.2.is6,(if (W (0-x.r1.z))>x.r1.z then (W (0-x.r1.z)) else x.r1.z)⟩:i6));let t7:=(lp (j7 (⟨y,6,x.r0.x,x.r0.y,x.r0.z,x.r1.x,x.r1.y,x.r1.z,x.r2.x,x.r2.y,x.r2.z⟩:k8)) (⟨t6.2.is6,(if (W (0-x.r2.x))>x.r2.x then (W (0-x.r2.x)) else x.r2.x)⟩:i6));let t8:=(lp (j7 (⟨y,7,x.r0.x,x.r0.y,x.r0.z,x.r1.x,x.r1.y,x.r1.z,x.r2.x,x.r2.y,x.r2.z⟩:k8)) (⟨t7.2.is6,(if (W (0-x.r2.y))>x.r2.y then (W (0-x.r2.y)) else x.r2.y)⟩:i6));let t9:=(lp (j7 (⟨y,8,x.r0.x,x.r0.y,x.r0.z,x.r1.x,x.r1.y,x.r1.z,x.r2.x,x.r2.y,x.r2.z⟩:k8)) (⟨t8.2.is6,(if (W (0-x.r2.z))>x.r2.z then (W (0-x.r2.z)) else x.r2.z)⟩:i6));(sl (Nat.beq t1.1 1) (sl (Nat.beq t2.1 1) (sl (Nat.beq t3.1 1) (sl (Nat.beq t4.1 1) (sl (Nat.beq t5.1 1) (sl (Nat.beq t6.1 1) (sl (Nat.beq t7.1 1) (sl (Nat.beq t8.1 1) (sl (Nat.beq t9.1 1) (sl (t9.2.is6==0) none (sl (t9.2.is6==0) none (sl (t9.2.is6==0) none (sl (t9.2.is6==0) none (sl (t9.2.is6==0) none (sl (t9.2.is6==0) none (sl (t9.2.is6==0) none (sl (t9.2.is6==0) none (sl (t9.2.is6==0) none (sl (t9.2.is6==0) none (some (.tup [.agg [i (W (Int.tdiv x.r0.x t9.2.is6)),i (W (Int.tdiv x.r0.y t9.2.is6)),i (W (Int.tdiv x.r0.z t9.2.is6)),i (W (Int.tdiv x.r1.x t9.2.is6)),i (W (Int.tdiv x.r1.y t9.2.is6)),i (W (Int.tdiv x.r1.z t9.2.is6)),i (W (Int.tdiv x.r2.x t9.2.is6)),i (W (Int.tdiv x.r2.y t9.2.is6)),i (W (Int.tdiv x.r2.z t9.2.is6))],i (W (Int.tdiv y t9.2.is6))],[])))))))))))) none) none) none) none) none) none) none) none) none)
noncomputable def la2(x:M3)(y:Int):M3×Int:=J0 (two r1N r1I) (P4 x y)
noncomputable def la3(x:M3)(y:Int):Bool:=okO (two r1N r1I) (P4 x y)
noncomputable def sb3:Sum:=Y2 (w9 tN) cI (λx y=>.guard (la3 x y) (.ret ((two r1N r1I).enc (la2 x y),[])))
theorem nb4:g8 prog G 48 sb3:=Xa3 (bd b48 jb5) (two r1N r1I) (o:=P4) λx y=>gb6 (.s .p (.s .p (.s (.s .p (.b (.l (.s .p (.s .p (.s (.b (.s .p (.s .p (.b (.u ga4.ls))))) .p)))))) .p))) [ga4.pr] (by kernel_rfl) (.cons eb2 .nil) (by kernel_rfl)
noncomputable def Jc2:List (Nat×Sum):=[]
theorem Bc2:j5 prog G Jc2:=trivial
noncomputable def Ca3(x:V3):Option (c7×List c8):=(sl (decide (x.x<(-96))) (some (b false,[])) (sl (decide (x.x>96)) (some (b false,[])) (sl (decide (x.y<(-96))) (some (b false,[])) (sl (decide (x.y>96)) (some (b false,[])) (sl (decide (x.z<(-96))) (some (b false,[])) (sl (decide (x.z>96)) (some (b false,[])) (some (b true,[]))))))))
noncomputable def Qa4(x:V3):Bool:=J0 (one r1B) (Ca3 x)
noncomputable def Qa5(x:V3):Bool:=okO (one r1B) (Ca3 x)
noncomputable def Wb4:Sum:=K2 (w9 tV) (λx=>.guard (Qa5 x) (.ret ((one r1B).enc (Qa4 x),[])))
theorem Jc3:g8 prog G 68 Wb4:=ta0 (bd b68 Bc2) (one r1B) (o:=Ca3) λx=>n9 (by kernel_rfl)
noncomputable def pc1:List (Nat×Sum):=[]
theorem fc2:j5 prog G pc1:=trivial
noncomputable def pa2(x:V3)(y:Int):Option (c7×List c8):=(sl (y==0) none (sl (y==0) none (sl (y==0) none (sl (y==0) none (sl ((Int.tmod x.x y)==0) (sl (y==0) none (sl ((Int.tmod x.y y)==0) (sl (y==0) none (some (.tup [.agg [i (W (Int.tdiv x.x y)),i (W (Int.tdiv x.y y)),i (W (Int.tdiv x.z y))],b ((Int.tmod x.z y)==0)],[]))) (some (.tup [.agg [i (W (Int.tdiv x.x y)),i (W (Int.tdiv x.y y)),i (W (Int.tdiv x.z y))],b false],[])))) (some (.tup [.agg [i (W (Int.tdiv x.x y)),i (W (Int.tdiv x.y y)),i (W (Int.tdiv x.z y))],b false],[])))))))
noncomputable def ga5(x:V3)(y:Int):V3×Bool:=J0 (two r1V r1B) (pa2 x y)
noncomputable def ga6(x:V3)(y:Int):Bool:=okO (two r1V r1B) (pa2 x y)
noncomputable def Ca4:Sum:=Y2 (w9 tV) cI (λx y=>.guard (ga6 x y) (.ret ((two r1V r1B).enc (ga5 x y),[])))
theorem pc2:g8 prog G 31 Ca4:=Xa3 (bd b31 fc2) (two r1V r1B) (o:=pa2) λx y=>n9 (by kernel_rfl)
noncomputable def Bc3:List (Nat×Sum):=[]
theorem md0:j5 prog G Bc3:=trivial
@[reducible] noncomputable def Ra9:Sum:=pb2 (En Bc3) we7
theorem Wa9:g8 prog G 56 Ra9:=bd b56 md0
noncomputable def Jb1:List (Nat×Sum):=[]
theorem Bc4:j5 prog G Jb1:=trivial
@[reducible] noncomputable def Wb5:Sum:=pb2 (En Jb1) we8
theorem Jc4:g8 prog G 61 Wb5:=bd b61 Bc4
noncomputable def pc3:List (Nat×Sum):=[]
theorem fc3:j5 prog G pc3:=trivial
noncomputable def w4(x:Int):Int:=(if (W (0-x))>x then (W (0-x)) else x)
noncomputable def Xa0:Sum:=K2 cI (λx=>.ret ((one r1I).enc (w4 x),[]))
theorem qb9:g8 prog G 91 Xa0:=Ia1 (bd b91 fc3) λx=>n9 (by kernel_rfl)
noncomputable def yb4:List (Nat×Sum):=[]
theorem pc4:j5 prog G yb4:=trivial
structure ja7 where
structure O9 where
 (is0 is1:Int)
noncomputable def jb6(p:ja7)(s:O9):St:=⟨i s.is0::i s.is1::ra 10 [],[]⟩
noncomputable def da3{α:Type}(k:O9->α)(e:Nat->α)(z:α)(p:ja7)(s:O9):α:=(sl (decide (s.is1>0)) (sl (s.is1==0) z (k ⟨s.is1,Int.tmod s.is0 s.is1⟩)) (e 1))
noncomputable def Y7(p:ja7)(s:O9):Stp O9:=da3 .next .exit .fail p s
noncomputable def Na6:Lo ja7 O9:=⟨En yb4,0,xe1,[1,0,4,4],[0,1],.p,[⟨sIq::sIq::ru2 10 [],[],λa H=>(⟨⟩,⟨aIq a 0,aIq a 1⟩)⟩],Y7,[(some 0,λp s=>upq (jb6 p s) [(5,i s.is1),(6,b (decide (s.is1>0)))])],jb6⟩
theorem fc4:Na6.Ok:=Lo.ok [] (by kernel_rfl) .nil rfl (.cons (λa H=>by kernel_rfl) .nil) λp s=>(.of @da3 (λF _ _ _ _ _=>by unfold da3;(repeat' apply q8 (f:=F))<;>rfl) (by kernel_rfl))
noncomputable def ua5(x:Int)(y:Int):Option (c7×List c8):=let t1:=(lp (Y7 (⟨⟩:ja7)) (⟨x,y⟩:O9));(sl (Nat.beq t1.1 1) (some (i t1.2.is0,[])) none)
noncomputable def eb3(x:Int)(y:Int):Int:=J0 (one r1I) (ua5 x y)
noncomputable def eb4(x:Int)(y:Int):Bool:=okO (one r1I) (ua5 x y)
noncomputable def Jc5:Sum:=Y2 cI cI (λx y=>.guard (eb4 x y) (.ret ((one r1I).enc (eb3 x y),[])))
theorem Bc5:g8 prog G 92 Jc5:=Xa3 (bd b92 pc4) (one r1I) (o:=ua5) λx y=>gb6 (.s .p (.s (.b (.u Na6.ls)) .p)) [Na6.pr] (by kernel_rfl) (.cons fc4 .nil) (by kernel_rfl)
noncomputable def rm(p:Pln)(x:Pt):Int:=W (p.b*x.pw-(p.n.x*x.px+p.n.y*x.py+p.n.z*x.pz))
structure Bd(p:Pln):Prop where
 x1:-4608<=p.n.x
 x2:p.n.x<=4608
 y1:-4608<=p.n.y
 y2:p.n.y<=4608
 z1:-4608<=p.n.z
 z2:p.n.z<=4608
 b1:-2097152<=p.b
 b2:p.b<=2097152
def mv(p q r:Pln):V3 :=
 ⟨(d7 q.n r.n).x*p.b+(d7 r.n p.n).x*q.b+(d7 p.n q.n).x*r.b,
  (d7 q.n r.n).y*p.b+(d7 r.n p.n).y*q.b+(d7 p.n q.n).y*r.b,
  (d7 q.n r.n).z*p.b+(d7 r.n p.n).z*q.b+(d7 p.n q.n).z*r.b⟩
def gc(v:V3)(w:Int):Int:=(Nat.gcd (Nat.gcd v.x.natAbs v.y.natAbs) (Nat.gcd v.z.natAbs w.natAbs):Nat)
def mpt(p q r:Pln):Pt×Bool :=
 if mw p q r=0 then (⟨0,0,0,0⟩,false)
 else if mw p q r<0 then (⟨Int.tdiv (-(mv p q r).x) (gc (mv p q r) (mw p q r)),Int.tdiv (-(mv p q r).y) (gc (mv p q r) (mw p q r)),Int.tdiv (-(mv p q r).z) (gc (mv p q r) (mw p q r)),Int.tdiv (-(mw p q r)) (gc (mv p q r) (mw p q r))⟩,true)
 else (⟨Int.tdiv (mv p q r).x (gc (mv p q r) (mw p q r)),Int.tdiv (mv p q r).y (gc (mv p q r) (mw p q r)),Int.tdiv (mv p q r).z (gc (mv p q r) (mw p q r)),Int.tdiv (mw p q r) (gc (mv p q r) (mw p q r))⟩,true)
def Sm(n:Int)(x:Int):Prop:=-n<=x/\x<=n
theorem Ud7{a b:V3}(ha:Sm 4608 a.x/\Sm 4608 a.y/\Sm 4608 a.z)(hb:Sm 4608 b.x/\Sm 4608 b.y/\Sm 4608 b.z):Sm 42467328 (d7 a b).x/\Sm 42467328 (d7 a b).y/\Sm 42467328 (d7 a b).z:=by
 obtain⟨⟨a1,a2⟩,⟨a3,a4⟩,a5,a6⟩:=ha;obtain⟨⟨b1,b2⟩,⟨b3,b4⟩,b5,b6⟩:=hb;have h1:=mb a3 a4 b5 b6;have h2:=mb a5 a6 b3 b4;have h3:=mb a5 a6 b1 b2;have h4:=mb a1 a2 b5 b6;have h5:=mb a1 a2 b3 b4;have h6:=mb a3 a4 b1 b2;unfold Sm d7
 simp only
 omega
theorem Bd.n{p:Pln}(h:Bd p):Sm 4608 p.n.x/\Sm 4608 p.n.y/\Sm 4608 p.n.z:=⟨⟨h.x1,h.x2⟩,⟨h.y1,h.y2⟩,h.z1,h.z2⟩
theorem fe6(a b:V3):R2 a b=⟨W (d7 a b).x,W (d7 a b).y,W (d7 a b).z⟩:=by
 unfold R2 d7;simp only[xd3,Ud3]
theorem fe7(a b:V3):xa6 a b=⟨W (d7 a b).x,W (d7 a b).y,W (d7 a b).z⟩:=by
 unfold xa6 d7;simp only[xd3,Ud3]
theorem Ga9{x:Int}(h:Sm 1000000000000000000 x):W x=x:=aa4 (by have:=h.1;omega) (by have:=h.2;omega)
theorem Sm.mono{n m x:Int}(h:Sm n x)(hn:n<=m):Sm m x:=⟨by have:=h.1;omega,by have:=h.2;omega⟩
theorem Qa6{n x g:Int}(h:Sm n x)(hg:0<g):Sm n (Int.tdiv x g):=by
 have h1:(Int.tdiv x g).natAbs<=x.natAbs:=by rw[Int.natAbs_tdiv];exact Nat.div_le_self _ _
 have:=h.1;have:=h.2
 constructor<;>omega
noncomputable def inn(l:List Pln)(x:Pt):Bool:=l.all λp=>!decide (rm p x<0)
def eqX(x q:Pt):Bool:=q.px==x.px&&(q.py==x.py&&(q.pz==x.pz&&(q.pw==x.pw&&true)))
def Je4(l:List Pt)(x:Pt):Bool:=l.any (eqX x)
def smb(n x:Int):Bool:=!decide (x < -n)&&!decide (x>n)
theorem ab6(n x:Int):smb n x=true↔Sm n x:=by unfold smb Sm;simp only[Qia,Qis,decide_eq_false_iff_not];omega
theorem Bc6(n:Int)(l:List Int)(hn:0<=n/\n<=1000000000)(hl:l.length<=1000000000):na0 n l=some (b (l.all (smb n)),[]):=by
 have hW:W (0-n)=-n:=by rw[aa4 (by omega) (by omega)];omega
 have h:=xd4 (step:=ca3 ⟨n,l,(l.length:Int)⟩) (mk:=λj=>(⟨(j:Int)⟩:I4)) (c:=λx=>!smb n x) (u:=1) (fin:=2) tI l hl
  (λj hj=>by
   simp only[ca3,Z3,Int.toNat_natCast,E6 hj (by omega),hW]
   rw[bt (Ac3 hj),bt (j9 hj)];unfold smb;cases decide (gL tI l j < -n)<;>cases decide (gL tI l j>n)<;>rfl)
  (by simp only[ca3,Z3];rw[bf (Ub9 (Qik _))]) 0 (Qiy _)
 rw[Qiv] at h;unfold na0;simp only[w5,o9];rw[show (⟨0⟩:I4)=⟨((0:Nat):Int)⟩ from rfl,h]
 have e:(l.any λx=>!smb n x)=!l.all (smb n):=by rw[List.not_all_eq_any_not]
 rw[e];cases l.all (smb n)<;>rfl
theorem fc5(n:Int)(l:List Int)(hn:0<=n/\n<=1000000000)(hl:l.length<=1000000000):fa7 n l=l.all (smb n):=by unfold fa7;rw[Bc6 n l hn hl];rfl
theorem fc6(n:Int)(l:List Int)(hn:0<=n/\n<=1000000000)(hl:l.length<=1000000000):fa8 n l=true:=by unfold fa8;rw[Bc6 n l hn hl];rfl
theorem jc3{n:Int}(h:Sm 1000000000000000000 n):qa4 n=(n.natAbs:Int):=by
 unfold qa4;obtain⟨h1,h2⟩:=h;rw[aa4 (by omega) (by omega)]
 split<;>omega
theorem Wb6{n:Int}(h:Sm 1000000000000000000 n):ma8 n=some (i (n.natAbs:Int),[]):=by
 unfold ma8;obtain⟨h1,h2⟩:=h;rw[aa4 (by omega) (by omega)]
 by_cases h:n<0
 ·rw[bt (decide_eq_true h)];congr 3;omega
 ·rw[bf (decide_eq_false h)];congr 3;omega
theorem yb5{n:Int}(h:Sm 1000000000000000000 n):fa4 n=(n.natAbs:Int):=by unfold fa4;rw[Wb6 h];rfl
theorem yb6{n:Int}(h:Sm 1000000000000000000 n):fa5 n=true:=by unfold fa5;rw[Wb6 h];rfl
def g3(v:V3):Int:=(Nat.gcd (Nat.gcd v.x.natAbs v.y.natAbs) v.z.natAbs:Nat)
theorem Zc1(g n:Nat):eu (g:Int) (n:Int)=(Nat.gcd g n:Nat):=by rw[qe0 (by omega) (by omega)];rfl
theorem Jc6(P:S6)(g n:Nat)(hn:n<=1000000000000000000):lp (P7 P) ⟨(g:Int),(n:Int)⟩=(1,⟨(Nat.gcd g n:Nat),0⟩):=by
 have:=ab0 (step:=P7 P) (mk:=λg n=>(⟨g,n⟩:K0)) (λg n h=>by
  have h0:n≠0:=by omega
  simp[P7,V1,Ta4,h,h0]) (λg=>by simp[P7,V1,Ta4]) (g:Int) (n:Int) (by omega) (by omega) (by omega)
 rw[this,Zc1]
theorem Bc7(l:List Int)(hl:l.length<=1000000000)(hb:∀x∈l,Sm 1000000000000000000 x):ia6 l=some (i (l.foldl (λg x=>Nat.gcd g x.natAbs) 0:Nat),[]):=by
 have h := fe4 (step := Z4 ⟨(l.length : Int)⟩) (mk := fun j (a : Nat) => (⟨(a : Int), l, (j : Int)⟩ : D6)) (f := fun g x => Nat.gcd g x.natAbs) (fin := 2) tI l (fun _ _ => True) hl (fun j a hj _ => ⟨by
   have hm:=hb _ (Ma5 tI hj);have hne:(gL tI l j==(-9223372036854775808:Int))=false:=by
    have:=hm.1
    rw[beq_eq_false_iff_ne];omega
   have hs:(gL tI l j).natAbs<=1000000000000000000:=by obtain⟨h1,h2⟩:=hm;omega
   simp only[Z4,V2,Int.toNat_natCast,w5,o9,jc3 hm,Jc6 _ _ _ hs,E6 hj (by omega)]
   rw[bt (Ac3 hj),bt (j9 hj),bf hne]
   rfl,trivial⟩) (λa _=>by simp only[Z4,V2];rw[bf (Ub9 (Qik _))]) 0 (Qiy _) 0 trivial
 have h:=h.1;rw[Qiv] at h;unfold ia6;simp only[w5,o9];rw[show (⟨0,l,0⟩:D6)=⟨((0:Nat):Int),l,((0:Nat):Int)⟩ from rfl,h]
 rfl
def okp(p:Pln):Bool:=[p.n.x,p.n.y,p.n.z].all (smb 4608)&&(g3 p.n==1&&[p.b].all (smb 2097152))
theorem qe7(p:Pln):Bd p↔[p.n.x,p.n.y,p.n.z].all (smb 4608)=true/\[p.b].all (smb 2097152)=true:=by
 simp only[List.all_cons,List.all_nil,Qie,Qia,ab6,Sm];exact⟨λh=>⟨⟨⟨h.x1,h.x2⟩,⟨h.y1,h.y2⟩,h.z1,h.z2⟩,h.b1,h.b2⟩,λ⟨⟨⟨a,b⟩,⟨c,d⟩,e,f⟩,g,h⟩=>⟨a,b,c,d,e,f,g,h⟩⟩
theorem fc7{p:Pln}(h:okp p=true):Bd p:=by
 unfold okp at h;rw[Qia,Qia] at h;exact (qe7 p).2 ⟨h.1,h.2.2⟩
theorem sm3{v:V3}(h:[v.x,v.y,v.z].all (smb 4608)=true):Sm 4608 v.x/\Sm 4608 v.y/\Sm 4608 v.z:=by
 simpa only[List.all_cons,List.all_nil,Qie,Qia,ab6] using h
theorem md1(p:Pln):ta2 p=some (b (okp p),[]):=by
 unfold ta2 okp;have l3:[p.n.x,p.n.y,p.n.z].length<=1000000000:=by simp
 have l1:[p.b].length<=1000000000:=by simp
 simp only[fc5 4608 _ (by omega) l3,fc6 4608 _ (by omega) l3,fc5 2097152 _ (by omega) l1,fc6 2097152 _ (by omega) l1]
 cases hw:[p.n.x,p.n.y,p.n.z].all (smb 4608) with
 |false=>rfl
 |true =>
  obtain⟨h1,h2,h3⟩:=sm3 hw;have hd:=Bc7 [p.n.x,p.n.y,p.n.z] l3 (by
   intro x hx;simp only[Qib,List.not_mem_nil,or_false] at hx
   rcases hx with rfl|rfl|rfl
   ·exact h1.mono (by omega)
   ·exact h2.mono (by omega)
   ·exact h3.mono (by omega))
  have hg:([p.n.x,p.n.y,p.n.z].foldl (λg x=>Nat.gcd g x.natAbs) 0:Nat)=Nat.gcd (Nat.gcd p.n.x.natAbs p.n.y.natAbs) p.n.z.natAbs:=by
   simp only[List.foldl_cons,List.foldl_nil,Qit]
  have hp:U6 [p.n.x,p.n.y,p.n.z]=g3 p.n:=by unfold U6;rw[hd,hg];rfl
  have hgd:U7 [p.n.x,p.n.y,p.n.z]=true:=by unfold U7;rw[hd];rfl
  rw[hp,hgd];cases g3 p.n==1<;>rfl
theorem Dd3(p:Pln):Ia3 p=okp p:=by unfold Ia3;rw[md1 p];rfl
theorem Dd4(p:Pln):Ia4 p=true:=by unfold Ia4;rw[md1 p];rfl
theorem fc8(P:ca2)(g n:Nat)(hn:n<=1000000000000000000):lp (X5 P) ⟨(g:Int),(n:Int)⟩=(1,⟨(Nat.gcd g n:Nat),0⟩):=by
 have:=ab0 (step:=X5 P) (mk:=λg n=>(⟨g,n⟩:M7)) (λg n h=>by
  have h0:n≠0:=by omega
  simp[X5,ma9,Ta4,h,h0]) (λg=>by simp[X5,ma9,Ta4]) (g:Int) (n:Int) (by omega) (by omega) (by omega)
 rw[this,Zc1]
theorem Zc2 {v : V3} (h1 : Sm 1000000000000000000 v.x) (h2 : Sm 1000000000000000000 v.y) (h3 : Sm 1000000000000000000 v.z) :
  Ua1 v=if g3 v=0 then some (.tup [.agg (tV.row ⟨0,0,0⟩),i 0],[]) else some (.tup [.agg (tV.row ⟨W (Int.tdiv v.x (g3 v)),W (Int.tdiv v.y (g3 v)),W (Int.tdiv v.z (g3 v))⟩),i (g3 v)],[]):=by
 have ne:∀{x:Int},Sm 1000000000000000000 x->(x==(-9223372036854775808:Int))=false:=λ{x} h=>by
  have:=h.1
  rw[beq_eq_false_iff_ne];omega
 have bd:∀{x:Int},Sm 1000000000000000000 x->x.natAbs<=1000000000000000000:=λ{x} h=>by obtain⟨h1,h2⟩:=h;omega
 have l1:=fc8 ⟨0,v.x,v.y,v.z,v.x,v.y,v.z⟩ 0 v.x.natAbs (bd h1);rw[Qit] at l1;have l2:=fc8 ⟨1,v.x,v.y,v.z,v.x,v.y,v.z⟩ v.x.natAbs v.y.natAbs (bd h2);have l3:=fc8 ⟨2,v.x,v.y,v.z,v.x,v.y,v.z⟩ (Nat.gcd v.x.natAbs v.y.natAbs) v.z.natAbs (bd h3);unfold Ua1;simp only[yb5 h1,yb5 h2,yb5 h3,yb6 h1,yb6 h2,yb6 h3];rw[show (⟨0,(v.x.natAbs:Int)⟩:M7)=⟨((0:Nat):Int),(v.x.natAbs:Int)⟩ from rfl]
 simp only[l1,l2,l3,ne h1,ne h2,ne h3];rw[show ((Nat.gcd (Nat.gcd v.x.natAbs v.y.natAbs) v.z.natAbs:Nat):Int)=g3 v from rfl]
 by_cases h:g3 v=0
 ·rw[if_pos h,show (g3 v==0)=true from by rw[h];rfl];rfl
 ·rw[if_neg h,show (g3 v==0)=false from by rw[beq_eq_false_iff_ne];exact h];rfl
theorem Bc8{v:V3}(h1:Sm 1000000000000000000 v.x)(h2:Sm 1000000000000000000 v.y)(h3:Sm 1000000000000000000 v.z):(wa8 v).2=g3 v:=by
 unfold wa8;rw[Zc2 h1 h2 h3];split
 ·rename_i h;rw[h];rfl
 ·rfl
theorem qe8{v:V3}(h1:Sm 1000000000000000000 v.x)(h2:Sm 1000000000000000000 v.y)(h3:Sm 1000000000000000000 v.z)(h:g3 v≠0):wa8 v=(⟨W (Int.tdiv v.x (g3 v)),W (Int.tdiv v.y (g3 v)),W (Int.tdiv v.z (g3 v))⟩,g3 v):=by
 unfold wa8;rw[Zc2 h1 h2 h3,if_neg h];rfl
theorem Ud8{v:V3}(h1:Sm 1000000000000000000 v.x)(h2:Sm 1000000000000000000 v.y)(h3:Sm 1000000000000000000 v.z):Ua2 v=true:=by
 unfold Ua2;rw[Zc2 h1 h2 h3]
 split<;>rfl
theorem Qc7(p:Pln):Ja6 p=some (b (okp p),[]):=by
 unfold Ja6 okp;cases hw:[p.n.x,p.n.y,p.n.z].all (smb 4608) with
 |false =>
  simp only[List.all_cons,List.all_nil,Qie,smb] at hw;cases h1:decide (p.n.x < -4608)<;>cases h2:decide (p.n.x>4608)<;>cases h3:decide (p.n.y < -4608)<;>cases h4:decide (p.n.y>4608)<;>cases h5:decide (p.n.z < -4608)<;>cases h6:decide (p.n.z>4608)<;>simp only[h1,h2,h3,h4,h5,h6] at hw ⊢<;>first | rfl | cases hw
 |true =>
  obtain⟨h1,h2,h3⟩:=sm3 hw;rw[bf (decide_eq_false (by have:=h1.1;omega)),bf (decide_eq_false (by have:=h1.2;omega)),bf (decide_eq_false (by have:=h2.1;omega)),bf (decide_eq_false (by have:=h2.2;omega)),bf (decide_eq_false (by have:=h3.1;omega)),bf (decide_eq_false (by have:=h3.2;omega))]
  have k1:=h1.mono (m:=1000000000000000000) (by omega)
  have k2:=h2.mono (m:=1000000000000000000) (by omega)
  have k3:=h3.mono (m:=1000000000000000000) (by omega)
  rw[bt (Ud8 k1 k2 k3),Bc8 k1 k2 k3];cases g3 p.n==1 with
  |false=>rfl
  |true =>
   simp only[List.all_cons,List.all_nil,Qie,smb,Bool.true_and];rw[r5];by_cases ha:p.b < -2097152
   ·rw[bf (decide_eq_false (by omega)),show decide (p.b < -2097152)=true from decide_eq_true ha];rfl
   ·rw[bt (decide_eq_true (by omega)),show decide (p.b < -2097152)=false from decide_eq_false ha]
    congr 3;by_cases hc:p.b<=2097152
    ·rw[decide_eq_true hc,decide_eq_false (by omega)];rfl
    ·rw[decide_eq_false hc,decide_eq_true (by omega)];rfl
theorem Ud9(p:Pln):Za2 p=okp p:=by unfold Za2;rw[Qc7 p];rfl
theorem md2(p:Pln):Za3 p=true:=by unfold Za3;rw[Qc7 p];rfl
def chk(l:List Pln):Int:=if (l.length:Int)>48 then 2 else if l.all okp then 0 else 12
theorem md3{l:List Pln}:chk l=0↔l.length<=48/\∀p∈l,okp p=true:=by
 unfold chk;by_cases hn:(l.length:Int)>48
 ·rw[if_pos hn];exact⟨λh=>absurd h (by decide),λh=>by omega⟩
 ·rw[if_neg hn];cases h:l.all okp with
  |true=>exact⟨λ_=>⟨by omega,List.all_eq_true.1 h⟩,λ_=>rfl⟩
  |false=>exact⟨λh=>absurd h (by decide),λh'=>by rw[List.all_eq_true.2 h'.2] at h;cases h⟩
theorem btD{p:Prop}{inst:Decidable p}(h:p){α:Type}(t e:α):sl (@decide p inst) t e=t:=bt (decide_eq_true h) t e
theorem bfD{p:Prop}{inst:Decidable p}(h:¬ p){α:Type}(t e:α):sl (@decide p inst) t e=e:=bf (decide_eq_false h) t e
theorem q7{j n:Nat}(h:j<n):(j:Int)<(n:Int):=Int.ofNat_lt.2 h
theorem y5{j n:Nat}(h:¬ j<n):¬ (j:Int)<(n:Int):=λh'=>h (Int.ofNat_lt.1 h')
noncomputable def ye4(r:List Pln)(p q:Pln)(out:List Pt)(s:Pln):List Pt :=
 if (mpt p q s).2&&(!Je4 out (mpt p q s).1&&inn r (mpt p q s).1) then out++[(mpt p q s).1] else out
noncomputable def Je5(r:List Pln)(p q:Pln)(l:List Pln)(out:List Pt):List Pt:=l.foldl (ye4 r p q) out
noncomputable def ye5(r:List Pln)(p:Pln):List Pln->List Pt->List Pt
 |[],out=>out
 |q::l,out=>ye5 r p l (Je5 r p q l out)
noncomputable def ye6(r:List Pln):List Pln->List Pt->List Pt
 |[],out=>out
 |p::l,out=>ye6 r l (ye5 r p l out)
noncomputable def cor(r:List Pln):List Pt:=ye6 r r []
noncomputable def ph(out:List Pt):Nat:=match out with
 |[]=>0
 |_::_=>1
theorem Zc3{α:Type}(t:Ty α)(l:List α)(n k:Nat):gL t (l.drop n) k=gL t l (n+k):=by simp[gL,Qiq,List.getElem?_drop]
theorem Ld5{ρ:Type}(R:RR ρ){x:c7×List c8}{r:ρ}(h:R.rd x=some r):J0 R (some x)=r:=by
 show Option.rec (motive:=λ_=>ρ) R.d (λx=>x) (R.rd x)=r
 rw[h]
theorem Vd0{ρ:Type}(R:RR ρ){x:c7×List c8}{r:ρ}(h:R.rd x=some r):okO R (some x)=true:=by
 show Option.rec (motive:=λ_=>Bool) false (λ_=>true) (R.rd x)=true
 rw[h]
@[reducible] noncomputable def flK:List (Nat×CK):=[(0,.int .i64),(1,.int .i64),(2,.int .i64),(3,.int .i64)]
theorem qe9(s:Pln):((Nat.ble 4 (len (tP.row s)))&&(ra5 [CK.int .i64,CK.int .i64,CK.int .i64,CK.int .i64] (tP.row s)))=true:=rfl
theorem ye7{α:Type}(t:Ty α)(l:List α):(one (r1L t)).rd (eL t l,[])=some l:=by
 show Bool.rec (motive:=λ_=>Option (List α)) none (some (rt t l)) (Bool.and (Nat.beq t.es t.es) (okE t l))=_
 rw[w5,lb5,Qiw];rfl
noncomputable def ws:List Pln:=[⟨⟨1,0,0⟩,24⟩,⟨⟨-1,0,0⟩,24⟩,⟨⟨0,1,0⟩,24⟩,⟨⟨0,-1,0⟩,24⟩,⟨⟨0,0,1⟩,24⟩,⟨⟨0,0,-1⟩,24⟩]
noncomputable def pos(X:List Pt)(p:Pln):Bool:=X.any λx=>decide (rm p x>0)
noncomputable def Je6(r:List Pln):Bool:=r.all (pos (cor r))
structure Okx(x:Pt):Prop where
 w1:0<x.pw
 w2:x.pw<=600000000000
 c1:Sm 300000000000000 x.px
 c2:Sm 300000000000000 x.py
 c3:Sm 300000000000000 x.pz
theorem md4{x y:Int}(hy:0<y):Int.tmod x y+y*Int.tdiv x y=x/\-y<Int.tmod x y/\Int.tmod x y<y:=by
 refine⟨Int.tmod_add_mul_tdiv x y,?_,Int.tmod_lt_of_pos x hy⟩
 have:=Int.lt_tmod_of_pos x hy
 omega
theorem Vd1(x:Int){y:Int}(hy:0<y)(hy2:y<=4000000000000000000):gb7 x y=some (i (x % y),[]):=by
 have hz:(y==0)=false:=by rw[beq_eq_false_iff_ne];omega
 obtain⟨h1,h2,h3⟩:=md4 (x:=x) hy;unfold gb7;rw[bfD (by omega),bf hz,bf hz,aa4 (by omega) (by omega),Int.tmod_eq_emod_of_nonneg (by omega)]
 congr 3;rw[Int.add_emod_right]
 conv=>rhs;rw[<- h1]
 rw[Int.add_mul_emod_self_left]
theorem ye8(x:Int){y:Int}(hy:0<y)(hy2:y<=4000000000000000000):Db3 x y=x % y:=by unfold Db3;rw[Vd1 x hy hy2];rfl
theorem ye9(x:Int){y:Int}(hy:0<y)(hy2:y<=4000000000000000000):Db4 x y=true:=by unfold Db4;rw[Vd1 x hy hy2];rfl
theorem Sm.neg{n x:Int}(h:Sm n x):Sm n (-x):=⟨by have:=h.2;omega,by have:=h.1;omega⟩
def Nx{σ:Type}(x:Stp σ)(E:Nat->Prop)(N:σ->Prop):Prop:=(∃t,x=.exit t/\E t)\/∃s,x=.next s/\N s
theorem Nx.sl{σ:Type}{c:Bool}{t e:Stp σ}{E:Nat->Prop}{N:σ->Prop}(h1:c=true->Nx t E N)(h2:c=false->Nx e E N):Nx (sl c t e) E N:=by cases c;exact h2 rfl;exact h1 rfl
theorem Nx.ex{σ:Type}{t:Nat}{E:Nat->Prop}{N:σ->Prop}(h:E t):Nx (.exit t) E N:=.inl ⟨t,rfl,h⟩
theorem Nx.nx{σ:Type}{s:σ}{E:Nat->Prop}{N:σ->Prop}(h:N s):Nx (.next s) E N:=.inr ⟨s,rfl,h⟩
theorem aa3 {σ τ : Type} {step : σ → Stp σ} {mk : Nat → τ → σ} (n : Nat) (I : Nat → τ → Prop) (E : Nat → σ → Prop) (hn : n ≤ 1000000000)
  (h:∀j a,j<n->I j a->Nx (step (mk j a)) (λt=>E t (mk j a)) (λs=>∃a',s=mk (j+1) a'/\I (j+1) a'))
  (hf:∀j a,n<=j->I j a->∃t,step (mk j a)=.exit t/\E t (mk j a)) (j0:Nat) (a:τ) (hi:I j0 a):∃t s,lp step (mk j0 a)=(t,s)/\E t s:=by
 have key:=dc6 (step:=step) (I:=λm s=>∃j a,m=n-j/\s=mk j a/\I j a) (Q:=E) (λm s ⟨j,a,hm,hs,ha⟩=>by
  subst hs;by_cases hlt:j<n
  ·rcases h j a hlt ha with h1|⟨s',h1,a',h2,h3⟩
   ·exact .inl h1
   ·subst h2;exact .inr ⟨_,n-(j+1),by omega,h1,j+1,a',rfl,rfl,h3⟩
  ·exact .inl (hf j a (by omega) ha)) (n-j0) (mk j0 a) (by omega) ⟨j0,a,rfl,rfl,hi⟩
 exact⟨_,_,rfl,key⟩
def Rd{ρ:Type}(R:RR ρ)(o:Option (c7×List c8))(P:ρ->Prop):Prop:=∃x r,o=some x/\R.rd x=some r/\P r
theorem Rd.p{ρ:Type}{R:RR ρ}{o:Option (c7×List c8)}{P:ρ->Prop}(h:Rd R o P):P (J0 R o):=by
 obtain⟨x,r,h1,h2,h3⟩:=h;rw[h1,Ld5 R h2];exact h3
theorem Rd.g{ρ:Type}{R:RR ρ}{o:Option (c7×List c8)}{P:ρ->Prop}(h:Rd R o P):okO R o=true:=by
 obtain⟨x,r,h1,h2,h3⟩:=h;rw[h1];exact Vd0 R h2
theorem Rd.sl{ρ:Type}{R:RR ρ}{c:Bool}{t e:Option (c7×List c8)}{P:ρ->Prop}(h1:c=true->Rd R t P)(h2:c=false->Rd R e P):Rd R (sl c t e) P:=by cases c;exact h2 rfl;exact h1 rfl
theorem Ca5 (n : Int) (l : List Int) (j : Int) (h1 : 0 ≤ j) (h2 : j ≤ 1000000) (hn : 0 < n) (hn2 : n ≤ 1000000) :
  ∃v j',o0 ⟨n,l,j⟩=⟨1,v,j'⟩/\0<=v/\v<n/\j<=j'/\j'<=j+1:=by
 unfold o0 ba3
 simp only
 by_cases h:j>=(l.length:Int)
 ·rw[btD h];exact⟨0,j,rfl,by omega,hn,by omega,by omega⟩
 ·rw[bfD h];have hW:W (W (j+1)-1)=j:=by rw[xd3,aa4 (by omega) (by omega)];omega
  have hW2:W (j+1)=j+1:=aa4 (by omega) (by omega)
  have hin:inB j l.length=true:=by rw[fe2];exact decide_eq_true (by omega)
  rw[hW,hW2,hin,ye9 _ hn (by omega),ye8 _ hn (by omega)]
  exact⟨_,_,rfl,Int.emod_nonneg _ (by omega),Int.emod_lt_of_pos _ hn,by omega,by omega⟩
theorem re0 (m : Int) (l : List Int) (j : Int) (h1 : 0 ≤ j) (h2 : j ≤ 900000) (hm : 0 ≤ m) (hm2 : m ≤ 100000) :
  ∃a b c j',Db8 ⟨m,l,j⟩=⟨1,a,b,c,l,j'⟩/\Sm m a/\Sm m b/\Sm m c/\j<=j'/\j'<=j+3:=by
 unfold Db8 Ra8;simp only[w5,o9];have hW:W (W (2*m)+1)=2*m+1:=by rw[Wa0,aa4 (by omega) (by omega)]
 rw[hW];obtain⟨v1,j1,e1,a1,b1,c1,d1⟩:=Ca5 (2*m+1) l j h1 (by omega) (by omega) (by omega)
 rw[e1];obtain⟨v2,j2,e2,a2,b2,c2,d2⟩:=Ca5 (2*m+1) l j1 (by omega) (by omega) (by omega) (by omega)
 simp only
 rw[e2];obtain⟨v3,j3,e3,a3,b3,c3,d3⟩:=Ca5 (2*m+1) l j2 (by omega) (by omega) (by omega) (by omega)
 simp only
 rw[e3];refine⟨v1-m,v2-m,v3-m,j3,?_,⟨by omega,by omega⟩,⟨by omega,by omega⟩,⟨by omega,by omega⟩,by omega,by omega⟩
 simp only
 rw[aa4 (n:=v1-m) (by omega) (by omega),aa4 (n:=v2-m) (by omega) (by omega),aa4 (n:=v3-m) (by omega) (by omega)]
 rfl
def inV(v:V3):Bool:=smb 24 v.x&&(smb 24 v.y&&smb 24 v.z)
theorem la9(v:V3):inV v=true↔Sm 24 v.x/\Sm 24 v.y/\Sm 24 v.z:=by unfold inV;rw[Qia,Qia,ab6,ab6,ab6]
theorem Vd2(v:V3):wb6 v=some (b (inV v),[]):=by
 unfold wb6 inV smb;cases h1:decide (v.x < -24)<;>cases h2:decide (v.x>24)<;>cases h3:decide (v.y < -24)<;>cases h4:decide (v.y>24)<;>cases h5:decide (v.z < -24)<;>cases h6:decide (v.z>24)<;>rfl
theorem le6(v:V3):Ua7 v=inV v:=by unfold Ua7;rw[Vd2];rfl
theorem Vd3(v:V3):Ua8 v=true:=by unfold Ua8;rw[Vd2];rfl
def sub(a b:V3):V3:=⟨a.x-b.x,a.y-b.y,a.z-b.z⟩
theorem Dd5{a b:V3}(ha:inV a=true)(hb:inV b=true):Ga1 a b=sub a b/\Sm 48 (sub a b).x/\Sm 48 (sub a b).y/\Sm 48 (sub a b).z:=by
 rw[la9] at ha hb;obtain⟨⟨a1,a2⟩,⟨a3,a4⟩,a5,a6⟩:=ha;obtain⟨⟨b1,b2⟩,⟨b3,b4⟩,b5,b6⟩:=hb;unfold Ga1 sub;rw[aa4 (by omega) (by omega),aa4 (by omega) (by omega),aa4 (by omega) (by omega)]
 exact⟨rfl,⟨by show _<=a.x-b.x;omega,by show a.x-b.x<=_;omega⟩,⟨by show _<=a.y-b.y;omega,by show a.y-b.y<=_;omega⟩,⟨by show _<=a.z-b.z;omega,by show a.z-b.z<=_;omega⟩⟩
theorem eb5 {a b c : V3} (ha : inV a = true) (hb : inV b = true) (hc : inV c = true) :
  xa6 (Ga1 b a) (Ga1 c a)=d7 (sub b a) (sub c a)/\Sm 4608 (d7 (sub b a) (sub c a)).x/\Sm 4608 (d7 (sub b a) (sub c a)).y/\Sm 4608 (d7 (sub b a) (sub c a)).z:=by
 obtain⟨e1,⟨u1,u2⟩,⟨u3,u4⟩,u5,u6⟩:=Dd5 hb ha;obtain⟨e2,⟨v1,v2⟩,⟨v3,v4⟩,v5,v6⟩:=Dd5 hc ha;rw[e1,e2,fe7];generalize sub b a=p at *
 generalize sub c a=q at *
 have h1:=mb u3 u4 v5 v6;have h2:=mb u5 u6 v3 v4;have h3:=mb u5 u6 v1 v2;have h4:=mb u1 u2 v5 v6;have h5:=mb u1 u2 v3 v4;have h6:=mb u3 u4 v1 v2;have k:Sm 4608 (d7 p q).x/\Sm 4608 (d7 p q).y/\Sm 4608 (d7 p q).z:=by unfold Sm d7;simp only;omega
 obtain⟨k1,k2,k3⟩:=k;rw[Ga9 (k1.mono (by omega)),Ga9 (k2.mono (by omega)),Ga9 (k3.mono (by omega))]
 exact⟨rfl,k1,k2,k3⟩
def I0(a b c:V3):Pln×Bool :=
 if inV a&&(inV b&&inV c) then
  if g3 (d7 (sub b a) (sub c a))=0 then (⟨⟨0,0,0⟩,0⟩,false)
  else (⟨⟨Int.tdiv (d7 (sub b a) (sub c a)).x (g3 (d7 (sub b a) (sub c a))),Int.tdiv (d7 (sub b a) (sub c a)).y (g3 (d7 (sub b a) (sub c a))),Int.tdiv (d7 (sub b a) (sub c a)).z (g3 (d7 (sub b a) (sub c a)))⟩,
   dot ⟨Int.tdiv (d7 (sub b a) (sub c a)).x (g3 (d7 (sub b a) (sub c a))),Int.tdiv (d7 (sub b a) (sub c a)).y (g3 (d7 (sub b a) (sub c a))),Int.tdiv (d7 (sub b a) (sub c a)).z (g3 (d7 (sub b a) (sub c a)))⟩ a⟩,true)
 else (⟨⟨0,0,0⟩,0⟩,false)
theorem Eb3(v:V3):0<=g3 v:=by unfold g3;omega
theorem Bc9(a c d:V3):ta4 a c d=some (.tup [.agg (tP.row (I0 a c d).1),b (I0 a c d).2],[]):=by
 unfold ta4 I0;simp only[le6,Vd3];cases ha:inV a with
 |false=>rfl
 |true =>
  cases hc:inV c with
  |false=>rfl
  |true =>
   cases hd:inV d with
   |false=>rfl
   |true =>
    obtain⟨e,k1,k2,k3⟩:=eb5 ha hc hd;rw[e];generalize d7 (sub c a) (sub d a)=n at *
    have m1:=k1.mono (m:=1000000000000000000) (by omega)
    have m2:=k2.mono (m:=1000000000000000000) (by omega)
    have m3:=k3.mono (m:=1000000000000000000) (by omega)
    rw[Ud8 m1 m2 m3,Bc8 m1 m2 m3];by_cases h0:g3 n=0
    ·rw[show (g3 n==0)=true from by rw[h0];rfl]
     simp only[Qic,if_true,h0];rfl
    ·have hp:=Eb3 n;have q1:=Qa6 (g:=g3 n) k1 (by omega)
     have q2:=Qa6 (g:=g3 n) k2 (by omega)
     have q3:=Qa6 (g:=g3 n) k3 (by omega)
     rw[show (g3 n==0)=false from by rw[beq_eq_false_iff_ne];exact h0,qe8 m1 m2 m3 h0]
     simp only[Qic,if_true,h0,if_false];rw[Ga9 (q1.mono (by omega)),Ga9 (q2.mono (by omega)),Ga9 (q3.mono (by omega))]
     have hdot:p4 ⟨Int.tdiv n.x (g3 n),Int.tdiv n.y (g3 n),Int.tdiv n.z (g3 n)⟩ a=dot ⟨Int.tdiv n.x (g3 n),Int.tdiv n.y (g3 n),Int.tdiv n.z (g3 n)⟩ a:=by
      unfold p4;simp only[Wa0,xb1];obtain⟨⟨a1,a2⟩,⟨a3,a4⟩,a5,a6⟩:=(la9 a).1 ha;have r1:=mb q1.1 q1.2 a1 a2;have r2:=mb q2.1 q2.2 a3 a4;have r3:=mb q3.1 q3.2 a5 a6;rw[aa4 (by omega) (by omega)]
      rfl
     rw[hdot];rfl
theorem Ld6(a b c:V3):Ia5 a b c=I0 a b c:=by unfold Ia5;rw[Bc9];rfl
theorem Qc8(a b c:V3):Ia6 a b c=true:=by unfold Ia6;rw[Bc9];rfl
theorem fe8(p:Pln)(v:V3):Rd (one r1I) (wa9 p v) (λ_=>True):=by
 unfold wa9;simp only[md2,Vd3,r5];exact Rd.sl (λ_=>⟨_,_,rfl,rfl,trivial⟩) λ_=>Rd.sl (λ_=>⟨_,_,rfl,rfl,trivial⟩) λ_=>Rd.sl (λ_=>⟨_,_,rfl,rfl,trivial⟩) λ_=>Rd.sl (λ_=>⟨_,_,rfl,rfl,trivial⟩) λ_=>⟨_,_,rfl,rfl,trivial⟩
theorem Vd4(p:Pln)(v:V3):Nb8 p v=true:=(fe8 p v).g
theorem ze0(P:ha3)(hl:P.i5.length<=1000000000):∃t s,lp (w7 P) ⟨0⟩=(t,s)/\(t=1\/t=2\/t=3):=by
 obtain⟨l,x1,x2,x3,x4,x5,x6,x7,x8⟩:=P;refine aa3 (step:=w7 ⟨l,x1,x2,x3,x4,x5,x6,x7,x8⟩) (mk:=λj (_:Unit)=>(⟨(j:Int)⟩:V5)) l.length (λ_ _=>True) (λt _=>t=1\/t=2\/t=3) hl (λj a hj _=>?_) (λj a hj _=>?_) 0 () trivial
 ·simp only[w7,R8,Vd4,Int.toNat_natCast,E6 hj (show l.length<=4611686018427387904 from Nat.le_trans hl (by omega))]
  rw[btD (q7 hj),bt (j9 hj),r5];exact Nx.sl (λ_=>Nx.sl (λ_=>.ex (by simp)) λ_=>.nx ⟨(),rfl,trivial⟩) λ_=>.ex (by simp)
 ·simp only[w7,R8];rw[bfD (by omega)]
  exact⟨_,rfl,by simp⟩
theorem ze1(l:List V3)(hl:l.length<=1000000000)(a c:Nat)(ha:a<l.length)(hc:c<a):∃t s,lp (M4 ⟨(a:Int),(c:Int)⟩) ⟨l,0⟩=(t,s)/\((t=1\/t=2)/\s.i5=l):=by
 refine aa3 (step:=M4 ⟨(a:Int),(c:Int)⟩) (mk:=λj (_:Unit)=>(⟨l,(j:Int)⟩:V6)) c (λ_ _=>True) (λt s=>(t=1\/t=2)/\s.i5=l) (by omega) (λj x hj _=>?_) (λj x hj _=>?_) 0 () trivial
 ·simp only[M4,Z5,Qc8,Int.toNat_natCast,w5,o9,E6 hj (show c<=4611686018427387904 by omega)]
  rw[btD (q7 hj),bt (j9 ha),bt (j9 (show c<l.length by omega)),bt (j9 (show j<l.length by omega)),r5]
  generalize hP:ha3.mk _ _ _ _ _ _ _ _ _=P3;obtain⟨t,s,h1,h2⟩:=ze0 P3 (by subst hP;exact hl)
  rw[h1]
  rcases h2 with rfl|rfl|rfl
  ·exact .ex (by simp)
  ·exact .nx ⟨(),rfl,trivial⟩
  ·exact .nx ⟨(),rfl,trivial⟩
 ·simp only[M4,Z5];rw[bfD (by omega)]
  exact⟨_,rfl,by simp⟩
theorem ze2(l:List V3)(hl:l.length<=1000000000)(a:Nat)(ha:a<l.length):∃t s,lp (M5 ⟨(a:Int)⟩) ⟨l,0⟩=(t,s)/\((t=1\/t=2)/\s.i5=l):=by
 refine aa3 (step:=M5 ⟨(a:Int)⟩) (mk:=λj (_:Unit)=>(⟨l,(j:Int)⟩:V7)) a (λ_ _=>True) (λt s=>(t=1\/t=2)/\s.i5=l) (by omega) (λj x hj _=>?_) (λj x hj _=>?_) 0 () trivial
 ·simp only[M5,Z6,w5,o9,E6 hj (show a<=4611686018427387904 by omega)]
  obtain⟨t,s,h1,h2,h3⟩:=ze1 l hl a j ha hj;rw[btD (q7 hj),h1]
  rcases h2 with rfl|rfl
  ·exact .ex (by simp)
  ·exact .nx ⟨(),by rw[h3],trivial⟩
 ·simp only[M5,Z6];rw[bfD (by omega)]
  exact⟨_,rfl,by simp⟩
theorem Ya4(l:List V3)(hl:l.length<=1000000000):Rd (one r1B) (xa0 l) (λ_=>True):=by
 have key:∃t s,lp (M6 ⟨⟩) ⟨l,0⟩=(t,s)/\(t=1\/t=2):=by
  refine aa3 (step:=M6 ⟨⟩) (mk:=λj (_:Unit)=>(⟨l,(j:Int)⟩:V8)) l.length (λ_ _=>True) (λt s=>t=1\/t=2) hl (λj x hj _=>?_) (λj x hj _=>?_) 0 () trivial
  ·simp only[M6,Z7,w5,o9,E6 hj (show l.length<=4611686018427387904 by omega)]
   obtain⟨t,s,h1,h2,h3⟩:=ze2 l hl j hj;rw[btD (q7 hj),h1]
   rcases h2 with rfl|rfl
   ·exact .ex (by simp)
   ·exact .nx ⟨(),by rw[h3],trivial⟩
  ·simp only[M6,Z7];rw[bfD (by omega)]
   exact⟨_,rfl,by simp⟩
 obtain⟨t,s,h1,h2⟩:=key;unfold xa0;simp only[w5,o9];rw[h1]
 rcases h2 with rfl|rfl<;>exact⟨_,_,rfl,rfl,trivial⟩
theorem Vd5(l:List V3)(hl:l.length<=1000000000):Ga2 l=true:=(Ya4 l hl).g
structure Fc(ph:Nat)(out:List Pln)(m:Nat):Prop where
 h:(ph=0/\out=[])\/ph=1
 l:out.length<=m
theorem Fc.more{ph m m':Nat}{out:List Pln}(h:Fc ph out m)(hm:m<=m'):Fc ph out m':=⟨h.h,Nat.le_trans h.l hm⟩
def phV(out:List V3):Nat:=match out with
 |[]=>0
 |_::_=>1
theorem Dd6(out:List V3)(x:V3):phV (out++[x])=1:=by cases out<;>rfl
theorem Cc0(l:List V3)(x1 x2 x3:Int):app (bL tV l) [[i x1,i x2,i x3]]=bL tV (l++[⟨x1,x2,x3⟩]):=Ta5 tV l [⟨x1,x2,x3⟩]
theorem ze3{l:List V3}{m:Nat}(h:m<l.length):(((Nat.blt (0+m) (len (bL tV l)))&&(Nat.ble (0+3) (len (i8 (bL tV l) (0+m)))))&&(ra5 [CK.int .i64,CK.int .i64,CK.int .i64] (j6 (i8 (bL tV l) (0+m)) 0)))=true:=by
 rw[Qiu,O3 tV h,ka7,show Nat.blt m l.length=true from by rw[Nat.blt_eq];exact h]
 rfl
theorem ze4{l:List V3}{m:Nat}(h:m<l.length):(((Nat.blt (0+m) (len (bL tV l)))&&(Nat.ble (2+1) (len (i8 (bL tV l) (0+m)))))&&(ra5 [CK.int .i64] (j6 (i8 (bL tV l) (0+m)) 2)))=true:=by
 rw[Qiu,O3 tV h,ka7,show Nat.blt m l.length=true from by rw[Nat.blt_eq];exact h]
 rfl
theorem le7{n:Nat}{l:List V3}(hn:l.length=n)(h:n<=1000000000):(Nat.beq n (len (bL tV l))&&Nat.ble ((n+1)*24) room)=true:=by
 subst hn;rw[ka7,Qiw,Bool.true_and,Nat.ble_eq];unfold room;omega
theorem Cc1{l:List V3}{n:Nat}{r:List (List c7)}{P:List V3->Prop}(hn:n=l.length)(hr:r=bL tV l)(h:P l):Rd (one (r1L tV)) (some (.sl 0 0 n 0,[⟨29,3,r,true,false,0⟩])) P:=by
 subst hn hr;refine⟨_,l,rfl,?_,h⟩;show Bool.rec (motive:=λ_=>Option (List V3)) none (some (slR tV (bL tV l) 0 l.length)) (Bool.and true (okS tV (bL tV l) 0 l.length))=_
 rw[vb0,Mb8];rfl
theorem yb7(v:V3):na1 v=inV v/\na2 v=true:=by
 have h3:[v.x,v.y,v.z].length<=1000000000:=by simp
 have:Ua6 v=some (b (inV v),[]):=by
  unfold Ua6 inV;simp only[fc5 24 _ (by omega) h3,fc6 24 _ (by omega) h3,r5]
  simp only[List.all_cons,List.all_nil,Qie]
 unfold na1 na2;rw[this];exact⟨rfl,rfl⟩
noncomputable def has(c:List Pln)(v:V3):Bool:=(chk c==0)&&(inV v&&inn c ⟨v.x,v.y,v.z,1⟩)
noncomputable def apart(a c:List Pln):Bool:=!((chk a==0)&&(chk c==0))||!Je6 (a++c++ws)
noncomputable def onc(X:List Pt)(p:Pln):Nat:=X.countP λx=>rm p x==0
noncomputable def keep(X:List Pt)(p:Pln):Bool:=!decide ((onc X p:Int)<3)
theorem Wb7{α:Type}(c:α->Bool):∀l:List α,(l.take (l.findIdx c)).filter (λx=>!c x)=l.take (l.findIdx c)
 |[]=>rfl
 |x::l=>by
  rw[List.findIdx_cons];cases h:c x with
  |true=>rfl
  |false =>
   simp only[cond_false,List.take_succ_cons,List.filter_cons,h,Bool.not_false,if_true];rw[Wb7 c l]
theorem xd6{α:Type}(l:List α)(j:Nat)(h:j<l.length):l.take (j+1)=l.take j++[l[j]]:=by rw[List.take_succ_eq_append_getElem h]
theorem ab7{α:Type}(t:Ty α){l:List α}{j:Nat}(h:j<l.length):l.take (j+1)=l.take j++[gL t l j]:=by rw[xd6 l j h,Za9 t h]
theorem fc9{α:Type}(t:Ty α){l r:List α}{j:Nat}(h:l.drop j=r.drop j):gL t l j=gL t r j:=by
 have h1:=Zc3 t l j 0;have h2:=Zc3 t r j 0;rw[Nat.add_zero] at h1 h2;rw[<- h1,<- h2,h]
theorem Wb8{α:Type}{l r:List α}{j:Nat}(h:l.drop j=r.drop j)(k:Nat):l.drop (j+k)=r.drop (j+k):=by rw[<- List.drop_drop,<- List.drop_drop,h]
structure Del(l:List Pln)(f:Pln->Bool)(cur:List Pln)(m j:Nat):Prop where
 len:cur.length=l.length
 t:cur.take m=(l.take j).filter f
 d:cur.drop j=l.drop j
 le:m<=j
 lm:m<=l.length
theorem fe9(l:List Pln)(n:Nat):j6 (bL tP l) n=bL tP (l.drop n):=by unfold bL;rw[F7,m9,m9,List.map_drop]
def eqP(x y:Pln):Bool:=x.n.x==y.n.x&&(x.n.y==y.n.y&&(x.n.z==y.n.z&&(x.b==y.b&&true)))
theorem Wb9(x y:Pln):eqP x y=true↔x=y:=by
 unfold eqP;simp only[Qie,Qia,beq_iff_eq];refine⟨λ⟨h1,h2,h3,h4⟩=>?_,λh=>by subst h;exact⟨rfl,rfl,rfl,rfl⟩⟩
 obtain⟨⟨x1,x2,x3⟩,x4⟩:=x;obtain⟨⟨y1,y2,y3⟩,y4⟩:=y
 simp only at h1 h2 h3 h4
 subst h1 h2 h3 h4;rfl
def ddF:Pln->List Pln->List Pln
 |_,[]=>[]
 |a,x::l=>if eqP x a then ddF x l else x::ddF x l
def dd:List Pln->List Pln
 |[]=>[]
 |x::l=>x::ddF x l
structure Cmp(l:List Pln)(n:Nat)(cur:List Pln)(m j:Nat)(R:List Pln):Prop where
 len:cur.length=l.length
 t:cur.take m++ddF (gL tP l (j-1)) ((l.take n).drop j)=R
 d:cur.drop (j-1)=l.drop (j-1)
 le:m+1<=j
theorem Vd6(l:List Pln)(n:Nat)(hn:n<=l.length):slR tP (bL tP l) 0 n=l.take n:=wc6 tP (by rw[List.length_take];omega) λk hk=>by
 rw[Qiu,O3 tP (by omega)]
 congr 1;simp[gL,Qiq,List.getElem?_take,hk]
theorem Vd7(l:List Pln)(n:Nat)(hn:n<=l.length):okS tP (bL tP l) 0 n=true:=lb4 tP (f:=λk=>gL tP l k) λk hk=>by rw[Qiu,O3 tP (by omega)]
end Go.Ev.Ce
namespace Go.Ev.Ce
open Go Go.Ev Go.Ev.L Go.Proofs Go.Sort
theorem Cc2(l:List Pln):List.Perm (Hb6 l) l:=List.mergeSort_perm l _
theorem Ld7(x y z:Pln)(h1:(!ltOf cb4 y x)=true)(h2:(!ltOf cb4 z y)=true):(!ltOf cb4 z x)=true:=by
 simp only[Qis,Fa8,decide_eq_false_iff_not] at *
 unfold LtP at *
 omega
theorem Ld8(x y:Pln):((!ltOf cb4 y x)||!ltOf cb4 x y)=true:=by
 simp only[Bool.or_eq_true,Qis,Fa8,decide_eq_false_iff_not];unfold LtP;omega
theorem Zc4(l:List Pln):(Hb6 l).Pairwise λx y=>(!ltOf cb4 y x)=true:=List.pairwise_mergeSort Ld7 Ld8 l
instance:DecidableEq Pln:=λx y=>decidable_of_iff _ (Wb9 x y)
def PC:List Pt:=[⟨0,0,0,1⟩,⟨0,0,1,4⟩,⟨0,1,0,3⟩,⟨1,0,0,2⟩]
end Go.Ev.Ce
namespace Go.Ev.Ce
open Go Go.Ev Go.Ev.L Go.Proofs
def La1(l:List Pln):Prop:=l.Pairwise LtP
theorem Qc9{x y z:Pln}(h1:LtP x y)(h2:LtP y z):LtP x z:=by unfold LtP at *;omega
theorem sc0(x:Pln):¬ LtP x x:=by unfold LtP;omega
theorem Dd7(x y:Pln):LtP x y\/x=y\/LtP y x:=by
 by_cases h1:LtP x y
 ·exact .inl h1
 ·by_cases h2:LtP y x
  ·exact .inr (.inr h2)
  ·refine .inr (.inl ?_);unfold LtP at h1 h2;have e1:x.n.x=y.n.x:=by omega
   have e2:x.n.y=y.n.y:=by omega
   have e3:x.n.z=y.n.z:=by omega
   have e4:x.b=y.b:=by omega
   cases x with | mk n b=>cases y with | mk m c=>cases n;cases m;simp_all
theorem Rc0:∀{l r:List Pln},La1 l->La1 r->(∀p,p∈l↔p∈r)->l=r
 |[],[],_,_,_=>rfl
 |[],b::r,_,_,h=>by have:=(h b).2 Qid;cases this
 |a::l,[],_,_,h=>by have:=(h a).1 Qid;cases this
 |a::l,b::r,hl,hr,h=>by
  obtain⟨hl1,hl2⟩:=Qig.1 hl;obtain⟨hr1,hr2⟩:=Qig.1 hr;have hab:a=b:=by
   rcases Qib.1 ((h a).1 Qid) with e|h1
   ·exact e
   ·rcases Qib.1 ((h b).2 Qid) with e|h2
    ·exact e.symm
    ·exact absurd (Qc9 (hr1 a h1) (hl1 b h2)) (sc0 b)
  subst hab;rw[Rc0 hl2 hr2 λp=>?_]
  constructor
  ·intro hp
   rcases Qib.1 ((h p).1 (Qif _ hp)) with e|h1
   ·subst e;exact absurd (hl1 p hp) (sc0 p)
   ·exact h1
  ·intro hp
   rcases Qib.1 ((h p).2 (Qif _ hp)) with e|h1
   ·subst e;exact absurd (hr1 p hp) (sc0 p)
   ·exact h1
def Zc5:List Pln->Pln->List Pln
 |[],y=>[y]
 |a::l,y=>if cb4 a y<0 then a::Zc5 l y else if eqP a y then a::l else y::a::l
theorem yb8(y p:Pln):∀x,p∈Zc5 x y↔p=y\/p∈x
 |[]=>by simp[Zc5]
 |a::l=>by
  unfold Zc5;have ih:=yb8 y p l;split
  ·simp only[Qib,ih];constructor
   ·rintro (h|h|h)
    ·exact .inr (.inl h)
    ·exact .inl h
    ·exact .inr (.inr h)
   ·rintro (h|h|h)
    ·exact .inr (.inl h)
    ·exact .inl h
    ·exact .inr (.inr h)
  ·split
   ·rename_i h;rw[Wb9] at h;subst h;simp only[Qib];constructor
    ·exact λh=>.inr h
    ·rintro (h|h)
     ·exact .inl h
     ·exact h
   ·simp only[Qib]
theorem Xb0(y:Pln):∀{x},La1 x->La1 (Zc5 x y)
 |[],_=>List.pairwise_singleton _ _
 |a::l,h=>by
  obtain⟨h1,h2⟩:=Qig.1 h;unfold Zc5;split
  ·rename_i hc;rw[Yc4] at hc;refine Qig.2 ⟨λp hp=>?_,Xb0 y h2⟩
   rcases (yb8 y p l).1 hp with e|hp
   ·subst e;exact hc
   ·exact h1 p hp
  ·rename_i hc;rw[Yc4] at hc;split
   ·exact h
   ·rename_i hne;have hlt:LtP y a:=by
     rcases Dd7 y a with h|h|h
     ·exact h
     ·exact absurd ((Wb9 _ _).2 h.symm) hne
     ·exact absurd h hc
    refine Qig.2 ⟨λp hp=>?_,h⟩
    rcases Qib.1 hp with e|hp
    ·subst e;exact hlt
    ·exact Qc9 hlt (h1 p hp)
theorem Dd8{σ:Type}{step:σ->Stp σ}{s:σ}{t:Nat}(h:step s=.exit t):lp step s=(t,s):=by rw[Qd2];exact wc3 h
theorem Ld9:Hb6 []=[]:=List.eq_nil_of_length_eq_zero (Db5 [])
end Go.Ev.Ce
namespace Go.Ev.Ce
def rmZ(p:Pln)(x:Pt):Int:=p.b*x.pw-(p.n.x*x.px+p.n.y*x.py+p.n.z*x.pz)
structure Inr(r:List Pln)(x:Pt):Prop where
 w:0<x.pw
 h:∀p∈r,0<=rmZ p x
def pa3(p:Pln):Pln:=⟨⟨-p.n.x,-p.n.y,-p.n.z⟩,-p.b⟩
structure Cn(r:List Pln)(x:Pt):Prop extends Inr r x where
 c:∃p q s,p∈r/\q∈r/\s∈r/\mw p q s≠0/\rmZ p x=0/\rmZ q x=0/\rmZ s x=0
def Bdd(r:List Pln):Prop:=∀d:V3,d≠⟨0,0,0⟩->∃p∈r,0<dot p.n d
def go(x:Pt)(q:Pln)(d:V3):Pt:=⟨x.px*dot q.n d+rmZ q x*d.x,x.py*dot q.n d+rmZ q x*d.y,x.pz*dot q.n d+rmZ q x*d.z,x.pw*dot q.n d⟩
theorem Dd9(p q:Pln)(x:Pt)(d:V3):rmZ p (go x q d)=dot q.n d*rmZ p x-rmZ q x*dot p.n d:=by simp only[rmZ,go,dot];grind
theorem Ja1{a b c:Int}(hc:0<c)(h:a*c<=b*c):a<=b:=Int.le_of_mul_le_mul_right h hc
theorem first(x:Pt)(d:V3):∀r:List Pln,(∀p∈r,0<=rmZ p x)->(∃p∈r,0<dot p.n d)->∃q∈r,0<dot q.n d/\∀p∈r,0<dot p.n d->rmZ q x*dot p.n d<=rmZ p x*dot q.n d
 |[],_,h=>by obtain⟨p,hp,_⟩:=h;cases hp
 |a::r,hx,h=>by
  by_cases hr:∃p∈r,0<dot p.n d
  ·obtain⟨q,hq,h1,h2⟩:=first x d r (λp hp=>hx p (Qif _ hp)) hr
   by_cases ha:0<dot a.n d
   ·by_cases hc:rmZ q x*dot a.n d<=rmZ a x*dot q.n d
    ·refine⟨q,Qif _ hq,h1,λp hp h3=>?_⟩
     rcases Qib.1 hp with rfl|hp
     ·exact hc
     ·exact h2 p hp h3
    ·refine⟨a,Qid,ha,λp hp h3=>?_⟩
     rcases Qib.1 hp with rfl|hp
     ·exact Int.le_refl _
     ·have h4:=h2 p hp h3;have h5:rmZ a x*dot q.n d<rmZ q x*dot a.n d:=by omega
      have h6:=Qih h4 (Qii ha);have h7:=Int.mul_lt_mul_of_pos_right h5 h3;have e1:rmZ q x*dot p.n d*dot a.n d=rmZ q x*dot a.n d*dot p.n d:=by grind
      have e2:rmZ a x*dot q.n d*dot p.n d=rmZ a x*dot p.n d*dot q.n d:=by grind
      have e3:rmZ p x*dot q.n d*dot a.n d=rmZ p x*dot a.n d*dot q.n d:=by grind
      refine Ja1 h1 ?_;omega
   ·refine⟨q,Qif _ hq,h1,λp hp h3=>?_⟩
    rcases Qib.1 hp with rfl|hp
    ·exact absurd h3 ha
    ·exact h2 p hp h3
  ·have ha : 0 < dot a.n d := by
    obtain⟨p,hp,h3⟩:=h
    rcases Qib.1 hp with rfl|hp
    ·exact h3
    ·exact absurd ⟨p,hp,h3⟩ hr
   refine⟨a,Qid,ha,λp hp h3=>?_⟩
   rcases Qib.1 hp with rfl|hp
   ·exact Int.le_refl _
   ·exact absurd ⟨p,hp,h3⟩ hr
theorem step{r:List Pln}{x:Pt}(hx:Inr r x)(d:V3)(h:∃p∈r,0<dot p.n d):∃q∈r,0<dot q.n d/\Inr r (go x q d):=by
 obtain⟨q,hq,h1,h2⟩:=first x d r hx.h h;refine⟨q,hq,h1,⟨Int.mul_pos hx.w h1,λp hp=>?_⟩⟩
 rw[Dd9];have h3:=hx.h p hp;have h4:=hx.h q hq;by_cases h5:0<dot p.n d
 ·have:=h2 p hp h5
  have e:rmZ p x*dot q.n d=dot q.n d*rmZ p x:=Int.mul_comm _ _;omega
 ·have h6:=Qil (Qii h1) h3;have h7:rmZ q x*dot p.n d<=0:=Int.mul_nonpos_of_nonneg_of_nonpos h4 (by omega)
  omega
theorem Vd8{h q:Pln}{x:Pt}{d:V3}(h1:0<=rmZ q x)(h2:0<=dot h.n d):rmZ h (go x q d)*x.pw<=rmZ h x*(go x q d).pw\/x.pw<=0:=by
 rcases Int.lt_or_le 0 x.pw with hw|hw
 ·left;rw[Dd9]
  have:=Qil h1 h2
  have h3:=Qil this (Qii hw);have e:rmZ h x*(go x q d).pw=dot q.n d*rmZ h x*x.pw:=by unfold go;grind
  have e2:(dot q.n d*rmZ h x-rmZ q x*dot h.n d)*x.pw=dot q.n d*rmZ h x*x.pw-rmZ q x*dot h.n d*x.pw:=by grind
  omega
 ·exact .inr hw
def neg(d:V3):V3:=⟨-d.x,-d.y,-d.z⟩
theorem sc1(a d:V3):dot a (neg d)=-dot a d:=by unfold dot neg;grind
theorem Zc6{d:V3}(h:d≠⟨0,0,0⟩):neg d≠⟨0,0,0⟩:=λh'=>h (by
 cases d;unfold neg at h';simp only[V3.mk.injEq] at h' ⊢;omega)
theorem turn(h:Pln){d:V3}(hd:d≠⟨0,0,0⟩):∃e,e≠(⟨0,0,0⟩:V3)/\0<=dot h.n e/\∀a,dot a d=0->dot a e=0:=by
 by_cases h1:0<=dot h.n d
 ·exact⟨d,hd,h1,λ_ h=>h⟩
 ·exact⟨neg d,Zc6 hd,by rw[sc1];omega,λa h=>by rw[sc1,h];rfl⟩
theorem ze5{n:V3}(hn:n≠⟨0,0,0⟩):∃d,d≠(⟨0,0,0⟩:V3)/\dot n d=0:=by
 by_cases h:n.x=0/\n.y=0
 ·exact⟨⟨1,0,0⟩,by simp,by unfold dot;simp[h.1]⟩
 ·refine⟨⟨n.y,-n.x,0⟩,λh'=>h ?_,by unfold dot;grind⟩
  simp only[V3.mk.injEq] at h';omega
theorem V3.ext'{a b:V3}(h1:a.x=b.x)(h2:a.y=b.y)(h3:a.z=b.z):a=b:=by cases a;cases b;simp_all
theorem Vd9{m n d:V3}(hm:m≠⟨0,0,0⟩)(h1:dot m d=0)(h2:dot n d≠0):d7 m n≠⟨0,0,0⟩:=λh=>by
 unfold d7 at h;simp only[V3.mk.injEq] at h;obtain⟨c1,c2,c3⟩:=h;unfold dot at h1 h2;have e1:m.x*(n.x*d.x+n.y*d.y+n.z*d.z)=0:=by grind
 have e2:m.y*(n.x*d.x+n.y*d.y+n.z*d.z)=0:=by grind
 have e3:m.z*(n.x*d.x+n.y*d.y+n.z*d.z)=0:=by grind
 have k:∀{a:Int},a*(n.x*d.x+n.y*d.y+n.z*d.z)=0->a=0:=λh=>(Int.mul_eq_zero.1 h).resolve_right h2
 exact hm (V3.ext' (k e1) (k e2) (k e3))
theorem md5(a b:V3):dot a (d7 a b)=0:=by unfold dot d7;grind
theorem md6(a b:V3):dot b (d7 a b)=0:=by unfold dot d7;grind
theorem Wd0{p q:Pln}{x:Pt}{d:V3}(h:rmZ p x=0)(h':dot p.n d=0):rmZ p (go x q d)=0:=by rw[Dd9,h,h'];simp
theorem Wd1(q:Pln)(x:Pt)(d:V3):rmZ q (go x q d)=0:=by rw[Dd9];grind
theorem ze6{q:Pln}{d:V3}(h:0<dot q.n d):q.n≠⟨0,0,0⟩:=λh'=>by rw[h'] at h;unfold dot at h;simp at h
theorem le8{a b c u v w:Int}(hu:0<u)(hv:0<v)(hw:0<w)(h1:a*v<=b*u)(h2:b*w<=c*v):a*w<=c*u:=by
 have h3:=Qih h1 (Qii hw);have h4:=Qih h2 (Qii hu);have e1:a*v*w=a*w*v:=by grind
 have e2:b*u*w=b*w*u:=by grind
 have e3:c*v*u=c*u*v:=by grind
 exact Ja1 hv (by omega)
theorem re1{r:List Pln}(hb:Bdd r)(h:Pln){x:Pt}(hx:Inr r x):∃v,Cn r v/\rmZ h v*x.pw<=rmZ h x*v.pw:=by
 obtain⟨d0,n0,p0,_⟩:=turn h (d:=⟨1,0,0⟩) (by simp)
 obtain⟨q1,m1,k1,i1⟩:=step hx d0 (hb d0 n0);have l1:=(Vd8 (h:=h) (x:=x) (hx.h q1 m1) p0).resolve_right (by have:=hx.w;omega)
 obtain⟨e1,ne1,he1⟩:=ze5 (ze6 k1);obtain⟨d1,n1,p1,z1⟩:=turn h ne1;obtain⟨q2,m2,k2,i2⟩:=step i1 d1 (hb d1 n1);have l2:=(Vd8 (h:=h) (x:=go x q1 d0) (i1.h q2 m2) p1).resolve_right (by have:=i1.w;omega)
 have hc:=Vd9 (ze6 k1) (z1 _ he1) (n:=q2.n) (by omega)
 obtain⟨d2,n2,p2,z2⟩:=turn h hc;obtain⟨q3,m3,k3,i3⟩:=step i2 d2 (hb d2 n2);have l3:=(Vd8 (h:=h) (x:=go (go x q1 d0) q2 d1) (i2.h q3 m3) p2).resolve_right (by have:=i2.w;omega)
 have a1:rmZ q1 (go (go x q1 d0) q2 d1)=0:=Wd0 (Wd1 _ _ _) (z1 _ he1);refine⟨_,⟨i3,q3,q1,q2,m3,m1,m2,λh0=>?_,Wd1 _ _ _,Wd0 a1 (z2 _ (md5 _ _)),Wd0 (Wd1 _ _ _) (z2 _ (md6 _ _))⟩,?_⟩
 ·have:dot q3.n d2=0:=z2 _ h0
  omega
 ·exact le8 i3.w i2.w hx.w l3 (le8 i2.w i1.w hx.w l2 l1)
theorem rb0{r:List Pln}(hb:Bdd r){h:Pln}(hv:∀v,Cn r v->0<=rmZ h v){x:Pt}(hx:Inr r x):0<=rmZ h x:=by
 obtain⟨v,h1,h2⟩:=re1 hb h hx;have h3:=Qil (hv v h1) (Qii hx.w);exact Ja1 h1.w (by rw[Qix];omega)
def Je7(r:List Pln):Prop:=∃x:Pt,0<x.pw/\∀p∈r,0<rmZ p x
structure Eqv(x v:Pt):Prop where
 e1:x.px*v.pw=v.px*x.pw
 e2:x.py*v.pw=v.py*x.pw
 e3:x.pz*v.pw=v.pz*x.pw
theorem Eqv.rm{x v:Pt}(h:Eqv x v)(p:Pln):rmZ p x*v.pw=rmZ p v*x.pw:=by
 obtain⟨e1,e2,e3⟩:=h;unfold rmZ
 grind
theorem Eqv.inr{r:List Pln}{x v:Pt}(h:Eqv x v)(hw:0<x.pw)(hv:Inr r v):Inr r x:=⟨hw,λp hp=>by
 have:=h.rm p
 have h2:=Qil (hv.h p hp) (Qii hw);exact Ja1 hv.w (by rw[Qix];omega)⟩
end Go.Ev.Ce
namespace Go.Ev.Ce
open Go Go.Ev Go.Ev.L Go.Proofs
structure Hit(r:List Pln)(Q:Pt->Prop)(p q s:Pln):Prop where
 h1:(mpt p q s).2=true
 h2:inn r (mpt p q s).1=true
 h3:Q (mpt p q s).1
theorem re2(c:List Pln):Bdd (c++ws):=λd hd=>by
 have k:∀{n:V3} {m:Int},(⟨n,m⟩:Pln)∈ws->0<dot n d->∃p∈c++ws,0<dot p.n d:=λh h'=>⟨_,List.mem_append_right _ h,h'⟩
 by_cases h1:0<d.x
 ·exact k (n:=⟨1,0,0⟩) (m:=24) (by simp[ws]) (by unfold dot;simp;omega)
 by_cases h2:d.x<0
 ·exact k (n:=⟨-1,0,0⟩) (m:=24) (by simp[ws]) (by unfold dot;simp;omega)
 by_cases h3:0<d.y
 ·exact k (n:=⟨0,1,0⟩) (m:=24) (by simp[ws]) (by unfold dot;simp;omega)
 by_cases h4:d.y<0
 ·exact k (n:=⟨0,-1,0⟩) (m:=24) (by simp[ws]) (by unfold dot;simp;omega)
 by_cases h5:0<d.z
 ·exact k (n:=⟨0,0,1⟩) (m:=24) (by simp[ws]) (by unfold dot;simp;omega)
 by_cases h6:d.z<0
 ·exact k (n:=⟨0,0,-1⟩) (m:=24) (by simp[ws]) (by unfold dot;simp;omega)
 exact absurd (V3.ext' (by show d.x=0;omega) (by show d.y=0;omega) (by show d.z=0;omega)) hd
def phP(out:List Pln):Nat:=match out with
 |[]=>0
 |_::_=>1
def ea5(p:Pln)(v:V3):Int:=if okp p&&inV v then (if dot p.n v-p.b<0 then -1 else if dot p.n v-p.b>0 then 1 else 0) else 0
theorem Wd2{p:Pln}{v:V3}(hp:Bd p)(hv:inV v=true):Sm 331776 (dot p.n v):=by
 obtain⟨⟨a1,a2⟩,⟨a3,a4⟩,a5,a6⟩:=(la9 v).1 hv;have r1:=mb hp.x1 hp.x2 a1 a2;have r2:=mb hp.y1 hp.y2 a3 a4;have r3:=mb hp.z1 hp.z2 a5 a6;unfold Sm dot;omega
theorem ge0(p:Pln)(v:V3):wa9 p v=some (i (ea5 p v),[]):=by
 unfold wa9 ea5;simp only[Ud9,md2,le6,Vd3];cases hp:okp p with
 |false=>rfl
 |true =>
  cases hv:inV v with
  |false=>rfl
  |true =>
   have hb:=fc7 hp;have hd:=Wd2 hb hv;have e:p4 p.n v=dot p.n v:=by
    unfold p4;simp only[Wa0,xb1];exact Ga9 (hd.mono (by omega))
   have e2:W (dot p.n v-p.b)=dot p.n v-p.b:=aa4 (by have:=hd.1;have:=hb.b2;omega) (by have:=hd.2;have:=hb.b1;omega)
   rw[e,e2];by_cases h1:dot p.n v-p.b<0
   ·simp only[Qic,if_true,h1,decide_true];rfl
   ·by_cases h2:dot p.n v-p.b>0
    ·simp only[Qic,if_true,h1,h2,decide_true,decide_false,if_false];rfl
    ·simp only[Qic,if_true,h1,h2,decide_false,if_false];rfl
theorem re3(p:Pln)(v:V3):mb4 p v=ea5 p v:=by unfold mb4;rw[ge0];rfl
theorem md7{p:Pln}{v:V3}(hp:okp p=true)(hv:inV v=true):ea5 p v>0↔dot p.n v>p.b:=by
 unfold ea5;rw[hp,hv];simp only[Qic,if_true];split
 ·omega
 ·split<;>omega
theorem Eb4{p:Pln}{v:V3}(hp:okp p=true)(hv:inV v=true):ea5 p v=0↔dot p.n v=p.b:=by
 unfold ea5;rw[hp,hv];simp only[Qic,if_true];split
 ·omega
 ·split<;>omega
theorem re4(v:V3):g3 v∣v.x/\g3 v∣v.y/\g3 v∣v.z:=by
 unfold g3;refine⟨?_,?_,?_⟩<;>rw[<- Int.dvd_natAbs]<;>apply Int.natCast_dvd_natCast.2
 ·exact Qir (Qij _ _) (Qij _ _)
 ·exact Qir (Qij _ _) (Qin _ _)
 ·exact Qin _ _
theorem re5(v:V3)(h:g3 v≠0):g3 ⟨Int.tdiv v.x (g3 v),Int.tdiv v.y (g3 v),Int.tdiv v.z (g3 v)⟩=1:=by
 generalize hg:g3 v=g at *
 have h0:0<=g:=hg ▸ Eb3 v;obtain⟨n,rfl⟩:∃n:Nat,g=n:=⟨g.toNat,by omega⟩
 have hn:0<n:=by omega
 have hgn:Nat.gcd (Nat.gcd v.x.natAbs v.y.natAbs) v.z.natAbs=n:=by unfold g3 at hg;omega
 have d1:n∣Nat.gcd v.x.natAbs v.y.natAbs:=hgn ▸ Qij _ _;have d3:n∣v.z.natAbs:=hgn ▸ Qin _ _;have d4:n∣v.x.natAbs:=Qir d1 (Qij _ _);have d5:n∣v.y.natAbs:=Qir d1 (Qin _ _);unfold g3;simp only[Int.natAbs_tdiv,Int.natAbs_natCast];show ((Nat.gcd (Nat.gcd (v.x.natAbs / n) (v.y.natAbs / n)) (v.z.natAbs / n):Nat):Int)=1;rw[Nat.gcd_div d4 d5,Nat.gcd_div d1 d3,hgn,Nat.div_self hn];rfl
structure Thr(a b c:V3)(p:Pln):Prop where
 ok:okp p=true
 k:∃g:Int,0<g/\g*p.n.x=(d7 (sub b a) (sub c a)).x/\g*p.n.y=(d7 (sub b a) (sub c a)).y/\g*p.n.z=(d7 (sub b a) (sub c a)).z
 o:p.b=dot p.n a
theorem ma0{a b c:V3}(h:(I0 a b c).2=true):(inV a=true/\inV b=true/\inV c=true)/\Thr a b c (I0 a b c).1:=by
 unfold I0 at h ⊢;cases ha:inV a with
 |false=>rw[ha] at h;cases h
 |true =>
  cases hb:inV b with
  |false=>rw[ha,hb] at h;cases h
  |true =>
   cases hc:inV c with
   |false=>rw[ha,hb,hc] at h;cases h
   |true =>
    rw[ha,hb,hc] at h;simp only[Qic,if_true] at h ⊢;obtain⟨_,k1,k2,k3⟩:=eb5 ha hb hc;generalize hn:d7 (sub b a) (sub c a)=n at *
    by_cases h0:g3 n=0
    ·rw[if_pos h0] at h;cases h
    ·rw[if_neg h0];have hp:=Eb3 n;obtain⟨d1,d2,d3⟩:=re4 n;have q1:=Qa6 (g:=g3 n) k1 (by omega)
     have q2:=Qa6 (g:=g3 n) k2 (by omega)
     have q3:=Qa6 (g:=g3 n) k3 (by omega)
     refine⟨⟨trivial,trivial,trivial⟩,⟨?_,⟨g3 n,by omega,by rw[hn];exact Qio d1,by rw[hn];exact Qio d2,by rw[hn];exact Qio d3⟩,rfl⟩⟩
     obtain⟨⟨a1,a2⟩,⟨a3,a4⟩,a5,a6⟩:=(la9 a).1 ha;have r1:=mb q1.1 q1.2 a1 a2;have r2:=mb q2.1 q2.2 a3 a4;have r3:=mb q3.1 q3.2 a5 a6;unfold okp;rw[re5 n h0];simp only[List.all_cons,List.all_nil,Qie,Qia,ab6,beq_self_eq_true,true_and,and_true];refine⟨⟨q1,q2,q3⟩,?_⟩;unfold Sm dot
     simp only
     omega
theorem ge1(a b c:V3):Bd (I0 a b c).1:=by
 cases h:(I0 a b c).2 with
 |true=>exact fc7 (ma0 h).2.ok
 |false =>
  have:(I0 a b c).1=⟨⟨0,0,0⟩,0⟩:=by
   unfold I0 at h ⊢;split
   ·rename_i hc;rw[if_pos hc] at h;split
    ·rfl
    ·rename_i h0;rw[if_neg h0] at h;cases h
   ·rfl
  rw[this]
  constructor<;>simp
theorem Xb1{p:Pln}(h:okp p=true):okp (pa3 p)=true:=by
 unfold okp pa3 g3 at *
 simp only[List.all_cons,List.all_nil,Qie,Qia,ab6,Int.natAbs_neg] at h ⊢;obtain⟨⟨h1,h2,h3⟩,h4,h5⟩:=h;exact⟨⟨h1.neg,h2.neg,h3.neg⟩,h4,h5.neg⟩
noncomputable def Wd3(l:List V3)(p:Pln):Bool:=l.any λv=>ea5 p v != 0
noncomputable def nf(l:List V3)(a c k:Nat):Bool:=(I0 (gL tV l a) (gL tV l c) (gL tV l k)).2&&Wd3 l (I0 (gL tV l a) (gL tV l c) (gL tV l k)).1
noncomputable def nf2(l:List V3)(a c:Nat):Bool:=(List.range c).any (nf l a c)
noncomputable def nf1(l:List V3)(a:Nat):Bool:=(List.range a).any (nf2 l a)
noncomputable def nf0(l:List V3):Bool:=(List.range l.length).any (nf1 l)
theorem Cc3 {σ : Type} {step : σ → Stp σ} {mk : Nat → σ} (n : Nat) (c : Nat → Bool) (u fin : Nat) (hn : n ≤ 1000000000) (h : ∀ j, j < n → step (mk j) = sl (c j) (.exit u) (.next (mk (j + 1)))) (hf : step (mk n) = .exit fin) :
  ∃j,lp step (mk 0)=(if (List.range n).any c then u else fin,mk j):=by
 have key:=aa3 (step:=step) (mk:=λj (_:Unit)=>mk j) n (λj _=>j<=n/\∀i,i<j->c i=false) (λt s=>t=(if (List.range n).any c then u else fin)/\∃j,s=mk j) hn
  (λj _ hj hi=>by
   rw[h j hj];refine Nx.sl (λhc=>.ex ⟨?_,j,rfl⟩) (λhc=>.nx ⟨(),rfl,by omega,λi hi'=>?_⟩)
   ·rw[if_pos (List.any_eq_true.2 ⟨j,List.mem_range.2 hj,hc⟩)]
   ·by_cases e:i=j
    ·rw[e];exact hc
    ·exact hi.2 i (by omega))
  (λj _ hj hi=>by
   have e:j=n:=by omega
   subst e;refine⟨fin,hf,?_,j,rfl⟩;rw[if_neg λhh=>?_]
   obtain⟨i,hi1,hi2⟩:=List.any_eq_true.1 hh;rw[hi.2 i (List.mem_range.1 hi1)] at hi2;cases hi2) 0 () ⟨by omega,by omega⟩
 obtain⟨t,s,h1,rfl,j,rfl⟩:=key;exact⟨j,h1⟩
theorem Wd4(l:List V3)(x1 x2 x3:Int)(okb:Bool)(p:Pln)(hl:l.length<=1000000000):∃t s,lp (w7 ⟨l,x1,x2,x3,okb,p.n.x,p.n.y,p.n.z,p.b⟩) ⟨0⟩=(t,s)/\(((okb&&Wd3 l p)=true/\t=1)\/((okb&&Wd3 l p)=false/\(t=2\/t=3))):=by
 cases okb with
 |false =>
  cases l with
  |nil =>
   refine⟨3,⟨0⟩,?_,.inr ⟨rfl,.inr rfl⟩⟩;exact Dd8 (step:=w7 ⟨[],x1,x2,x3,false,p.n.x,p.n.y,p.n.z,p.b⟩) rfl
  |cons v l =>
   refine⟨2,⟨0⟩,?_,.inr ⟨rfl,.inl rfl⟩⟩;refine Dd8 (step:=w7 ⟨v::l,x1,x2,x3,false,p.n.x,p.n.y,p.n.z,p.b⟩) ?_;simp only[w7,R8];rw[btD (by simp only[List.length_cons];omega)]
   rfl
 |true =>
  have h:=xd4 (step:=w7 ⟨l,x1,x2,x3,true,p.n.x,p.n.y,p.n.z,p.b⟩) (mk:=λj=>(⟨(j:Int)⟩:V5)) (c:=λv=>ea5 p v != 0) (u:=1) (fin:=3) tV l hl
   (λj hj=>by
    simp only[w7,R8,Vd4,re3,Int.toNat_natCast,E6 hj (show l.length<=4611686018427387904 by omega)]
    rw[btD (q7 hj),bt (j9 hj)]
    rfl)
   (by simp only[w7,R8];rw[bfD (y5 (Qik _))]) 0 (Qiy _)
  rw[Qiv] at h;have h:(lp (w7 ⟨l,x1,x2,x3,true,p.n.x,p.n.y,p.n.z,p.b⟩) ⟨0⟩).1=_:=h;cases hlp:lp (w7 ⟨l,x1,x2,x3,true,p.n.x,p.n.y,p.n.z,p.b⟩) ⟨0⟩ with
  |mk t s =>
  rw[hlp] at h;refine⟨t,s,rfl,?_⟩
  simp only at h
  rw[h];unfold Wd3;cases hh:l.any λv=>ea5 p v != 0 with
  |true=>exact .inl ⟨rfl,rfl⟩
  |false=>exact .inr ⟨rfl,.inr rfl⟩
theorem Wd5(l:List V3)(hl:l.length<=1000000000)(a c:Nat)(ha:a<l.length)(hc:c<a):∃j,lp (M4 ⟨(a:Int),(c:Int)⟩) ⟨l,0⟩=(if nf2 l a c then 1 else 2,⟨l,((j:Nat):Int)⟩) :=
 Cc3 (step:=M4 ⟨(a:Int),(c:Int)⟩) (mk:=λj=>(⟨l,(j:Int)⟩:V6)) c (nf l a c) 1 2 (by omega)
  (λj hj=>by
   simp only[M4,Z5,Ld6,Qc8,Int.toNat_natCast,w5,o9,E6 hj (show c<=4611686018427387904 by omega)]
   rw[btD (q7 hj),bt (j9 ha),bt (j9 (show c<l.length by omega)),bt (j9 (show j<l.length by omega)),r5]
   obtain⟨t,s,h1,h2⟩:=Wd4 l (a:Int) (c:Int) (j:Int) (I0 (gL tV l a) (gL tV l c) (gL tV l j)).2 (I0 (gL tV l a) (gL tV l c) (gL tV l j)).1 hl;rw[h1];unfold nf
   rcases h2 with⟨e,rfl⟩|⟨e,rfl|rfl⟩<;>rw[e]<;>rfl)
  (by simp only[M4,Z5];rw[bfD (y5 (Qik _))])
theorem Wd6(l:List V3)(hl:l.length<=1000000000)(a:Nat)(ha:a<l.length):∃j,lp (M5 ⟨(a:Int)⟩) ⟨l,0⟩=(if nf1 l a then 1 else 2,⟨l,((j:Nat):Int)⟩) :=
 Cc3 (step:=M5 ⟨(a:Int)⟩) (mk:=λj=>(⟨l,(j:Int)⟩:V7)) a (nf2 l a) 1 2 (by omega)
  (λj hj=>by
   obtain⟨j',h1⟩:=Wd5 l hl a j ha hj;simp only[M5,Z6,w5,o9,E6 hj (show a<=4611686018427387904 by omega)]
   rw[btD (q7 hj),h1];cases nf2 l a j<;>rfl)
  (by simp only[M5,Z6];rw[bfD (y5 (Qik _))])
theorem ge2(l:List V3)(hl:l.length<=1000000000):xa0 l=some (b (!nf0 l),[]):=by
 obtain⟨j,h⟩:=Cc3 (step:=M6 ⟨⟩) (mk:=λj=>(⟨l,(j:Int)⟩:V8)) l.length (nf1 l) 1 2 hl
  (λj hj=>by
   obtain⟨j',h1⟩:=Wd6 l hl j hj;simp only[M6,Z7,w5,o9,E6 hj (show l.length<=4611686018427387904 by omega)]
   rw[btD (q7 hj),h1];cases nf1 l j<;>rfl)
  (by simp only[M6,Z7];rw[bfD (y5 (Qik _))])
 have h:lp (M6 ⟨⟩) ⟨l,0⟩=(if nf0 l then 1 else 2,⟨l,((j:Nat):Int)⟩):=h
 unfold xa0;simp only[w5,o9];rw[h];cases nf0 l<;>rfl
theorem Wd7(l:List V3)(hl:l.length<=1000000000):Ua9 l=!nf0 l:=by unfold Ua9;rw[ge2 l hl];rfl
def hold(p:Pln)(l:List V3):Bool:=!l.any λv=>decide (ea5 p v>0)
theorem md8(p:Pln)(v:V3):Aa8 p v=some (i (ea5 p v),[]):=by
 unfold Aa8 ea5;simp only[Dd3,Dd4,(yb7 v).1,(yb7 v).2,Cd9,Dd0,r5];cases hp:okp p with
 |false=>rfl
 |true =>
  cases hv:inV v with
  |false=>rfl
  |true =>
   have hb:=fc7 hp;have hd:=Wd2 hb hv;have e:r7 p.n v=dot p.n v:=by
    unfold r7;simp only[Wa0,xb1];exact Ga9 (hd.mono (by omega))
   rw[e];simp only[Bool.not_true,sa9,Qic,if_true,cb3];by_cases h1:dot p.n v<p.b
   ·rw[if_pos h1,if_pos (by omega)]
   ·rw[if_neg h1];by_cases h2:dot p.n v>p.b
    ·rw[if_pos h2,if_neg (by omega),if_pos (by omega)]
    ·rw[if_neg h2,if_neg (by omega),if_neg (by omega)]
theorem sc2(p:Pln)(v:V3):ha4 p v=ea5 p v:=by unfold ha4;rw[md8];rfl
theorem sc3(p:Pln)(v:V3):ha5 p v=true:=by unfold ha5;rw[md8];rfl
theorem ge3{v:V3}(h1:Sm 1000000000000000000 v.x)(h2:Sm 1000000000000000000 v.y)(h3:Sm 1000000000000000000 v.z):U6 [v.x,v.y,v.z]=g3 v/\U7 [v.x,v.y,v.z]=true:=by
 have hd:=Bc7 [v.x,v.y,v.z] (by simp) (by
  intro x hx;simp only[Qib,List.not_mem_nil,or_false] at hx
  rcases hx with rfl|rfl|rfl<;>assumption)
 have hg:([v.x,v.y,v.z].foldl (λg x=>Nat.gcd g x.natAbs) 0:Nat)=Nat.gcd (Nat.gcd v.x.natAbs v.y.natAbs) v.z.natAbs:=by
  simp only[List.foldl_cons,List.foldl_nil,Qit]
 exact⟨by unfold U6;rw[hd,hg];rfl,by unfold U7;rw[hd];rfl⟩
theorem md9 {v : V3} (h1 : Sm 1000000000000000000 v.x) (h2 : Sm 1000000000000000000 v.y) (h3 : Sm 1000000000000000000 v.z) :
  Aa7 v=if g3 v=0 then some (.tup [.agg (tV.row ⟨0,0,0⟩),i 0],[]) else some (.tup [.agg (tV.row ⟨W (Int.tdiv v.x (g3 v)),W (Int.tdiv v.y (g3 v)),W (Int.tdiv v.z (g3 v))⟩),i (g3 v)],[]):=by
 obtain⟨e1,e2⟩:=ge3 h1 h2 h3;unfold Aa7;simp only[e1,e2,r5];by_cases h:g3 v=0
 ·rw[if_pos h,bt (by simpa using h)];rfl
 ·rw[if_neg h,bf (by simpa using h),bf (by simpa using h),bf (by simpa using h),bf (by simpa using h)];rfl
theorem jc4(a c d:V3):ia8 a c d=some (.tup [.agg (tP.row (I0 a c d).1),b (I0 a c d).2],[]):=by
 unfold ia8 I0;simp only[(yb7 _).1,(yb7 _).2];cases ha:inV a with
 |false=>rfl
 |true =>
  cases hc:inV c with
  |false=>rfl
  |true =>
   cases hd:inV d with
   |false=>rfl
   |true =>
    obtain⟨e,k1,k2,k3⟩:=eb5 ha hc hd;have e':R2 (O5 c a) (O5 d a)=d7 (sub c a) (sub d a):=e;rw[e'];generalize d7 (sub c a) (sub d a)=n at *
    have m1:=k1.mono (m:=1000000000000000000) (by omega)
    have m2:=k2.mono (m:=1000000000000000000) (by omega)
    have m3:=k3.mono (m:=1000000000000000000) (by omega)
    have hpr:=md9 m1 m2 m3;have gp:qa6 n=true:=by unfold qa6;rw[hpr];split<;>rfl
    by_cases h0:g3 n=0
    ·have pp:ca5 n=(⟨0,0,0⟩,0):=by unfold ca5;rw[hpr,if_pos h0];rfl
     have hz:r7 ⟨0,0,0⟩ a=0:=by unfold r7;simp only[Qix];rfl
     simp only[gp,pp,hz,Qic,if_true,h0];rfl
    ·have hp:=Eb3 n;have q1:=Qa6 (g:=g3 n) k1 (by omega)
     have q2:=Qa6 (g:=g3 n) k2 (by omega)
     have q3:=Qa6 (g:=g3 n) k3 (by omega)
     rw[Ga9 (q1.mono (by omega)),Ga9 (q2.mono (by omega)),Ga9 (q3.mono (by omega))] at hpr
     have pp:ca5 n=(⟨Int.tdiv n.x (g3 n),Int.tdiv n.y (g3 n),Int.tdiv n.z (g3 n)⟩,g3 n):=by unfold ca5;rw[hpr,if_neg h0];rfl
     have hdot:r7 ⟨Int.tdiv n.x (g3 n),Int.tdiv n.y (g3 n),Int.tdiv n.z (g3 n)⟩ a=dot ⟨Int.tdiv n.x (g3 n),Int.tdiv n.y (g3 n),Int.tdiv n.z (g3 n)⟩ a:=by
      unfold r7;simp only[Wa0,xb1];obtain⟨⟨a1,a2⟩,⟨a3,a4⟩,a5,a6⟩:=(la9 a).1 ha;have r1:=mb q1.1 q1.2 a1 a2;have r2:=mb q2.1 q2.2 a3 a4;have r3:=mb q3.1 q3.2 a5 a6;rw[aa4 (by omega) (by omega)]
      rfl
     simp only[gp,pp,hdot,Qic,if_true,h0,if_false,show g3 n>0 from by omega,decide_true]
     rfl
theorem nb5(a b c:V3):H7 a b c=I0 a b c:=by unfold H7;rw[jc4];rfl
theorem Ob7(a b c:V3):ba4 a b c=true:=by unfold ba4;rw[jc4];rfl
theorem Xb2{α:Type}{c:Cod α}{k k':α->DT (c7×List c8)}(h:∀a r,(k a).run=some r->(k' a).run=some r){args:List c7}{blks:List c8}{r:c7×List c8}(hr:(K2 c k args blks).run=some r):(K2 c k' args blks).run=some r:=by
 unfold K2 at hr ⊢
 split at hr
 ·rename_i x;cases hd:c.dec x with
  |none=>rw[hd] at hr;cases hr
  |some a =>
   rw[hd] at hr;obtain⟨h1,h2⟩:=DT.run_guard_some (show (DT.guard (c.grd x) (k a)).run=some r from hr)
   show (DT.guard (c.grd x) (k' a)).run=some r;rw[h1];exact h a r h2
 ·cases hr
set_option maxRecDepth 100000
noncomputable def GI:Nat->List Value:=λg=>match g with | 0=>[.int .i64 1,.int .i64 0,.int .i64 0,.int .i64 0,.int .i64 1,.int .i64 0,.int .i64 0,.int .i64 0,.int .i64 1] | _=>[]
noncomputable def EnI(l:List (Nat×Sum)):Env:={ En l with G:=GI }
theorem re6{l:List (Nat×Sum)}(h:j5 prog GI l):∀f,g8 (EnI l).P (EnI l).G f ((EnI l).call f):=Wc4 h
theorem bdI{l:List (Nat×Sum)}{f:FuncId}{R:Env->Sum}(b:wd2 prog f R)(h:j5 prog GI l):g8 prog GI f (R (EnI l)):=b rfl (re6 h)
theorem ma1{f:FuncId}{S:Sum}(h:g8 prog G f S):g8 prog GI f S:=λa c d e q W ρ F w a' h1 h2 h3 _ =>
 h a c d e q W ρ F w a' h1 h2 h3 λg k x hx=>by simp[G] at hx
theorem nd0{α β:Type}{c:Cod α}{d:Cod β}{k k':α->β->DT (c7×List c8)}(h:∀a a' r,(k a a').run=some r->(k' a a').run=some r){args:List c7}{blks:List c8}{r:c7×List c8}(hr:(Y2 c d k args blks).run=some r):(Y2 c d k' args blks).run=some r:=by
 unfold Y2 at hr ⊢
 split at hr
 ·rename_i x y;cases hd:c.dec x with
  |none=>rw[hd] at hr;cases hr
  |some a =>
   cases hd':d.dec y with
   |none=>rw[hd,hd'] at hr;cases hr
   |some a' =>
    rw[hd,hd'] at hr;obtain⟨h1,hr⟩:=DT.run_guard_some (show (DT.guard (c.grd x) (DT.guard (d.grd y) (k a a'))).run=some r from hr)
    obtain⟨h2,hr⟩:=DT.run_guard_some hr;show (DT.guard (c.grd x) (DT.guard (d.grd y) (k' a a'))).run=some r;rw[h1,h2];exact h a a' r hr
 ·cases hr
def smE(n:Int):Bool:=decide (-1000000000000000000<=n)&&decide (n<=1000000000000000000)
theorem ea6{n:Int}(h:smE n=true):Sm 1000000000000000000 n:=by
 simp only[smE,Qia,decide_eq_true_eq] at h;exact h
theorem xd7{n:Int}(h:Sm 1000000000000000000 n):smE n=true:=by
 simp only[smE,Qia,decide_eq_true_eq];exact h
theorem nb6{n:Int}(h:Sm 1000000000000000000 n):(if W (0-n)>n then W (0-n) else n)=(n.natAbs:Int):=jc3 h
theorem ra2{n:Int}(h:Sm 1000000000000000000 n):n.natAbs<=1000000000000000000:=by obtain⟨h1,h2⟩:=h;omega
def A5(x y:Int):Int:=(Nat.gcd x.natAbs y.natAbs:Nat)
def B9(x y:Int):Bool:=decide (0<=x)&&(decide (0<=y)&&decide (y<=1000000000000000000))
noncomputable def yb9:Sum:=Y2 cI cI (λx y=>.guard (B9 x y) (.ret ((one r1I).enc (A5 x y),[])))
theorem Jc7(g n:Nat)(hn:n<=1000000000000000000):lp (Y7 ⟨⟩) ⟨(g:Int),(n:Int)⟩=(1,⟨(Nat.gcd g n:Nat),0⟩):=by
 have:=ab0 (step:=Y7 ⟨⟩) (mk:=λg n=>(⟨g,n⟩:O9)) (λg n h=>by
  have h0:n≠0:=by omega
  simp[Y7,da3,Ta4,h,h0]) (λg=>by simp[Y7,da3,Ta4]) (g:Int) (n:Int) (by omega) (by omega) (by omega)
 rw[this,Zc1]
theorem nd1{x y:Int}(h:B9 x y=true):ua5 x y=some (i (A5 x y),[]):=by
 simp only[B9,Qia,decide_eq_true_eq] at h;obtain⟨h1,h2,h3⟩:=h;obtain⟨g,rfl⟩:=Qim h1;obtain⟨n,rfl⟩:=Qim h2;unfold ua5 A5;simp only[Jc7 g n (by omega)]
 rfl
theorem pc5:g8 prog G 92 yb9:=λargs blks r out he=>Bc5 args blks r out (nd0 (λx y r hr=>by
 obtain⟨h1,hr⟩:=DT.run_guard_some hr;have e:=nd1 h1;rw[show eb4 x y=true by unfold eb4;rw[e];rfl,show eb3 x y=A5 x y by unfold eb3;rw[e];rfl]
 exact hr) he)
def ka2(v:V3):V3×Int:=if g3 v=0 then (⟨0,0,0⟩,0) else (⟨W (Int.tdiv v.x (g3 v)),W (Int.tdiv v.y (g3 v)),W (Int.tdiv v.z (g3 v))⟩,g3 v)
def ua6(v:V3):Bool:=smE v.x&&(smE v.y&&smE v.z)
noncomputable def Jb2:Sum:=K2 (w9 tV) (λx=>.guard (ua6 x) (.ret ((two r1V r1I).enc (ka2 x),[])))
theorem Cc4:g8 prog G 41 Jb2:=λargs blks r out he=>Ib1 args blks r out (Xb2 (λx r hr=>by
 obtain⟨h1,hr⟩:=DT.run_guard_some hr;simp only[ua6,Qia] at h1;have e:=md9 (ea6 h1.1) (ea6 h1.2.1) (ea6 h1.2.2);have eg:qa6 x=true:=by unfold qa6;rw[e];split<;>rfl
 have ep:ca5 x=ka2 x:=by unfold ca5 ka2;rw[e];split<;>rfl
 rw[eg,ep];exact hr) he)
def Ca6(p:Pln):Bool:=okp p
noncomputable def zb0:Sum:=K2 (w9 tP) (λx=>.ret ((one r1B).enc (Ca6 x),[]))
theorem pc6:g8 prog G 40 zb0:=λargs blks r out he=>wb4 args blks r out (Xb2 (λx r hr=>by
 rw[Dd4,Dd3];exact hr) he)
def ab8(v:V3):Bool:=inV v
noncomputable def jc5:Sum:=K2 (w9 tV) (λx=>.ret ((one r1B).enc (ab8 x),[]))
theorem Zc7:g8 prog G 30 jc5:=λargs blks r out he=>Za5 args blks r out (Xb2 (λx r hr=>by
 rw[(yb7 x).1,(yb7 x).2];exact hr) he)
def gM(x:M3)(y:Int):Nat:=Nat.gcd (Nat.gcd (Nat.gcd (Nat.gcd (Nat.gcd (Nat.gcd (Nat.gcd (Nat.gcd (Nat.gcd y.natAbs x.r0.x.natAbs) x.r0.y.natAbs) x.r0.z.natAbs) x.r1.x.natAbs) x.r1.y.natAbs) x.r1.z.natAbs) x.r2.x.natAbs) x.r2.y.natAbs) x.r2.z.natAbs
def B5(x:M3)(y:Int):M3×Int:=(⟨⟨W (Int.tdiv x.r0.x (gM x y)),W (Int.tdiv x.r0.y (gM x y)),W (Int.tdiv x.r0.z (gM x y))⟩,⟨W (Int.tdiv x.r1.x (gM x y)),W (Int.tdiv x.r1.y (gM x y)),W (Int.tdiv x.r1.z (gM x y))⟩,⟨W (Int.tdiv x.r2.x (gM x y)),W (Int.tdiv x.r2.y (gM x y)),W (Int.tdiv x.r2.z (gM x y))⟩⟩,W (Int.tdiv y (gM x y)))
def smV(v:V3):Bool:=smE v.x&&(smE v.y&&smE v.z)
def O1(x:M3)(y:Int):Bool:=decide (1<=y)&&(smE y&&(smV x.r0&&(smV x.r1&&smV x.r2)))
noncomputable def ia0:Sum:=Y2 (w9 tN) cI (λx y=>.guard (O1 x y) (.ret ((two r1N r1I).enc (B5 x y),[])))
theorem W7(P:k8)(g n:Nat)(hn:n<=1000000000000000000):lp (j7 P) ⟨(g:Int),(n:Int)⟩=(1,⟨(Nat.gcd g n:Nat),0⟩):=by
 have:=ab0 (step:=j7 P) (mk:=λg n=>(⟨g,n⟩:i6)) (λg n h=>by
  have h0:n≠0:=by omega
  simp[j7,J6,Ta4,h,h0]) (λg=>by simp[j7,J6,Ta4]) (g:Int) (n:Int) (by omega) (by omega) (by omega)
 rw[this,Zc1]
theorem xd8{x:M3}{y:Int}(h:O1 x y=true):la2 x y=B5 x y/\la3 x y=true:=by
 simp only[O1,smV,Qia,decide_eq_true_eq] at h;obtain⟨h1,h2,⟨a1,a2,a3⟩,⟨a4,a5,a6⟩,a7,a8,a9⟩:=h;obtain⟨n,rfl⟩:=Qim (show 0<=y by omega)
 have hg:0<gM x n:=by
  unfold gM;simp only[Nat.gcd_assoc];exact Nat.gcd_pos_of_pos_left _ (by omega)
 have e:P4 x n=some (.tup [.agg (tN.row (B5 x n).1),i (B5 x n).2],[]):=by
  unfold P4 B5;simp only[nb6 (ea6 a1),nb6 (ea6 a2),nb6 (ea6 a3),nb6 (ea6 a4),nb6 (ea6 a5),nb6 (ea6 a6),nb6 (ea6 a7),nb6 (ea6 a8),nb6 (ea6 a9),
   W7 _ _ _ (ra2 (ea6 a1)),W7 _ _ _ (ra2 (ea6 a2)),W7 _ _ _ (ra2 (ea6 a3)),W7 _ _ _ (ra2 (ea6 a4)),W7 _ _ _ (ra2 (ea6 a5)),W7 _ _ _ (ra2 (ea6 a6)),W7 _ _ _ (ra2 (ea6 a7)),W7 _ _ _ (ra2 (ea6 a8)),W7 _ _ _ (ra2 (ea6 a9))]
  rw[show Nat.gcd (Nat.gcd (Nat.gcd (Nat.gcd (Nat.gcd (Nat.gcd (Nat.gcd (Nat.gcd (Nat.gcd n x.r0.x.natAbs) x.r0.y.natAbs) x.r0.z.natAbs) x.r1.x.natAbs) x.r1.y.natAbs) x.r1.z.natAbs) x.r2.x.natAbs) x.r2.y.natAbs) x.r2.z.natAbs=gM x n from rfl]
  simp only[show (((gM x n:Nat):Int)==0)=false by rw[beq_eq_false_iff_ne];omega,Qiw,r5,sa9]
  rfl
 exact⟨by unfold la2;rw[e];rfl,by unfold la3;rw[e];rfl⟩
theorem jb7:g8 prog G 48 ia0:=λargs blks r out he=>nb4 args blks r out (nd0 (λx y r hr=>by
 obtain⟨h1,hr⟩:=DT.run_guard_some hr;obtain⟨e1,e2⟩:=xd8 h1;rw[e1,e2];exact hr) he)
noncomputable def Zc8:List (Nat×Sum):=[]
theorem Jc8:j5 prog G Zc8:=trivial
noncomputable def zb1(x:Trn):Option (c7×List c8):=(sl (decide (x.m.r0.x<(W (0-x.d)))) (some (b false,[])) (sl (decide (x.m.r0.x>x.d)) (some (b false,[])) (sl (decide (x.m.r0.y<(W (0-x.d)))) (some (b false,[])) (sl (decide (x.m.r0.y>x.d)) (some (b false,[])) (sl (decide (x.m.r0.z<(W (0-x.d)))) (some (b false,[])) (sl (decide (x.m.r0.z>x.d)) (some (b false,[])) (sl (decide (x.m.r1.x<(W (0-x.d)))) (some (b false,[])) (sl (decide (x.m.r1.x>x.d)) (some (b false,[])) (sl (decide (x.m.r1.y<(W (0-x.d)))) (some (b false,[])) (sl (decide (x.m.r1.y>x.d)) (some (b false,[])) (sl (decide (x.m.r1.z<(W (0-x.d)))) (some (b false,[])) (sl (decide (x.m.r1.z>x.d)) (some (b false,[])) (sl (decide (x.m.r2.x<(W (0-x.d)))) (some (b false,[])) (sl (decide (x.m.r2.x>x.d)) (some (b false,[])) (sl (decide (x.m.r2.y<(W (0-x.d)))) (some (b false,[])) (sl (decide (x.m.r2.y>x.d)) (some (b false,[])) (sl (decide (x.m.r2.z<(W (0-x.d)))) (some (b false,[])) (sl (decide (x.m.r2.z>x.d)) (some (b false,[])) (some (b true,[]))))))))))))))))))))
noncomputable def jc6(x:Trn):Bool:=J0 (one r1B) (zb1 x)
noncomputable def jc7(x:Trn):Bool:=okO (one r1B) (zb1 x)
noncomputable def jc8:Sum:=K2 (w9 tT) (λx=>.guard (jc7 x) (.ret ((one r1B).enc (jc6 x),[])))
theorem Zc9:g8 prog G 89 jc8:=ta0 (bd b89 Jc8) (one r1B) (o:=zb1) λx=>n9 (by kernel_rfl)
noncomputable def Jc9:List (Nat×Sum):=[(91,Xa0),(92,yb9)]
theorem Cc5:j5 prog G Jc9:=⟨qb9,pc5,trivial⟩
noncomputable def nb7(x:Trn):Option (c7×List c8):=let t1:=(w4 x.d);let t2:=(w4 x.m.r0.x);let t3:=(A5 t1 t2);let t4:=(w4 x.m.r0.y);let t5:=(A5 t3 t4);let t6:=(w4 x.m.r0.z);let t7:=(A5 t5 t6);let t8:=(w4 x.m.r1.x);let t9:=(A5 t7 t8);let t10:=(w4 x.m.r1.y);let t11:=(A5 t9 t10);let t12:=(w4 x.m.r1.z);let t13:=(A5 t11 t12);let t14:=(w4 x.m.r2.x);let t15:=(A5 t13 t14);let t16:=(w4 x.m.r2.y);let t17:=(A5 t15 t16);let t18:=(w4 x.m.r2.z);let t19:=(A5 t17 t18);(sl (B9 t1 t2) (sl (B9 t3 t4) (sl (B9 t5 t6) (sl (B9 t7 t8) (sl (B9 t9 t10) (sl (B9 t11 t12) (sl (B9 t13 t14) (sl (B9 t15 t16) (sl (B9 t17 t18) (some (i t19,[])) none) none) none) none) none) none) none) none) none)
noncomputable def nb8(x:Trn):Int:=J0 (one r1I) (nb7 x)
noncomputable def nb9(x:Trn):Bool:=okO (one r1I) (nb7 x)
noncomputable def ob0:Sum:=K2 (w9 tT) (λx=>.guard (nb9 x) (.ret ((one r1I).enc (nb8 x),[])))
theorem Jb3:g8 prog G 62 ob0:=ta0 (bd b62 Cc5) (one r1I) (o:=nb7) λx=>n9 (by kernel_rfl)
noncomputable def ad1:List (Nat×Sum):=[(89,jc8),(60,Ra7),(55,Za0),(62,ob0),(56,Ra9)]
theorem Kc0:j5 prog G ad1:=⟨Zc9,Ua0,mb0,Jb3,Wa9,trivial⟩
noncomputable def zb2(x:Trn):Option (c7×List c8):=let t1:=(jc6 x);let t2:=(p4 x.m.r0 x.m.r0);let t3:=(p4 x.m.r0 x.m.r1);let t4:=(p4 x.m.r0 x.m.r2);let t5:=(p4 x.m.r1 x.m.r0);let t6:=(p4 x.m.r1 x.m.r1);let t7:=(p4 x.m.r1 x.m.r2);let t8:=(p4 x.m.r2 x.m.r0);let t9:=(p4 x.m.r2 x.m.r1);let t10:=(p4 x.m.r2 x.m.r2);let t11:=(xa6 x.m.r0 x.m.r1);let t12:=(p4 t11 x.m.r2);let t13:=(nb8 x);(sl (decide (x.d<1)) (some (b false,[])) (sl (decide (x.d>25)) (some (b false,[])) (sl (jc7 x) (sl (!t1) (some (b false,[])) (sl (t2 != (W (x.d*x.d))) (some (b false,[])) (sl (t3 != 0) (some (b false,[])) (sl (t4 != 0) (some (b false,[])) (sl (t5 != 0) (some (b false,[])) (sl (t6 != (W (x.d*x.d))) (some (b false,[])) (sl (t7 != 0) (some (b false,[])) (sl (t8 != 0) (some (b false,[])) (sl (t9 != 0) (some (b false,[])) (sl (t10 != (W (x.d*x.d))) (some (b false,[])) (sl (t12==(W ((W (x.d*x.d))*x.d))) (sl (nb9 x) (some (b (t13==1),[])) none) (some (b false,[]))))))))))))) none)))
noncomputable def jc9(x:Trn):Bool:=J0 (one r1B) (zb2 x)
noncomputable def kc0(x:Trn):Bool:=okO (one r1B) (zb2 x)
noncomputable def zb3:Sum:=K2 (w9 tT) (λx=>.guard (kc0 x) (.ret ((one r1B).enc (jc9 x),[])))
theorem Xb3:g8 prog G 57 zb3:=ta0 (bd b57 Kc0) (one r1B) (o:=zb2) λx=>n9 (by kernel_rfl)
noncomputable def Kc1:List (Nat×Sum):=[(91,Xa0)]
theorem Cc6:j5 prog G Kc1:=⟨qb9,trivial⟩
noncomputable def ob1(x:V3):Option (c7×List c8):=let t1:=(w4 x.x);let t2:=(w4 x.y);let t3:=(w4 x.z);(sl (decide (t1<=96)) (sl (decide (t2<=96)) (sl (decide (t3<=96)) (sl (decide (x.x>=(-96))) (sl (decide (x.y>=(-96))) (some (b (decide (x.z>=(-96))),[])) (some (b false,[]))) (some (b false,[]))) (some (b false,[]))) (some (b false,[]))) (some (b false,[])))
noncomputable def Xb4(x:V3):Bool:=J0 (one r1B) (ob1 x)
noncomputable def Xb5(x:V3):Bool:=okO (one r1B) (ob1 x)
noncomputable def Xb6:Sum:=K2 (w9 tV) (λx=>.guard (Xb5 x) (.ret ((one r1B).enc (Xb4 x),[])))
theorem Kc2:g8 prog G 90 Xb6:=ta0 (bd b90 Cc6) (one r1B) (o:=ob1) λx=>n9 (by kernel_rfl)
noncomputable def ad2:List (Nat×Sum):=[(57,zb3),(90,Xb6)]
theorem Kc3:j5 prog G ad2:=⟨Xb3,Kc2,trivial⟩
noncomputable def zb4(x:Frm):Option (c7×List c8):=let t1:=(jc9 x.t);let t2:=(Xb4 x.s);(sl (kc0 x.t) (sl t1 (sl (Xb5 x.s) (some (b t2,[])) none) (some (b false,[]))) none)
noncomputable def ab9(x:Frm):Bool:=J0 (one r1B) (zb4 x)
noncomputable def bb0(x:Frm):Bool:=okO (one r1B) (zb4 x)
noncomputable def kc1:Sum:=K2 (w9 tF) (λx=>.guard (bb0 x) (.ret ((one r1B).enc (ab9 x),[])))
theorem ad3:g8 prog G 59 kc1:=ta0 (bd b59 Kc3) (one r1B) (o:=zb4) λx=>n9 (by kernel_rfl)
noncomputable def ad4:List (Nat×Sum):=[(60,Ra7),(56,Ra9)]
theorem Kc4:j5 prog G ad4:=⟨Ua0,Wa9,trivial⟩
noncomputable def kc2(x:M3)(y:V3):V3:=let t1:=(p4 x.r0 y);let t2:=(p4 x.r1 y);let t3:=(p4 x.r2 y);(⟨t1,t2,t3⟩:V3)
noncomputable def kc3:Sum:=Y2 (w9 tN) (w9 tV) (λx y=>.ret ((one r1V).enc (kc2 x y),[]))
theorem ad5:g8 prog G 64 kc3:=qa0 (bd b64 Kc4) λx y=>n9 (by kernel_rfl)
noncomputable def Cc7:List (Nat×Sum):=[]
theorem pc7:j5 prog G Cc7:=trivial
noncomputable def eb6(x:V3)(y:Int):Option (c7×List c8):=(sl (y==0) none (sl ((Int.tmod x.x y) != 0) (some (.tup [.agg [i 0,i 0,i 0],b false],[])) (sl (y==0) none (sl ((Int.tmod x.y y) != 0) (some (.tup [.agg [i 0,i 0,i 0],b false],[])) (sl (y==0) none (sl ((Int.tmod x.z y) != 0) (some (.tup [.agg [i 0,i 0,i 0],b false],[])) (sl (y==0) none (sl (y==0) none (sl (y==0) none (some (.tup [.agg [i (W (Int.tdiv x.x y)),i (W (Int.tdiv x.y y)),i (W (Int.tdiv x.z y))],b true],[])))))))))))
noncomputable def Jb4(x:V3)(y:Int):V3×Bool:=J0 (two r1V r1B) (eb6 x y)
noncomputable def Jb5(x:V3)(y:Int):Bool:=okO (two r1V r1B) (eb6 x y)
noncomputable def Jb6:Sum:=Y2 (w9 tV) cI (λx y=>.guard (Jb5 x y) (.ret ((two r1V r1B).enc (Jb4 x y),[])))
theorem Cc8:g8 prog G 63 Jb6:=Xa3 (bd b63 pc7) (two r1V r1B) (o:=eb6) λx y=>n9 (by kernel_rfl)
noncomputable def ad6:List (Nat×Sum):=[(59,kc1),(60,Ra7),(62,ob0),(64,kc3),(63,Jb6),(65,Pc9),(56,Ra9),(61,Wb5)]
theorem Kc5:j5 prog G ad6:=⟨ad3,Ua0,Jb3,ad5,Cc8,wd4,Wa9,Jc4,trivial⟩
noncomputable def zb5(x:Frm)(y:Frm):Option (c7×List c8):=let t1:=(ab9 x);let t2:=(ab9 y);let t3:=(p4 y.t.m.r0 (⟨x.t.m.r0.x,x.t.m.r1.x,x.t.m.r2.x⟩:V3));let t4:=(p4 y.t.m.r0 (⟨x.t.m.r0.y,x.t.m.r1.y,x.t.m.r2.y⟩:V3));let t5:=(p4 y.t.m.r0 (⟨x.t.m.r0.z,x.t.m.r1.z,x.t.m.r2.z⟩:V3));let t6:=(p4 y.t.m.r1 (⟨x.t.m.r0.x,x.t.m.r1.x,x.t.m.r2.x⟩:V3));let t7:=(p4 y.t.m.r1 (⟨x.t.m.r0.y,x.t.m.r1.y,x.t.m.r2.y⟩:V3));let t8:=(p4 y.t.m.r1 (⟨x.t.m.r0.z,x.t.m.r1.z,x.t.m.r2.z⟩:V3));let t9:=(p4 y.t.m.r2 (⟨x.t.m.r0.x,x.t.m.r1.x,x.t.m.r2.x⟩:V3));let t10:=(p4 y.t.m.r2 (⟨x.t.m.r0.y,x.t.m.r1.y,x.t.m.r2.y⟩:V3));let t11:=(p4 y.t.m.r2 (⟨x.t.m.r0.z,x.t.m.r1.z,x.t.m.r2.z⟩:V3));let t12:=(nb8 (⟨(⟨(⟨t3,t4,t5⟩:V3),(⟨t6,t7,t8⟩:V3),(⟨t9,t10,t11⟩:V3)⟩:M3),W (x.t.d*y.t.d)⟩:Trn));let t13:=(kc2 y.t.m x.s);let t14:=(Jb4 t13 y.t.d);let t15:=(Pc8 t14.1 y.s);let t16:=(ab9 (⟨(⟨(⟨(⟨W (Int.tdiv t3 t12),W (Int.tdiv t4 t12),W (Int.tdiv t5 t12)⟩:V3),(⟨W (Int.tdiv t6 t12),W (Int.tdiv t7 t12),W (Int.tdiv t8 t12)⟩:V3),(⟨W (Int.tdiv t9 t12),W (Int.tdiv t10 t12),W (Int.tdiv t11 t12)⟩:V3)⟩:M3),W (Int.tdiv (W (x.t.d*y.t.d)) t12)⟩:Trn),t15⟩:Frm));(sl (bb0 x) (sl (!t1) (some (.tup [.agg [i 0,i 0,i 0,i 0,i 0,i 0,i 0,i 0,i 0,i 0,i 0,i 0,i 0],b false],[])) (sl (bb0 y) (sl (!t2) (some (.tup [.agg [i 0,i 0,i 0,i 0,i 0,i 0,i 0,i 0,i 0,i 0,i 0,i 0,i 0],b false],[])) (sl (nb9 (⟨(⟨(⟨t3,t4,t5⟩:V3),(⟨t6,t7,t8⟩:V3),(⟨t9,t10,t11⟩:V3)⟩:M3),W (x.t.d*y.t.d)⟩:Trn)) (sl (t12==0) none (sl (t12==0) none (sl (t12==0) none (sl (t12==0) none (sl (t12==0) none (sl (t12==0) none (sl (t12==0) none (sl (t12==0) none (sl (t12==0) none (sl (t12==0) none (sl (Jb5 t13 y.t.d) (sl (!t14.2) (some (.tup [.agg [i 0,i 0,i 0,i 0,i 0,i 0,i 0,i 0,i 0,i 0,i 0,i 0,i 0],b false],[])) (sl (bb0 (⟨(⟨(⟨(⟨W (Int.tdiv t3 t12),W (Int.tdiv t4 t12),W (Int.tdiv t5 t12)⟩:V3),(⟨W (Int.tdiv t6 t12),W (Int.tdiv t7 t12),W (Int.tdiv t8 t12)⟩:V3),(⟨W (Int.tdiv t9 t12),W (Int.tdiv t10 t12),W (Int.tdiv t11 t12)⟩:V3)⟩:M3),W (Int.tdiv (W (x.t.d*y.t.d)) t12)⟩:Trn),t15⟩:Frm)) (sl (!t16) (some (.tup [.agg [i 0,i 0,i 0,i 0,i 0,i 0,i 0,i 0,i 0,i 0,i 0,i 0,i 0],b false],[])) (some (.tup [.agg [i (W (Int.tdiv t3 t12)),i (W (Int.tdiv t4 t12)),i (W (Int.tdiv t5 t12)),i (W (Int.tdiv t6 t12)),i (W (Int.tdiv t7 t12)),i (W (Int.tdiv t8 t12)),i (W (Int.tdiv t9 t12)),i (W (Int.tdiv t10 t12)),i (W (Int.tdiv t11 t12)),i (W (Int.tdiv (W (x.t.d*y.t.d)) t12)),i t15.x,i t15.y,i t15.z],b true],[]))) none)) none))))))))))) none)) none)) none)
noncomputable def zb6(x:Frm)(y:Frm):Frm×Bool:=J0 (two r1F r1B) (zb5 x y)
noncomputable def zb7(x:Frm)(y:Frm):Bool:=okO (two r1F r1B) (zb5 x y)
noncomputable def kc4:Sum:=Y2 (w9 tF) (w9 tF) (λx y=>.guard (zb7 x y) (.ret ((two r1F r1B).enc (zb6 x y),[])))
theorem ad7:g8 prog G 26 kc4:=Xa3 (bd b26 Kc5) (two r1F r1B) (o:=zb5) λx y=>n9 (by kernel_rfl)
noncomputable def Cc9:List (Nat×Sum):=[]
theorem pc8:j5 prog G Cc9:=trivial
noncomputable def eb7(x:Int):Option (c7×List c8):=(sl (x==0) (some (.agg [i 3,i (-4),i 0,i 4,i 3,i 0,i 0,i 0,i 5,i 5],[])) (sl (x==1) (some (.agg [i 1,i (-2),i 2,i 2,i (-1),i (-2),i 2,i 2,i 1,i 3],[])) (sl (x==2) (some (.agg [i 2,i 3,i 6,i 3,i (-6),i 2,i 6,i 2,i (-3),i 7],[])) (some (.agg [i 1,i 0,i 0,i 0,i 1,i 0,i 0,i 0,i 1,i 1],[])))))
noncomputable def Ja2(x:Int):Trn:=J0 (one r1T) (eb7 x)
noncomputable def eb8(x:Int):Bool:=okO (one r1T) (eb7 x)
noncomputable def Jb7:Sum:=K2 cI (λx=>.guard (eb8 x) (.ret ((one r1T).enc (Ja2 x),[])))
theorem Dc0:g8 prog G 24 Jb7:=ta0 (bd b24 pc8) (one r1T) (o:=eb7) λx=>n9 (by kernel_rfl)
noncomputable def xd9:List (Nat×Sum):=[(56,Ra9),(55,Za0),(57,zb3),(56,Ra9)]
theorem nd2:j5 prog G xd9:=⟨Wa9,mb0,Xb3,Wa9,trivial⟩
noncomputable def gc0  : Option (c7×List c8):=(some (.sl 0 0 24 0,[⟨27,10,[[i (-1),i 0,i 0,i 0,i (-1),i 0,i 0,i 0,i 1,i 1],[i (-1),i 0,i 0,i 0,i 0,i (-1),i 0,i (-1),i 0,i 1],[i (-1),i 0,i 0,i 0,i 0,i 1,i 0,i 1,i 0,i 1],[i (-1),i 0,i 0,i 0,i 1,i 0,i 0,i 0,i (-1),i 1],[i 0,i (-1),i 0,i (-1),i 0,i 0,i 0,i 0,i (-1),i 1],[i 0,i (-1),i 0,i 0,i 0,i (-1),i 1,i 0,i 0,i 1],[i 0,i (-1),i 0,i 0,i 0,i 1,i (-1),i 0,i 0,i 1],[i 0,i (-1),i 0,i 1,i 0,i 0,i 0,i 0,i 1,i 1],[i 0,i 0,i (-1),i (-1),i 0,i 0,i 0,i 1,i 0,i 1],[i 0,i 0,i (-1),i 0,i (-1),i 0,i (-1),i 0,i 0,i 1],[i 0,i 0,i (-1),i 0,i 1,i 0,i 1,i 0,i 0,i 1],[i 0,i 0,i (-1),i 1,i 0,i 0,i 0,i (-1),i 0,i 1],[i 0,i 0,i 1,i (-1),i 0,i 0,i 0,i (-1),i 0,i 1],[i 0,i 0,i 1,i 0,i (-1),i 0,i 1,i 0,i 0,i 1],[i 0,i 0,i 1,i 0,i 1,i 0,i (-1),i 0,i 0,i 1],[i 0,i 0,i 1,i 1,i 0,i 0,i 0,i 1,i 0,i 1],[i 0,i 1,i 0,i (-1),i 0,i 0,i 0,i 0,i 1,i 1],[i 0,i 1,i 0,i 0,i 0,i (-1),i (-1),i 0,i 0,i 1],[i 0,i 1,i 0,i 0,i 0,i 1,i 1,i 0,i 0,i 1],[i 0,i 1,i 0,i 1,i 0,i 0,i 0,i 0,i (-1),i 1],[i 1,i 0,i 0,i 0,i (-1),i 0,i 0,i 0,i (-1),i 1],[i 1,i 0,i 0,i 0,i 0,i (-1),i 0,i 1,i 0,i 1],[i 1,i 0,i 0,i 0,i 0,i 1,i 0,i (-1),i 0,i 1],[i 1,i 0,i 0,i 0,i 1,i 0,i 0,i 0,i 1,i 1]],true,false,0⟩]))
noncomputable def jb8  : List Trn:=J0 (one (r1L tT)) gc0
noncomputable def gc1  : Bool:=okO (one (r1L tT)) gc0
noncomputable def Rc1:Sum:=Wc5  (.guard gc1 (.ret ((one (r1L tT)).enc jb8,[])))
theorem yd0:g8 prog G 23 Rc1:=oe0 (bd b23 nd2) (one (r1L tT)) (o:=gc0) (n9 (by kernel_rfl))
noncomputable def nd3:List (Nat×Sum):=[(9,xa8),(10,ga7),(53,ta1)]
theorem ad8:j5 prog G nd3:=⟨Oa8,qa3,Aa1,trivial⟩
noncomputable def Ob8  : Option (c7×List c8):=(some (.sl 0 0 24 0,[⟨27,10,[[i (-1),i 0,i 0,i 0,i (-1),i 0,i 0,i 0,i 1,i 1],[i (-1),i 0,i 0,i 0,i 0,i (-1),i 0,i (-1),i 0,i 1],[i (-1),i 0,i 0,i 0,i 0,i 1,i 0,i 1,i 0,i 1],[i (-1),i 0,i 0,i 0,i 1,i 0,i 0,i 0,i (-1),i 1],[i 0,i (-1),i 0,i (-1),i 0,i 0,i 0,i 0,i (-1),i 1],[i 0,i (-1),i 0,i 0,i 0,i (-1),i 1,i 0,i 0,i 1],[i 0,i (-1),i 0,i 0,i 0,i 1,i (-1),i 0,i 0,i 1],[i 0,i (-1),i 0,i 1,i 0,i 0,i 0,i 0,i 1,i 1],[i 0,i 0,i (-1),i (-1),i 0,i 0,i 0,i 1,i 0,i 1],[i 0,i 0,i (-1),i 0,i (-1),i 0,i (-1),i 0,i 0,i 1],[i 0,i 0,i (-1),i 0,i 1,i 0,i 1,i 0,i 0,i 1],[i 0,i 0,i (-1),i 1,i 0,i 0,i 0,i (-1),i 0,i 1],[i 0,i 0,i 1,i (-1),i 0,i 0,i 0,i (-1),i 0,i 1],[i 0,i 0,i 1,i 0,i (-1),i 0,i 1,i 0,i 0,i 1],[i 0,i 0,i 1,i 0,i 1,i 0,i (-1),i 0,i 0,i 1],[i 0,i 0,i 1,i 1,i 0,i 0,i 0,i 1,i 0,i 1],[i 0,i 1,i 0,i (-1),i 0,i 0,i 0,i 0,i 1,i 1],[i 0,i 1,i 0,i 0,i 0,i (-1),i (-1),i 0,i 0,i 1],[i 0,i 1,i 0,i 0,i 0,i 1,i 1,i 0,i 0,i 1],[i 0,i 1,i 0,i 1,i 0,i 0,i 0,i 0,i (-1),i 1],[i 1,i 0,i 0,i 0,i (-1),i 0,i 0,i 0,i (-1),i 1],[i 1,i 0,i 0,i 0,i 0,i (-1),i 0,i 1,i 0,i 1],[i 1,i 0,i 0,i 0,i 0,i 1,i 0,i (-1),i 0,i 1],[i 1,i 0,i 0,i 0,i 1,i 0,i 0,i 0,i 1,i 1]],true,false,0⟩]))
noncomputable def Dc1  : List Trn:=J0 (one (r1L tT)) Ob8
noncomputable def Ob9  : Bool:=okO (one (r1L tT)) Ob8
noncomputable def Dc2:Sum:=Wc5  (.guard Ob9 (.ret ((one (r1L tT)).enc Dc1,[])))
theorem nd4:g8 prog G 18 Dc2:=oe0 (bd b18 ad8) (one (r1L tT)) (o:=Ob8) (n9 (by kernel_rfl))
noncomputable def Kc6:List (Nat×Sum):=[(23,Rc1),(25,va5),(24,Jb7),(26,kc4),(27,Qc2)]
theorem Dc3:j5 prog G Kc6:=⟨yd0,Ga0,Dc0,ad7,wd9,trivial⟩
noncomputable def Ca7(x:List Int):Option (c7×List c8):=let t1:=jb8;let t2:=(o0 ⟨8,rt tI x,0⟩);let t3:=(Ja2 t2.is0);let t4:=(o0 ⟨24,rt tI (rt tI x),t2.d8⟩);let t5:=(zb6 (⟨t3,(⟨0,0,0⟩:V3)⟩:Frm) (⟨gL tT t1 t4.is0.toNat,(⟨0,0,0⟩:V3)⟩:Frm));let t6:=(Db8 ⟨4,rt tI (rt tI (rt tI x)),t4.d8⟩);(sl gc1 (sl ((cnE tI x)&&true) (sl (Nat.beq t2.alt 1) (sl (eb8 t2.is0) (sl ((cnE tI (rt tI x))&&true) (sl (Nat.beq t4.alt 1) (sl (inB t4.is0 (List.length t1)) (sl (zb7 (⟨t3,(⟨0,0,0⟩:V3)⟩:Frm) (⟨gL tT t1 t4.is0.toNat,(⟨0,0,0⟩:V3)⟩:Frm)) (sl ((cnE tI (rt tI (rt tI x)))&&true) (sl (Nat.beq t6.alt 1) (some (.agg [i t5.1.t.m.r0.x,i t5.1.t.m.r0.y,i t5.1.t.m.r0.z,i t5.1.t.m.r1.x,i t5.1.t.m.r1.y,i t5.1.t.m.r1.z,i t5.1.t.m.r2.x,i t5.1.t.m.r2.y,i t5.1.t.m.r2.z,i t5.1.t.d,i t6.Oa0,i t6.Oa1,i t6.Oa2],[])) none) none) none) none) none) none) none) none) none) none)
noncomputable def Qa7(x:List Int):Frm:=J0 (one r1F) (Ca7 x)
noncomputable def ob2(x:List Int):Bool:=okO (one r1F) (Ca7 x)
noncomputable def Xb7:Sum:=K2 (La8 tI) (λx=>.guard (ob2 x) (.ret ((one r1F).enc (Qa7 x),[])))
theorem Kc7:g8 prog G 5 Xb7:=ta0 (bd b5 Dc3) (one r1F) (o:=Ca7) λx=>n9 (by kernel_rfl)
noncomputable def ad9:List (Nat×Sum):=[]
theorem Kc8:j5 prog G ad9:=trivial
noncomputable def q9(x:Int)(y:Int)(z:Int):V3:=(⟨x,y,z⟩:V3)
noncomputable def zb8:Sum:=Sb5 cI cI cI (λx y z=>.ret ((one r1V).enc (q9 x y z),[]))
theorem bd0:g8 prog G 7 zb8:=Wc6 (bd b7 Kc8) λx y z=>n9 (by kernel_rfl)
noncomputable def Dc4:List (Nat×Sum):=[]
theorem pc9:j5 prog G Dc4:=trivial
noncomputable def ka3(x:M3)(y:Int)(z:V3):Frm:=(⟨(⟨x,y⟩:Trn),z⟩:Frm)
noncomputable def Jb8:Sum:=Sb5 (w9 tN) cI (w9 tV) (λx y z=>.ret ((one r1F).enc (ka3 x y z),[]))
theorem Dc5:g8 prog G 16 Jb8:=Wc6 (bd b16 pc9) λx y z=>n9 (by kernel_rfl)
end Go.Ev.Ce
