/- Own work. -/
import Derived.Test.YtkfaiccnekeklaaEvOaDN
set_option linter.all false
def Qia:=@List.mem_cons
def Qib:=@List.mem_cons_of_mem
def Qic:=@Int.mul_eq_zero
def Qid:=@List.mem_cons_self
def Qie:=@Int.le_of_lt
def Qif:=@Bool.and_eq_true
def Qig:=@Int.mul_nonneg
def Qih:=@List.mem_map
def Qii:=@Nat.gcd_dvd_right
def Qij:=@List.all_eq_true
def Qik:=@Nat.gcd_dvd_left
def Qil:=@Int.natCast_dvd_natCast
def Qim:=@Nat.dvd_trans
def Qin:=@Bool.and_true
def Qio:=@Classical.byContradiction
def Qip:=@Int.mul_pos
def Qiq:=@List.any_eq_true
def Qir:=@List.pairwise_cons
def Qis:=@Int.mul_le_mul_of_nonneg_right
def Qit:=@Int.mul_le_mul_of_nonneg_left
def Qiu:=@Int.dvd_natAbs
def Qiv:=@Int.zero_mul
def Qiw:=@Int.mul_tdiv_cancel'
def Qix:=@Bool.and_self
def Qiy:=@Nat.gcd_pos_of_pos_right
def Qiz:=@Bool.not_eq_true'
def Qiaa:=@List.not_mem_nil
def Qiab:=@List.mem_append_left
def Qiac:=@Int.nonneg_of_mul_nonneg_right
def Qiad:=@List.mem_iff_getElem
def Qiae:=@Eq.trans
def Qiaf:=@Bool.false_eq_true
def Qiag:=@Nat.lt_or_gt_of_ne
def Qiah:=@List.getD_eq_getElem?_getD
def Qiai:=@Int.eq_of_mul_eq_mul_left
def Qiaj:=@Int.mul_zero
def Qiak:=@Int.neg_mul
namespace Go.Ev.Ce
open Go Go.Ev Go.Ev.L Go.Proofs
set_option maxRecDepth 100000
structure qa2 where
 (V9 W0 W4 Sd9 e8 e7 g8:Int)
noncomputable def Lb4:List (Nat×Sum):=[(6,ca6)]
theorem Eb3:n8 prog G Lb4:=⟨da1,trivial⟩
structure qa3 where
 bs0:Bool
noncomputable def X6{α:Type}(kk:qa3->α)(x:qa2):α:=let t1:=(p9 (⟨x.e8,x.e7,x.g8⟩:V3) (⟨x.V9,x.W0,x.W4⟩:V3));(kk ⟨t1 != 0⟩)
noncomputable def Da8(x:qa2):qa3:=X6 (λr=>r) x
noncomputable def ya5(x:qa2)(r:qa3):DT (a7×List c7):=.ret (b r.bs0,[⟨0,3,[[i x.e8,i x.e7,i x.g8]],true,false,0⟩])
theorem Tb9{α β:Type}(F:α->β)(kk:qa3->α)(x:qa2):F (X6 kk x)=X6 (λr=>F (kk r)) x:=by unfold X6;(repeat' apply w8 (f:=F))<;>rfl
noncomputable def eb4:Sum:=Va3 ⟨[.agg (kLq 4),sPq 0],[⟨0,3,true,some [kLq 3]⟩],λa H=>(⟨cIq a 0 0,cIq a 0 1,cIq a 0 2,cIq a 0 3,hIq H 0 0 0,hIq H 0 0 1,hIq H 0 0 2⟩,())⟩ (λx=>ya5 x (Da8 x))
theorem Lb5:g9 prog G 39 eb4:=S4 (enc:=λx=>⟨[.agg [i x.V9,i x.W0,i x.W4,i x.Sd9],.ptr 0 0 0 0],[⟨0,3,[[i x.e8,i x.e7,i x.g8]],true,false,0⟩]⟩) (λa H=>by kernel_rfl) (bd b39 Eb3) λx=>F8 (Qiae (b:=X6 (λr=>(ya5 x r).run) x) (by kernel_rfl) (Tb9 (λr=>(ya5 x r).run) (λr=>r) x).symm)
structure L6 where
 V2:List Pln
 (e8 e7 g8:Int)
noncomputable def ja3:List (Nat×Sum):=[(39,eb4)]
theorem Ha1:n8 prog G ja3:=⟨Lb5,trivial⟩
structure A5 where
 V2:List Pln
 (is7 e8 e7 g8:Int)
structure j8 where
 is8:Int
noncomputable def ea9(p:A5)(s:j8):St:=⟨eL tP p.V2::.fn 39 [.ptr 0 0 0 0]::ra 5 (i p.is7::i s.is8::ra 10 []),[⟨0,3,[[i p.e8,i p.e7,i p.g8]],true,false,0⟩]⟩
noncomputable def y6{α:Type}(k:j8->α)(e:Nat->α)(z:α)(p:A5)(s:j8):α:=let t1:=(Da8 ⟨(gL tP p.V2 s.is8.toNat).n.x,(gL tP p.V2 s.is8.toNat).n.y,(gL tP p.V2 s.is8.toNat).n.z,(gL tP p.V2 s.is8.toNat).b,p.e8,p.e7,p.g8⟩);(sl (decide (s.is8<p.is7)) (sl (inB s.is8 (List.length p.V2)) (sl t1.bs0 (e 1) (k ⟨W (s.is8+1)⟩)) z) (e 2))
noncomputable def z6(p:A5)(s:j8):Stp j8:=y6 .next .exit .fail p s
noncomputable def T0:Lo A5 j8:=⟨En ja3,1,fe5,[1,0,1,4,4],[0,1,7,8],.p,[⟨sLq tP::.fn 39 [.o (.ptr 0 0 0 0)]::ru2 5 (sIq::sIq::ru2 10 []),[⟨0,3,true,some [kLq 3]⟩],λa H=>(⟨aLq tP a 0,aIq a 7,hIq H 0 0 0,hIq H 0 0 1,hIq H 0 0 2⟩,⟨aIq a 8⟩)⟩],z6,[(none,λp s=>⟨[i s.is8],[⟨0,3,[[i p.e8,i p.e7,i p.g8]],true,false,0⟩]⟩),(some 0,λp s=>upq (ea9 p s) [(9,b (decide (s.is8<p.is7)))])],ea9⟩
theorem Da9:T0.Ok:=Lo.ok [] (by kernel_rfl) .nil rfl (.cons (λa H=>by kernel_rfl) .nil) λp s=>(.of @y6 (λF _ _ _ _ _=>by unfold y6;(repeat' apply w8 (f:=F))<;>rfl) (by kernel_rfl))
structure L7 where
 alt:Nat
 is0:Int
noncomputable def y8{α:Type}(kk:L7->α)(x:L6):α:=let t1:=(lp (z6 (⟨rt tP x.V2,(↑(List.length x.V2):Int),x.e8,x.e7,x.g8⟩:A5)) (⟨0⟩:j8));(sl ((cnE tP x.V2)&&true) (sl (Nat.beq t1.1 1) (kk ⟨1,t1.2.is8⟩) (sl (Nat.beq t1.1 2) (kk ⟨1,-1⟩) (kk ⟨0,0⟩))) (kk ⟨0,0⟩))
noncomputable def L8(x:L6):L7:=y8 (λr=>r) x
noncomputable def V1(x:L6)(r:L7):DT (a7×List c7):=(.ite (Nat.beq r.alt 1) (.ret (i r.is0,[⟨0,3,[[i x.e8,i x.e7,i x.g8]],true,false,0⟩])) .fail)
theorem Oa5{α β:Type}(F:α->β)(kk:L7->α)(x:L6):F (y8 kk x)=y8 (λr=>F (kk r)) x:=by unfold y8;(repeat' apply w8 (f:=F))<;>rfl
noncomputable def na0:Sum:=Va3 ⟨[sLq tP,.fn 39 [.o (.ptr 0 0 0 0)]],[⟨0,3,true,some [kLq 3]⟩],λa H=>(⟨aLq tP a 0,hIq H 0 0 0,hIq H 0 0 1,hIq H 0 0 2⟩,())⟩ (λx=>V1 x (L8 x))
theorem Ma8:g9 prog G 56 na0:=S4 (enc:=λx=>⟨[eL tP x.V2,.fn 39 [.ptr 0 0 0 0]],[⟨0,3,[[i x.e8,i x.e7,i x.g8]],true,false,0⟩]⟩) (λa H=>by kernel_rfl) (bd b56 Ha1) λx=>qb5 (.s .p (.s (.s .p (.b (.u T0.ls))) .p)) [T0.pr] (by kernel_rfl) (.cons Da9 .nil) (Qiae (b:=y8 (λr=>(V1 x r).run) x) (by kernel_rfl) (Oa5 (λr=>(V1 x r).run) (λr=>r) x).symm)
structure H4 where
 V2:List Pln
 (e8 e7 g8:Int)
noncomputable def Ba7:List (Nat×Sum):=[(56,na0)]
theorem ya6:n8 prog G Ba7:=⟨Ma8,trivial⟩
structure H5 where
 alt:Nat
 bs0:Bool
noncomputable def r5{α:Type}(kk:H5->α)(x:H4):α:=let t1:=(L8 ⟨rt tP x.V2,x.e8,x.e7,x.g8⟩);(sl ((cnE tP x.V2)&&true) (sl (Nat.beq t1.alt 1) (kk ⟨1,decide (t1.is0>=0)⟩) (kk ⟨0,false⟩)) (kk ⟨0,false⟩))
noncomputable def H6(x:H4):H5:=r5 (λr=>r) x
noncomputable def O4(x:H4)(r:H5):DT (a7×List c7):=(.ite (Nat.beq r.alt 1) (.ret (b r.bs0,[⟨0,3,[[i x.e8,i x.e7,i x.g8]],true,false,0⟩])) .fail)
theorem Ea0{α β:Type}(F:α->β)(kk:H5->α)(x:H4):F (r5 kk x)=r5 (λr=>F (kk r)) x:=by unfold r5;(repeat' apply w8 (f:=F))<;>rfl
noncomputable def fa0:Sum:=Va3 ⟨[sLq tP,.fn 39 [.o (.ptr 0 0 0 0)]],[⟨0,3,true,some [kLq 3]⟩],λa H=>(⟨aLq tP a 0,hIq H 0 0 0,hIq H 0 0 1,hIq H 0 0 2⟩,())⟩ (λx=>O4 x (H6 x))
theorem Ba8:g9 prog G 38 fa0:=S4 (enc:=λx=>⟨[eL tP x.V2,.fn 39 [.ptr 0 0 0 0]],[⟨0,3,[[i x.e8,i x.e7,i x.g8]],true,false,0⟩]⟩) (λa H=>by kernel_rfl) (bd b38 ya6) λx=>F8 (Qiae (b:=r5 (λr=>(O4 x r).run) x) (by kernel_rfl) (Ea0 (λr=>(O4 x r).run) (λr=>r) x).symm)
noncomputable def Ma9:List (Nat×Sum):=[(7,Z4),(38,fa0)]
theorem Ub0:n8 prog G Ma9:=⟨ba4,Ba8,trivial⟩
structure fa1 where
 (V2 mb6:List Pln)
 (is9 w7:Int)
 je2:Nat
 od0:Nat->List a7
 (ce4 e8 e7 g8 o3:Int)
structure L4 where
 mc3:Int
noncomputable def Xa5(p:fa1)(s:L4):St:=⟨eL tP p.V2::ra 3 (.ptr 0 0 0 0::ra 3 (eL tP p.mb6::i p.is9::i p.w7::ra 6 (.tree 4 p.je2 p.od0::i p.ce4::i s.mc3::ra 18 []))),[⟨0,4,[[i p.e8,i p.e7,i p.g8,i p.o3]],true,false,0⟩]⟩
noncomputable def Y4{α:Type}(k:L4->α)(e:Nat->α)(z:α)(p:fa1)(s:L4):α:=let t1:=(q8 (⟨p.e8,p.e7,p.g8⟩:V3) (⟨toI (hdA (p.od0 s.mc3.toNat)),toI (hdA (tlA (p.od0 s.mc3.toNat))),toI (hdA (tlA (tlA (p.od0 s.mc3.toNat))))⟩:V3));let t2:=(H6 ⟨rt tP p.V2,t1.x,t1.y,t1.z⟩);(sl (decide (s.mc3<p.ce4)) (sl (inB s.mc3 p.je2) (sl ((Nat.ble 4 (len (p.od0 s.mc3.toNat)))&&(Ea9 [CK.int .i64,CK.int .i64,CK.int .i64,CK.int .i64] (p.od0 s.mc3.toNat))) (sl (!((t1.x==0)&&((t1.y==0)&&((t1.z==0)&&true)))) (sl ((cnE tP p.V2)&&true) (sl (Nat.beq t2.alt 1) (sl t2.bs0 (e 1) (k ⟨W (s.mc3+1)⟩)) z) z) (k ⟨W (s.mc3+1)⟩)) z) z) (e 2))
noncomputable def T9(p:fa1)(s:L4):Stp L4:=Y4 .next .exit .fail p s
noncomputable def Ea1:Lo fa1 L4:=⟨En Ma9,0,Wd7,[1,0,1,4,4,1,1,0,4,1,1,4,4],[0,4,8,9,10,17,18,19],.p,[⟨sLq tP::ru2 3 (sPq 0::ru2 3 (sLq tP::sIq::sIq::ru2 6 (sTq 4::sIq::sIq::ru2 18 []))),[⟨0,4,true,some [kLq 4]⟩],λa H=>(⟨aLq tP a 0,aLq tP a 8,aIq a 9,aIq a 10,aNq a 17,aGq a 17,aIq a 18,hIq H 0 0 0,hIq H 0 0 1,hIq H 0 0 2,hIq H 0 0 3⟩,⟨aIq a 19⟩)⟩],T9,[(none,λp s=>⟨[b true],[]⟩),(some 2,λp s=>upq (Xa5 p s) [(20,b (decide (s.mc3<p.ce4)))])],Xa5⟩
theorem Lb6:Ea1.Ok:=Lo.ok [] (by kernel_rfl) .nil rfl (.cons (λa H=>by kernel_rfl) .nil) λp s=>(.of @Y4 (λF _ _ _ _ _=>by unfold Y4;(repeat' apply w8 (f:=F))<;>rfl) (by kernel_rfl))
structure fa2 where
 is9:Int
structure L5 where
 (V2 mb6:List Pln)
 w7:Int
noncomputable def Xa6(p:fa2)(s:L5):St:=⟨eL tP s.V2::ra 7 (eL tP s.mb6::i p.is9::i s.w7::ra 27 []),[]⟩
noncomputable def Y5{α:Type}(k:L5->α)(e:Nat->α)(z:α)(p:fa2)(s:L5):α:=let t1:=(lp (T9 (⟨rt tP s.V2,rt tP s.mb6,p.is9,s.w7,s.w7.toNat-0,(λk=>(λk=>(tP).row (gL tP s.V2 k)) (0+k)),(↑(s.w7.toNat-0):Int),(gL tP s.mb6 s.w7.toNat).n.x,(gL tP s.mb6 s.w7.toNat).n.y,(gL tP s.mb6 s.w7.toNat).n.z,(gL tP s.mb6 s.w7.toNat).b⟩:fa1)) (⟨0⟩:L4));(sl (decide (s.w7<p.is9)) (sl (inB s.w7 (List.length s.mb6)) (sl (inB s.w7 ((List.length s.V2)+1)) (sl ((cnE tP s.V2)&&((cnE tP s.mb6)&&true)) (sl (Nat.beq t1.1 1) (e 1) (sl (Nat.beq t1.1 2) (k ⟨rt tP s.V2,rt tP s.mb6,W (s.w7+1)⟩) z)) z) z) z) (e 2))
noncomputable def U0(p:fa2)(s:L5):Stp L5:=Y5 .next .exit .fail p s
noncomputable def Ea2:Lo fa2 L5:=⟨En Ma9,0,Wd7,[1,0,1,4,4],[0,8,9,10],.s .p (.s .p (.s (.b (.s .p (.s .p (.b (.u Ea1.ls))))) .p)),[⟨sLq tP::ru2 7 (sLq tP::sIq::sIq::ru2 27 []),[],λa H=>(⟨aIq a 9⟩,⟨aLq tP a 0,aLq tP a 8,aIq a 10⟩)⟩],U0,[(none,λp s=>⟨[b true],[]⟩),(some 0,λp s=>upq (Xa6 p s) [(11,b (decide (s.w7<p.is9)))])],Xa6⟩
theorem Lb7:Ea2.Ok:=Lo.ok [Ea1.pr] (by kernel_rfl) (.cons Lb6 .nil) rfl (.cons (λa H=>by kernel_rfl) .nil) λp s=>(.of @Y5 (λF _ _ _ _ _=>by unfold Y5;(repeat' apply w8 (f:=F))<;>rfl) (by kernel_rfl))
noncomputable def oa7(x:List Pln):Option (a7×List c7):=let t1:=(lp (U0 (⟨(↑(List.length x):Int)⟩:fa2)) (⟨rt tP x,rt tP x,0⟩:L5));(sl ((cnE tP x)&&((cnE tP x)&&true)) (sl (Nat.beq t1.1 1) (some (b true,[])) (sl (Nat.beq t1.1 2) (some (b false,[])) none)) none)
noncomputable def ga2(x:List Pln):Bool:=T8 (one r1B) (oa7 x)
noncomputable def ga3(x:List Pln):Bool:=okO (one r1B) (oa7 x)
noncomputable def sb7:Sum:=O8 (Ba4 tP) (λx=>.guard (ga3 x) (.ret ((one r1B).enc (ga2 x),[])))
theorem hc6:g9 prog G 26 sb7:=Sa0 (bd b26 Ub0) (one r1B) (o:=oa7) λx=>qb5 (.s .p (.s (.s .p (.b (.u Ea2.ls))) .p)) [Ea2.pr] (by kernel_rfl) (.cons Lb7 .nil) (by kernel_rfl)
structure la9 where
 (V9 W0 W4:Int)
 F6:List Pln
noncomputable def Qa5:List (Nat×Sum):=[(20,ua6),(26,sb7)]
theorem xb7:n8 prog G Qa5:=⟨Aa0,hc6,trivial⟩
structure C5 where
 Fa2:List Pln
 is8:Int
 F6:List Pln
 (H8 H9 I0:Int)
structure j5 where
 ph:Nat
 is9:Int
 ns4:Nat
 eh2:List (List a7)
noncomputable def Ba9(p:C5)(s:j5):St:=⟨.unk::.unk::.ptr 1 0 0 0::.unk::.v (.slice none 0 0)::.unk::.unk::eL tP p.Fa2::i p.is8::i s.is9::ra 15 [],[⟨0,1,[[eL tP p.F6]],true,false,0⟩,⟨0,3,[[i p.H8,i p.H9,i p.I0]],true,false,0⟩]⟩
noncomputable def Ca0(p:C5)(s:j5):St:=⟨.unk::.unk::.ptr 1 0 0 0::.unk::.sl 2 0 s.ns4 0::.unk::.unk::eL tP p.Fa2::i p.is8::i s.is9::ra 15 [],[⟨0,1,[[eL tP p.F6]],true,false,0⟩,⟨0,3,[[i p.H8,i p.H9,i p.I0]],true,false,0⟩,⟨50,4,s.eh2,true,false,0⟩]⟩
noncomputable def qb8(p:C5)(s:j5):St:=(sel (Nat.beq s.ph 1) (Ca0 p s) (Ba9 p s))
noncomputable def C6{α:Type}(k:j5->α)(e:Nat->α)(z:α)(p:C5)(s:j5):α:=let t1:=(J2 (gL tP p.Fa2 s.is9.toNat) (⟨p.H8,p.H9,p.I0⟩:V3));(sl (decide (s.is9<p.is8)) (sl (inB s.is9 (List.length p.Fa2)) (sl (S6 (gL tP p.Fa2 s.is9.toNat) (⟨p.H8,p.H9,p.I0⟩:V3)) (sl (t1==0) (k ⟨1,W (s.is9+1),1,[[i (gL tP p.Fa2 s.is9.toNat).n.x,i (gL tP p.Fa2 s.is9.toNat).n.y,i (gL tP p.Fa2 s.is9.toNat).n.z,i (gL tP p.Fa2 s.is9.toNat).b]]⟩) (k ⟨0,W (s.is9+1),0,[]⟩)) z) z) (e 1))
noncomputable def C7{α:Type}(k:j5->α)(e:Nat->α)(z:α)(p:C5)(s:j5):α:=let t1:=(J2 (gL tP p.Fa2 s.is9.toNat) (⟨p.H8,p.H9,p.I0⟩:V3));(sl (decide (s.is9<p.is8)) (sl (inB s.is9 (List.length p.Fa2)) (sl (S6 (gL tP p.Fa2 s.is9.toNat) (⟨p.H8,p.H9,p.I0⟩:V3)) (sl (t1==0) (sl (Nat.beq s.ns4 (len s.eh2)&&Nat.ble ((s.ns4+1)*32) room) (k ⟨1,W (s.is9+1),s.ns4+1,app s.eh2 [[i (gL tP p.Fa2 s.is9.toNat).n.x,i (gL tP p.Fa2 s.is9.toNat).n.y,i (gL tP p.Fa2 s.is9.toNat).n.z,i (gL tP p.Fa2 s.is9.toNat).b]]⟩) z) (k ⟨1,W (s.is9+1),s.ns4,s.eh2⟩)) z) z) (e 2))
noncomputable def aa3(p:C5)(s:j5):Stp j5:=(sel (Nat.beq s.ph 1) (C7 .next .exit .fail p s) (C6 .next .exit .fail p s))
noncomputable def ra4:Lo C5 j5:=⟨En Qa5,1,fe0,[1,1,0,1,4,4],[2,4,7,8,9],.p,[⟨sUq::sUq::sPq 1::sUq::.s (.o .nil)::sUq::sUq::sLq tP::sIq::sIq::ru2 15 [],[⟨0,1,true,some [[.c 4 (nL tP)]]⟩,⟨0,3,true,some [kLq 3]⟩],λa H=>(⟨aLq tP a 7,aIq a 8,hLq tP H 0 0 0,hIq H 1 0 0,hIq H 1 0 1,hIq H 1 0 2⟩,⟨0,aIq a 9,0,[]⟩)⟩,⟨sUq::sUq::sPq 1::sUq::.s (.o (.sl 2 0 (some 0) none))::sUq::sUq::sLq tP::sIq::sIq::ru2 15 [],[⟨0,1,true,some [[.c 4 (nL tP)]]⟩,⟨0,3,true,some [kLq 3]⟩,⟨50,4,true,none⟩],λa H=>(⟨aLq tP a 7,aIq a 8,hLq tP H 0 0 0,hIq H 1 0 0,hIq H 1 0 1,hIq H 1 0 2⟩,⟨1,aIq a 9,slN (slT a 4),elT H 2⟩)⟩],aa3,[(some 0,λp s=>upq (Ba9 p s) [(10,b (decide (s.is9<p.is8)))]),(some 0,λp s=>upq (Ca0 p s) [(10,b (decide (s.is9<p.is8)))])],qb8⟩
theorem qb9:ra4.Ok:=Lo.ok [] (by kernel_rfl) .nil rfl (.cons (λa H=>by kernel_rfl) (.cons (λa H=>by kernel_rfl) .nil)) λp s=>(.sel (Nat.beq s.ph 1) (.of @C7 (λF _ _ _ _ _=>by unfold C7;(repeat' apply w8 (f:=F))<;>rfl) (by kernel_rfl)) (.of @C6 (λF _ _ _ _ _=>by unfold C6;(repeat' apply w8 (f:=F))<;>rfl) (by kernel_rfl)))
structure ma0 where
 alt:Nat
 bs0:Bool
 F6:List Pln
noncomputable def U1{α:Type}(kk:ma0->α)(x:la9):α:=let t1:=(lp (aa3 (⟨rt tP x.F6,(↑(List.length x.F6):Int),rt tP x.F6,x.V9,x.W0,x.W4⟩:C5)) (⟨0,0,0,[]⟩:j5));let t2:=(ga2 []);let t3:=(ga2 (slR tP t1.2.eh2 0 t1.2.ns4));(sl ((cnE tP x.F6)&&((cnE tP x.F6)&&true)) (sl (Nat.beq t1.1 1) (sl (ga3 []) (kk ⟨1,!t2,rt tP x.F6⟩) (kk ⟨0,false,[]⟩)) (sl (Nat.beq t1.1 2) (sl (okS tP t1.2.eh2 0 t1.2.ns4) (sl (ga3 (slR tP t1.2.eh2 0 t1.2.ns4)) (kk ⟨1,!t3,rt tP x.F6⟩) (kk ⟨0,false,[]⟩)) (kk ⟨0,false,[]⟩)) (kk ⟨0,false,[]⟩))) (kk ⟨0,false,[]⟩))
noncomputable def N1(x:la9):ma0:=U1 (λr=>r) x
noncomputable def va4(x:la9)(r:ma0):DT (a7×List c7):=(.ite (Nat.beq r.alt 1) (.ret (b r.bs0,[⟨0,1,[[eL tP r.F6]],true,false,0⟩])) .fail)
theorem Lb8{α β:Type}(F:α->β)(kk:ma0->α)(x:la9):F (U1 kk x)=U1 (λr=>F (kk r)) x:=by unfold U1;(repeat' apply w8 (f:=F))<;>rfl
noncomputable def ya7:Sum:=Va3 ⟨[.agg (kLq 3),sPq 0],[⟨0,1,true,some [[.c 4 (nL tP)]]⟩],λa H=>(⟨cIq a 0 0,cIq a 0 1,cIq a 0 2,hLq tP H 0 0 0⟩,())⟩ (λx=>va4 x (N1 x))
theorem Qa6:g9 prog G 25 ya7:=S4 (enc:=λx=>⟨[.agg [i x.V9,i x.W0,i x.W4],.ptr 0 0 0 0],[⟨0,1,[[eL tP x.F6]],true,false,0⟩]⟩) (λa H=>by kernel_rfl) (bd b25 xb7) λx=>qb5 (.s .p (.s .p (.s (.s .p (.b (.u ra4.ls))) .p))) [ra4.pr] (by kernel_rfl) (.cons qb9 .nil) (Qiae (b:=U1 (λr=>(va4 x r).run) x) (by kernel_rfl) (Lb8 (λr=>(va4 x r).run) (λr=>r) x).symm)
structure Q3 where
 ns0:Nat
 eh0:List (List a7)
 q7:List Pln
noncomputable def oa8:List (Nat×Sum):=[(25,ya7)]
theorem Oa6:n8 prog G oa8:=⟨Qa6,trivial⟩
structure E4 where
 ns0:Nat
 is7:Int
 eh0:List (List a7)
structure l7 where
 is8:Int
 q7:List Pln
noncomputable def ja4(p:E4)(s:l7):St:=⟨.sl 0 0 p.ns0 0::.fn 25 [.ptr 1 0 0 0]::ra 5 (i p.is7::i s.is8::ra 10 []),[⟨28,3,p.eh0,true,false,0⟩,⟨0,1,[[eL tP s.q7]],true,false,0⟩]⟩
noncomputable def A6{α:Type}(k:l7->α)(e:Nat->α)(z:α)(p:E4)(s:l7):α:=let t1:=(N1 ⟨(rdR tV p.eh0 (0+s.is8.toNat)).x,(rdR tV p.eh0 (0+s.is8.toNat)).y,(rdR tV p.eh0 (0+s.is8.toNat)).z,rt tP s.q7⟩);(sl (decide (s.is8<p.is7)) (sl (inB s.is8 p.ns0) (sl (ldR tV p.eh0 (0+s.is8.toNat)) (sl ((cnE tP s.q7)&&true) (sl (Nat.beq t1.alt 1) (sl t1.bs0 (e 1) (k ⟨W (s.is8+1),t1.F6⟩)) z) z) z) z) (e 2))
noncomputable def C8(p:E4)(s:l7):Stp l7:=A6 .next .exit .fail p s
noncomputable def W9:Lo E4 l7:=⟨En oa8,2,ud7,[1,0,1,4,4],[0,1,7,8],.p,[⟨.s (.o (.sl 0 0 (some 0) none))::.fn 25 [.o (.ptr 1 0 0 0)]::ru2 5 (sIq::sIq::ru2 10 []),[⟨28,3,true,none⟩,⟨0,1,true,some [[.c 4 (nL tP)]]⟩],λa H=>(⟨slN (slT a 0),aIq a 7,elT H 0⟩,⟨aIq a 8,hLq tP H 1 0 0⟩)⟩],C8,[(none,λp s=>let t1:=(N1 ⟨(rdR tV p.eh0 (0+s.is8.toNat)).x,(rdR tV p.eh0 (0+s.is8.toNat)).y,(rdR tV p.eh0 (0+s.is8.toNat)).z,rt tP s.q7⟩);⟨[i s.is8],[⟨28,3,p.eh0,true,false,0⟩,⟨0,1,[[eL tP t1.F6]],true,false,0⟩]⟩),(some 0,λp s=>upq (ja4 p s) [(9,b (decide (s.is8<p.is7)))])],ja4⟩
theorem Na0:W9.Ok:=Lo.ok [] (by kernel_rfl) .nil rfl (.cons (λa H=>by kernel_rfl) .nil) λp s=>(.of @A6 (λF _ _ _ _ _=>by unfold A6;(repeat' apply w8 (f:=F))<;>rfl) (by kernel_rfl))
structure Q4 where
 alt:Nat
 is0:Int
 q7:List Pln
noncomputable def B5{α:Type}(kk:Q4->α)(x:Q3):α:=let t1:=(lp (C8 (⟨x.ns0,(↑x.ns0:Int),x.eh0⟩:E4)) (⟨0,rt tP x.q7⟩:l7));let t2:=(N1 ⟨(rdR tV x.eh0 (0+t1.2.is8.toNat)).x,(rdR tV x.eh0 (0+t1.2.is8.toNat)).y,(rdR tV x.eh0 (0+t1.2.is8.toNat)).z,rt tP t1.2.q7⟩);(sl ((cnE tP x.q7)&&true) (sl (Nat.beq t1.1 1) (kk ⟨1,t1.2.is8,t2.F6⟩) (sl (Nat.beq t1.1 2) (kk ⟨1,-1,t1.2.q7⟩) (kk ⟨0,0,[]⟩))) (kk ⟨0,0,[]⟩))
noncomputable def Q5(x:Q3):Q4:=B5 (λr=>r) x
noncomputable def Z9(x:Q3)(r:Q4):DT (a7×List c7):=(.ite (Nat.beq r.alt 1) (.ret (i r.is0,[⟨28,3,x.eh0,true,false,0⟩,⟨0,1,[[eL tP r.q7]],true,false,0⟩])) .fail)
theorem Xa7{α β:Type}(F:α->β)(kk:Q4->α)(x:Q3):F (B5 kk x)=B5 (λr=>F (kk r)) x:=by unfold B5;(repeat' apply w8 (f:=F))<;>rfl
noncomputable def sa5:Sum:=Va3 ⟨[.s (.o (.sl 0 0 (some 0) none)),.fn 25 [.o (.ptr 1 0 0 0)]],[⟨28,3,true,none⟩,⟨0,1,true,some [[.c 4 (nL tP)]]⟩],λa H=>(⟨slN (slT a 0),elT H 0,hLq tP H 1 0 0⟩,())⟩ (λx=>Z9 x (Q5 x))
theorem Ta4:g9 prog G 40 sa5:=S4 (enc:=λx=>⟨[.sl 0 0 x.ns0 0,.fn 25 [.ptr 1 0 0 0]],[⟨28,3,x.eh0,true,false,0⟩,⟨0,1,[[eL tP x.q7]],true,false,0⟩]⟩) (λa H=>by kernel_rfl) (bd b40 Oa6) λx=>qb5 (.s .p (.s (.s .p (.b (.u W9.ls))) .p)) [W9.pr] (by kernel_rfl) (.cons Na0 .nil) (Qiae (b:=B5 (λr=>(Z9 x r).run) x) (by kernel_rfl) (Xa7 (λr=>(Z9 x r).run) (λr=>r) x).symm)
structure Q6 where
 ns0:Nat
 eh0:List (List a7)
 q7:List Pln
noncomputable def oa9:List (Nat×Sum):=[(40,sa5),(25,ya7)]
theorem Oa7:n8 prog G oa9:=⟨Ta4,Qa6,trivial⟩
structure E5 where
 ns0:Nat
structure o4 where
 (is5 is6:Int)
 eh0:List (List a7)
 q7:List Pln
noncomputable def ja5(p:E5)(s:o4):St:=⟨.sl 0 0 p.ns0 0::.fn 25 [.ptr 1 0 0 0]::ra 3 (i s.is5::i s.is6::ra 35 []),[⟨28,3,s.eh0,true,false,0⟩,⟨0,1,[[eL tP s.q7]],true,false,0⟩]⟩
noncomputable def A7{α:Type}(k:o4->α)(e:Nat->α)(z:α)(p:E5)(s:o4):α:=let t1:=(N1 ⟨(rdR tV s.eh0 (0+s.is6.toNat)).x,(rdR tV s.eh0 (0+s.is6.toNat)).y,(rdR tV s.eh0 (0+s.is6.toNat)).z,rt tP s.q7⟩);(sl (decide (s.is6<(↑p.ns0:Int))) (sl (inB s.is6 p.ns0) (sl (ldR tV s.eh0 (0+s.is6.toNat)) (sl ((cnE tP s.q7)&&true) (sl (Nat.beq t1.alt 1) (sl (!t1.bs0) (sl (inB s.is5 p.ns0) (sl ((Nat.blt (0+s.is5.toNat) (len s.eh0))&&(Nat.ble (0+3) (len (l9 s.eh0 (0+s.is5.toNat))))) (k ⟨W (s.is5+1),W (s.is6+1),setAt s.eh0 (0+s.is5.toNat) (aa6 (l9 s.eh0 (0+s.is5.toNat)) 0 [i (rdR tV s.eh0 (0+s.is6.toNat)).x,i (rdR tV s.eh0 (0+s.is6.toNat)).y,i (rdR tV s.eh0 (0+s.is6.toNat)).z]),t1.F6⟩) z) z) (k ⟨s.is5,W (s.is6+1),s.eh0,t1.F6⟩)) z) z) z) z) (e 1))
noncomputable def v8(p:E5)(s:o4):Stp o4:=A7 .next .exit .fail p s
noncomputable def X0:Lo E5 o4:=⟨En oa9,2,fe1,[1,1,1,0,1,4,4],[0,1,5,6],.p,[⟨.s (.o (.sl 0 0 (some 0) none))::.fn 25 [.o (.ptr 1 0 0 0)]::ru2 3 (sIq::sIq::ru2 35 []),[⟨28,3,true,none⟩,⟨0,1,true,some [[.c 4 (nL tP)]]⟩],λa H=>(⟨slN (slT a 0)⟩,⟨aIq a 5,aIq a 6,elT H 0,hLq tP H 1 0 0⟩)⟩],v8,[(some 0,λp s=>upq (ja5 p s) [(16,i s.is6),(17,.sl 0 0 p.ns0 0),(18,i (↑p.ns0:Int)),(19,b (decide (s.is6<(↑p.ns0:Int))))])],ja5⟩
theorem Na1:X0.Ok:=Lo.ok [] (by kernel_rfl) .nil rfl (.cons (λa H=>by kernel_rfl) .nil) λp s=>(.of @A7 (λF _ _ _ _ _=>by unfold A7;(repeat' apply w8 (f:=F))<;>rfl) (by kernel_rfl))
structure Q7 where
 (alt ns0:Nat)
 eh0:List (List a7)
 q7:List Pln
noncomputable def B6{α:Type}(kk:Q7->α)(x:Q6):α:=let t1:=(Q5 ⟨x.ns0,x.eh0,rt tP x.q7⟩);let t2:=(lp (v8 (⟨x.ns0⟩:E5)) (⟨t1.is0,W (t1.is0+1),x.eh0,rt tP t1.q7⟩:o4));(sl ((cnE tP x.q7)&&true) (sl (Nat.beq t1.alt 1) (sl (t1.is0==(-1)) (kk ⟨1,x.ns0,x.eh0,t1.q7⟩) (sl ((cnE tP t1.q7)&&true) (sl (Nat.beq t2.1 1) (sl (inB t2.2.is5 (x.ns0+1)) (sl (inB t2.2.is5 (x.ns0+1)) (kk ⟨1,t2.2.is5.toNat-0,app (D2 t2.2.eh0 (0+t2.2.is5.toNat)) (app (List.replicate (x.ns0-t2.2.is5.toNat) [i 0,i 0,i 0]) (i7 t2.2.eh0 ((0+t2.2.is5.toNat)+(x.ns0-t2.2.is5.toNat)))),t2.2.q7⟩) (kk ⟨0,0,[],[]⟩)) (kk ⟨0,0,[],[]⟩)) (kk ⟨0,0,[],[]⟩)) (kk ⟨0,0,[],[]⟩))) (kk ⟨0,0,[],[]⟩)) (kk ⟨0,0,[],[]⟩))
noncomputable def Q8(x:Q6):Q7:=B6 (λr=>r) x
noncomputable def aa0(x:Q6)(r:Q7):DT (a7×List c7):=(.ite (Nat.beq r.alt 1) (.ret (.sl 0 0 r.ns0 0,[⟨28,3,r.eh0,true,false,0⟩,⟨0,1,[[eL tP r.q7]],true,false,0⟩])) .fail)
theorem Xa8{α β:Type}(F:α->β)(kk:Q7->α)(x:Q6):F (B6 kk x)=B6 (λr=>F (kk r)) x:=by unfold B6;(repeat' apply w8 (f:=F))<;>rfl
noncomputable def sa6:Sum:=Va3 ⟨[.s (.o (.sl 0 0 (some 0) none)),.fn 25 [.o (.ptr 1 0 0 0)]],[⟨28,3,true,none⟩,⟨0,1,true,some [[.c 4 (nL tP)]]⟩],λa H=>(⟨slN (slT a 0),elT H 0,hLq tP H 1 0 0⟩,())⟩ (λx=>aa0 x (Q8 x))
theorem Ta5:g9 prog G 27 sa6:=S4 (enc:=λx=>⟨[.sl 0 0 x.ns0 0,.fn 25 [.ptr 1 0 0 0]],[⟨28,3,x.eh0,true,false,0⟩,⟨0,1,[[eL tP x.q7]],true,false,0⟩]⟩) (λa H=>by kernel_rfl) (bd b27 Oa7) λx=>qb5 (.s .p (.s .p (.s .p (.s (.s .p (.b (.u X0.ls))) .p)))) [X0.pr] (by kernel_rfl) (.cons Na1 .nil) (Qiae (b:=B6 (λr=>(aa0 x r).run) x) (by kernel_rfl) (Xa8 (λr=>(aa0 x r).run) (λr=>r) x).symm)
noncomputable def Eb4:List (Nat×Sum):=[(41,ra3),(42,ga8),(44,ja2)]
theorem xb8:n8 prog G Eb4:=⟨Fa0,va3,xa1,trivial⟩
structure ma1 where
 (alt ns0:Nat)
 eh0:List (List a7)
noncomputable def U2{α:Type}(kk:ma1->α)(x:V3×List V3):α:=let t1:=(V0 (hC tV (λk=>(tV).row (gL tV (x.1::x.2) k)),tC tV (List.length x.2) (λk=>(tV).row (gL tV (x.1::x.2) k))));let t2:=(I7 ⟨t1.ns0,app (bL tV (eb2 (slR tV t1.eh0 0 t1.ns0))) (i7 t1.eh0 t1.ns0)⟩);(sl (okL tV (List.length x.2+1) (λk=>(tV).row (gL tV (x.1::x.2) k))) (sl (Nat.beq t1.alt 1) (sl (Bool.and (Nat.ble t1.ns0 room) (Bool.and (Nat.ble t1.ns0 (len t1.eh0)) (okS tV t1.eh0 0 t1.ns0))) (sl (Nat.beq t2.alt 1) (kk ⟨1,t2.ns0,t2.eh0⟩) (kk ⟨0,0,[]⟩)) (kk ⟨0,0,[]⟩)) (kk ⟨0,0,[]⟩)) (kk ⟨0,0,[]⟩))
noncomputable def ma2(x:V3×List V3):ma1:=U2 (λr=>r) x
noncomputable def va5(r:ma1):DT (a7×List c7):=(.ite (Nat.beq r.alt 1) (.ret (.sl 0 0 r.ns0 0,[⟨28,3,r.eh0,true,false,0⟩])) .fail)
theorem Lb9{α β:Type}(F:α->β)(kk:ma1->α)(x:V3×List V3):F (U2 kk x)=U2 (λr=>F (kk r)) x:=by unfold U2;(repeat' apply w8 (f:=F))<;>rfl
noncomputable def ca0:Sum:=O8 (Ic5 tV) (λx=>va5 (ma2 x))
theorem ha4:g9 prog G 28 ca0:=ob0 (bd b28 xb8) λx=>F8 (Qiae (b:=U2 (λr=>(va5 r).run) x) (by kernel_rfl) (Lb9 (λr=>(va5 r).run) (λr=>r) x).symm)
noncomputable def Ub1:List (Nat×Sum):=[(18,Eb2),(28,ca0),(27,sa6)]
theorem Mb0:n8 prog G Ub1:=⟨sb6,ha4,Ta5,trivial⟩
noncomputable def ja6(x:V3×List V3):Option (a7×List c7):=let t1:=(Ga9 (hC tV (λk=>(tV).row (gL tV (x.1::x.2) k)),tC tV (List.length x.2) (λk=>(tV).row (gL tV (x.1::x.2) k))));let t2:=(ma2 (hC tV (λk=>(tV).row (gL tV (x.1::x.2) k)),tC tV (List.length x.2) (λk=>(tV).row (gL tV (x.1::x.2) k))));let t3:=(Q8 ⟨t2.ns0,t2.eh0,rt tP t1.1⟩);(sl (okL tV (List.length x.2+1) (λk=>(tV).row (gL tV (x.1::x.2) k))) (sl (Ha0 (hC tV (λk=>(tV).row (gL tV (x.1::x.2) k)),tC tV (List.length x.2) (λk=>(tV).row (gL tV (x.1::x.2) k)))) (sl (t1.2 != 0) (some (.tup [.v (.slice none 0 0),i t1.2],[])) (sl (okL tV (List.length x.2+1) (λk=>(tV).row (gL tV (x.1::x.2) k))) (sl (Nat.beq t2.alt 1) (sl ((cnE tP t1.1)&&true) (sl (Nat.beq t3.alt 1) (some (.tup [.sl 0 0 t3.ns0 0,i 0],[⟨28,3,t3.eh0,true,false,0⟩])) none) none) none) none)) none) none)
noncomputable def kb7(x:V3×List V3):List V3×Int:=T8 (two (r1L tV) r1I) (ja6 x)
noncomputable def kb8(x:V3×List V3):Bool:=okO (two (r1L tV) r1I) (ja6 x)
noncomputable def hc7:Sum:=O8 (Ic5 tV) (λx=>.guard (kb8 x) (.ret ((two (r1L tV) r1I).enc (kb7 x),[])))
theorem Ub2:g9 prog G 17 hc7:=Sa0 (bd b17 Mb0) (two (r1L tV) r1I) (o:=ja6) λx=>F8 (by kernel_rfl)
end Go.Ev.Ce
namespace Go.Ev.L
open Go Go.Ev
noncomputable def Xd9:Cod Unit where
 enc _:=.v (.slice none 0 0)
 dec x:=match x with
  |.v (.slice none 0 0)=>some ()
  |_=>none
 grd _:=true
 ok x a hx _:=by
  split at hx
  ·exact .refl _
  ·cases hx
noncomputable def cE0:Cod (Addr×Nat) where
 enc z:=.v (.slice (some z.1) 0 z.2)
 dec x:=match x with
  |.v (.slice (some a) 0 c)=>some (a,c)
  |_=>none
 grd _:=true
 ok x a hx _:=by
  split at hx
  ·cases hx;exact .refl _
  ·cases hx
section
variable{α:Type}{t:Ty α}{P:Program}{G:Nat->List Value}{f:FuncId}
theorem pb1{β:Type}{c:Cod β}{k k':β->DT (a7×List c7)}(h:g9 P G f (O8 c k))(hk:∀a r,(k' a).run=some r->(k a).run=some r):g9 P G f (O8 c k'):=h.le λargs blks r hr=>by
 unfold O8 at hr ⊢
 split at hr
 ·obtain⟨a,h1,hr⟩:=E0 hr;obtain⟨g,hr⟩:=DT.run_guard_some hr;simp only[h1,onO,g];exact hk a r hr
 ·cases hr
theorem vd4{k:List α->DT (a7×List c7)}(hA:g9 P G f (O8 (Ic5 t) λz=>k (z.1::z.2)))(hN:g9 P G f (O8 Xd9 λ_=>k []))(hE:g9 P G f (O8 cE0 λ_=>k [])):g9 P G f (O8 (Ba4 t) k):=by
 intro args blks r out he W ρ F w args' hH hlen hargs hG;unfold O8 at he
 split at he
 ·rename_i x;obtain⟨a,h1,he⟩:=E0 he;obtain⟨g1,hk⟩:=DT.run_guard_some he;have nilCase:∀v',args'[0]?=some v'->v'=.slice none 0 0->a=[]->Ja6 P f/\Calls P f args'.toArray w λe w'=>∃r',e=.returned r'/\D9 W ρ [] F w r out r' w':=λv' hv e ha=>by
   subst ha;refine hN [.v (.slice none 0 0)] [] r out ?_ W ρ F w args' hH hlen (λi x' y' hx hy=>?_) hG
   ·exact hk
   ·match i with
    |0=>cases hx;rw[hv] at hy;cases hy;rw[e];exact .val (.cell (.v _))
    |i+1=>cases hx
  have emptyCase:∀v' ad c,args'[0]?=some v'->v'=.slice (some ad) 0 c->a=[]->Ja6 P f/\Calls P f args'.toArray w λe w'=>∃r',e=.returned r'/\D9 W ρ [] F w r out r' w':=λv' ad c hv e ha=>by
   subst ha;refine hE [.v (.slice (some ad) 0 c)] [] r out ?_ W ρ F w args' hH hlen (λi x' y' hx hy=>?_) hG
   ·exact hk
   ·match i with
    |0=>cases hx;rw[hv] at hy;cases hy;rw[e];exact .val (.cell (.v _))
    |i+1=>cases hx
  obtain⟨v',hv⟩:∃v',args'[0]?=some v':=by
   cases args' with
   |nil=>simp at hlen
   |cons v' r'=>exact⟨v',rfl⟩
  cases x with
  |tree e n get =>
   have hb:Nat.beq e t.es=true/\a=lsL t n get:=by
    have h1:(Bool.rec none (some (lsL t n get)) (Nat.beq e t.es):Option (List α))=some a:=h1;cases hb:Nat.beq e t.es with
    |false=>rw[hb] at h1;cases h1
    |true =>
     rw[hb] at h1;have h1:some (lsL t n get)=some a:=h1;injection h1 with h1;exact⟨rfl,h1.symm⟩
   cases n with
   |zero =>
    have ha:a=[]:=hb.2;have hm:=da9 (hargs 0 _ v' rfl hv);cases hm with
    |tree _ _ _ ad cap cs hs hcap hes hF hw hr=>exact emptyCase _ ad cap hv rfl ha
    |nil=>exact nilCase _ hv rfl ha
   |succ m =>
    have ha:a=hC t get::tC t m get:=hb.2.trans (Ic4 t m get);subst ha;refine hA [.tree e (m+1) get] [] r out ?_ W ρ F w args' hH hlen hargs hG;have hc:(Ic5 t).dec (.tree e (m+1) get)=some (hC t get,tC t m get):=by
     show (Bool.rec none (some (hC t get,tC t m get)) (Nat.beq e t.es):Option (α×List α))=_;rw[hb.1]
    have hg:(Ic5 t).grd (.tree e (m+1) get)=true:=g1;simp only[O8,hc,onO,hg];exact hk
  |v q =>
   have hq:=U7 (hargs 0 _ v' rfl hv);unfold Ba4 at h1
   simp only at h1
   split at h1
   ·rename_i heq;cases heq
   ·rename_i heq;injection heq with heq;injection h1 with h1;exact nilCase v' hv (hq.trans heq) h1.symm
   ·rename_i ad c heq;injection heq with heq;injection h1 with h1;exact emptyCase v' _ _ hv (hq.trans heq) h1.symm
   ·cases h1
  |_=>cases h1
 ·cases he
end
end Go.Ev.L
namespace Go.Ev.Ce
open Go Go.Ev Go.Ev.L Go.Proofs
set_option maxRecDepth 100000
noncomputable def hc8:List (Nat×Sum):=[(29,Ga6),(28,ca0),(30,ba8)]
theorem Ub3:n8 prog G hc8:=⟨Ta2,ha4,ea4,trivial⟩
noncomputable def Ta6(x:Unit):Option (a7×List c7):=let t1:=(la7 []);(sl (la8 []) (sl (t1 != 0) (some (.tup [.v (.slice none 0 0),i t1],[])) none) none)
noncomputable def sb8(x:Unit):List Pln×Int:=T8 (two (r1L tP) r1I) (Ta6 x)
noncomputable def sb9(x:Unit):Bool:=okO (two (r1L tP) r1I) (Ta6 x)
noncomputable def tb0:Sum:=O8 Xd9 (λx=>.guard (sb9 x) (.ret ((two (r1L tP) r1I).enc (sb8 x),[])))
theorem kb9:g9 prog G 18 tb0:=Sa0 (bd b18 Ub3) (two (r1L tP) r1I) (o:=Ta6) λx=>tc9 .p [] (by kernel_rfl) .nil (by kernel_rfl)
noncomputable def Mb1:List (Nat×Sum):=[(18,tb0),(28,ca0)]
theorem Eb5:n8 prog G Mb1:=⟨kb9,ha4,trivial⟩
noncomputable def Ea3(x:Unit):Option (a7×List c7):=let t1:=(sb8 ());(sl (sb9 ()) (sl (t1.2 != 0) (some (.tup [.v (.slice none 0 0),i t1.2],[])) none) none)
noncomputable def Ub4(x:Unit):List V3×Int:=T8 (two (r1L tV) r1I) (Ea3 x)
noncomputable def Ub5(x:Unit):Bool:=okO (two (r1L tV) r1I) (Ea3 x)
noncomputable def Ub6:Sum:=O8 Xd9 (λx=>.guard (Ub5 x) (.ret ((two (r1L tV) r1I).enc (Ub4 x),[])))
theorem Mb2:g9 prog G 17 Ub6:=Sa0 (bd b17 Eb5) (two (r1L tV) r1I) (o:=Ea3) λx=>F8 (by kernel_rfl)
noncomputable def hc9:List (Nat×Sum):=[(30,ba8)]
theorem Ub7:n8 prog G hc9:=⟨ea4,trivial⟩
noncomputable def Ta7(x:Addr×Nat):Option (a7×List c7):=none
noncomputable def tb1(x:Addr×Nat):List Pln×Int:=T8 (two (r1L tP) r1I) (Ta7 x)
noncomputable def tb2(x:Addr×Nat):Bool:=okO (two (r1L tP) r1I) (Ta7 x)
noncomputable def tb3:Sum:=O8 cE0 (λx=>.guard (tb2 x) (.ret ((two (r1L tP) r1I).enc (tb1 x),[])))
theorem lb0:g9 prog G 18 tb3:=Sa0 (bd b18 Ub7) (two (r1L tP) r1I) (o:=Ta7) λx=>tc9 .p [] (by kernel_rfl) .nil (by kernel_rfl)
noncomputable def Mb3:List (Nat×Sum):=[(18,tb3),(28,ca0)]
theorem Eb6:n8 prog G Mb3:=⟨lb0,ha4,trivial⟩
noncomputable def Ea4(x:Addr×Nat):Option (a7×List c7):=let t1:=(tb1 x);(sl (tb2 x) (sl (t1.2 != 0) (some (.tup [.v (.slice none 0 0),i t1.2],[])) none) none)
noncomputable def Ub8(x:Addr×Nat):List V3×Int:=T8 (two (r1L tV) r1I) (Ea4 x)
noncomputable def Ub9(x:Addr×Nat):Bool:=okO (two (r1L tV) r1I) (Ea4 x)
noncomputable def Vb0:Sum:=O8 cE0 (λx=>.guard (Ub9 x) (.ret ((two (r1L tV) r1I).enc (Ub8 x),[])))
theorem Mb4:g9 prog G 17 Vb0:=Sa0 (bd b17 Eb6) (two (r1L tV) r1I) (o:=Ea4) λx=>F8 (by kernel_rfl)
noncomputable def ic0:List (Nat×Sum):=[(29,Ga6),(30,ba8)]
theorem Vb1:n8 prog G ic0:=⟨Ta2,ea4,trivial⟩
noncomputable def pa0(x:List V3):Option (a7×List c7):=let t1:=(la7 (rt tV x));(sl (okE tV x) (sl (la8 (rt tV x)) (sl (t1 != 0) (some (.tup [.v (.slice none 0 0),i t1],[])) none) none) none)
noncomputable def Aa5(x:List V3):List Pln×Int:=T8 (two (r1L tP) r1I) (pa0 x)
noncomputable def Aa6(x:List V3):Bool:=okO (two (r1L tP) r1I) (pa0 x)
noncomputable def tb4:Sum:=O8 (Ba4 tV) (λx=>.guard (Aa6 x) (.ret ((two (r1L tP) r1I).enc (Aa5 x),[])))
theorem lb1:g9 prog G 18 tb4:=Sa0 (bd b18 Vb1) (two (r1L tP) r1I) (o:=pa0) λx=>tc9 .p [] (by kernel_rfl) .nil (by kernel_rfl)
noncomputable def Mb5:List (Nat×Sum):=[(18,tb4)]
theorem Eb7:n8 prog G Mb5:=⟨lb1,trivial⟩
noncomputable def fa3(x:List V3):Option (a7×List c7):=let t1:=(Aa5 (rt tV x));(sl (okE tV x) (sl (Aa6 (rt tV x)) (sl (t1.2 != 0) (some (.tup [.v (.slice none 0 0),i t1.2],[])) none) none) none)
noncomputable def Ea5(x:List V3):List V3×Int:=T8 (two (r1L tV) r1I) (fa3 x)
noncomputable def Ea6(x:List V3):Bool:=okO (two (r1L tV) r1I) (fa3 x)
noncomputable def Vb2:Sum:=O8 (Ba4 tV) (λx=>.guard (Ea6 x) (.ret ((two (r1L tV) r1I).enc (Ea5 x),[])))
theorem Mb6:g9 prog G 17 Vb2:=Sa0 (bd b17 Eb7) (two (r1L tV) r1I) (o:=fa3) λx=>F8 (by kernel_rfl)
noncomputable def rm(p:Pln)(x:Pt):Int:=W (p.b*x.pw-(p.n.x*x.px+p.n.y*x.py+p.n.z*x.pz))
structure Bd(p:Pln):Prop where
 x1:-4608<=p.n.x
 x2:p.n.x<=4608
 y1:-4608<=p.n.y
 y2:p.n.y<=4608
 z1:-4608<=p.n.z
 z2:p.n.z<=4608
 b1:-2097152<=p.b
 b2:p.b<=2097152
def mv(p q r:Pln):V3 :=
 ⟨(a8 q.n r.n).x*p.b+(a8 r.n p.n).x*q.b+(a8 p.n q.n).x*r.b,
  (a8 q.n r.n).y*p.b+(a8 r.n p.n).y*q.b+(a8 p.n q.n).y*r.b,
  (a8 q.n r.n).z*p.b+(a8 r.n p.n).z*q.b+(a8 p.n q.n).z*r.b⟩
def gc(v:V3)(w:Int):Int:=(Nat.gcd (Nat.gcd v.x.natAbs v.y.natAbs) (Nat.gcd v.z.natAbs w.natAbs):Nat)
def mpt(p q r:Pln):Pt×Bool :=
 if mw p q r=0 then (⟨0,0,0,0⟩,false)
 else if mw p q r<0 then (⟨Int.tdiv (-(mv p q r).x) (gc (mv p q r) (mw p q r)),Int.tdiv (-(mv p q r).y) (gc (mv p q r) (mw p q r)),Int.tdiv (-(mv p q r).z) (gc (mv p q r) (mw p q r)),Int.tdiv (-(mw p q r)) (gc (mv p q r) (mw p q r))⟩,true)
 else (⟨Int.tdiv (mv p q r).x (gc (mv p q r) (mw p q r)),Int.tdiv (mv p q r).y (gc (mv p q r) (mw p q r)),Int.tdiv (mv p q r).z (gc (mv p q r) (mw p q r)),Int.tdiv (mw p q r) (gc (mv p q r) (mw p q r))⟩,true)
def Sm(n:Int)(x:Int):Prop:=-n<=x/\x<=n
theorem lb2{a b:V3}(ha:Sm 4608 a.x/\Sm 4608 a.y/\Sm 4608 a.z)(hb:Sm 4608 b.x/\Sm 4608 b.y/\Sm 4608 b.z):Sm 42467328 (a8 a b).x/\Sm 42467328 (a8 a b).y/\Sm 42467328 (a8 a b).z:=by
 obtain⟨⟨a1,a2⟩,⟨a3,a4⟩,a5,a6⟩:=ha;obtain⟨⟨b1,b2⟩,⟨b3,b4⟩,b5,b6⟩:=hb;have h1:=mb a3 a4 b5 b6;have h2:=mb a5 a6 b3 b4;have h3:=mb a5 a6 b1 b2;have h4:=mb a1 a2 b5 b6;have h5:=mb a1 a2 b3 b4;have h6:=mb a3 a4 b1 b2;unfold Sm a8
 simp only
 omega
theorem Bd.n{p:Pln}(h:Bd p):Sm 4608 p.n.x/\Sm 4608 p.n.y/\Sm 4608 p.n.z:=⟨⟨h.x1,h.x2⟩,⟨h.y1,h.y2⟩,h.z1,h.z2⟩
theorem ge3{p q r:Pln}(hp:Bd p)(hq:Bd q)(hr:Bd r):Sm 600000000000 (mw p q r):=by
 obtain⟨⟨c1,c2⟩,⟨c3,c4⟩,c5,c6⟩:=lb2 hq.n hr.n;have h1:=mb hp.x1 hp.x2 c1 c2;have h2:=mb hp.y1 hp.y2 c3 c4;have h3:=mb hp.z1 hp.z2 c5 c6;unfold Sm mw dot;omega
theorem ge4{p q r:Pln}(hp:Bd p)(hq:Bd q)(hr:Bd r):Sm 300000000000000 (mv p q r).x/\Sm 300000000000000 (mv p q r).y/\Sm 300000000000000 (mv p q r).z:=by
 obtain⟨⟨c1,c2⟩,⟨c3,c4⟩,c5,c6⟩:=lb2 hq.n hr.n;obtain⟨⟨d1,d2⟩,⟨d3,d4⟩,d5,d6⟩:=lb2 hr.n hp.n;obtain⟨⟨e1,e2⟩,⟨e3,e4⟩,e5,e6⟩:=lb2 hp.n hq.n;have a1:=mb c1 c2 hp.b1 hp.b2;have a2:=mb c3 c4 hp.b1 hp.b2;have a3:=mb c5 c6 hp.b1 hp.b2;have b1:=mb d1 d2 hq.b1 hq.b2;have b2:=mb d3 d4 hq.b1 hq.b2;have b3:=mb d5 d6 hq.b1 hq.b2;have f1:=mb e1 e2 hr.b1 hr.b2;have f2:=mb e3 e4 hr.b1 hr.b2;have f3:=mb e5 e6 hr.b1 hr.b2;unfold Sm mv
 simp only
 omega
theorem Kd6(a b:V3):q8 a b=⟨W (a8 a b).x,W (a8 a b).y,W (a8 a b).z⟩:=by
 unfold q8 a8;simp only[Bc2,Vc6]
theorem Kd7(a b:V3):Pa8 a b=⟨W (a8 a b).x,W (a8 a b).y,W (a8 a b).z⟩:=by
 unfold Pa8 a8;simp only[Bc2,Vc6]
theorem Vc7{v:V3}{w:Int}(h:w≠0):0<gc v w:=by
 unfold gc
 have:0<Nat.gcd v.z.natAbs w.natAbs:=Qiy _ (by omega)
 have:=Qiy (Nat.gcd v.x.natAbs v.y.natAbs) this
 omega
theorem ge5{v:V3}{w:Int}(h:w≠0):gc v w<=w.natAbs:=by
 unfold gc;have h1:Nat.gcd v.z.natAbs w.natAbs<=w.natAbs:=Nat.gcd_le_right _ (by omega)
 have h2:0<Nat.gcd v.z.natAbs w.natAbs:=Qiy _ (by omega)
 have h3:=Nat.gcd_le_right (m:=Nat.gcd v.x.natAbs v.y.natAbs) (n:=Nat.gcd v.z.natAbs w.natAbs) h2;omega
theorem lb3{x:Int}(h:Sm 1000000000000000000 x):W x=x:=na2 (by have:=h.1;omega) (by have:=h.2;omega)
theorem Sm.mono{n m x:Int}(h:Sm n x)(hn:n<=m):Sm m x:=⟨by have:=h.1;omega,by have:=h.2;omega⟩
theorem Y6{n x g:Int}(h:Sm n x)(hg:0<g):Sm n (Int.tdiv x g):=by
 have h1:(Int.tdiv x g).natAbs<=x.natAbs:=by rw[Int.natAbs_tdiv];exact Nat.div_le_self _ _
 have:=h.1;have:=h.2
 constructor<;>omega
theorem Vc8{p q r:Pln}(hp:Bd p)(hq:Bd q)(hr:Bd r)(h:(mpt p q r).2=true):0<(mpt p q r).1.pw/\Sm 300000000000000 (mpt p q r).1.px/\Sm 300000000000000 (mpt p q r).1.py/\Sm 300000000000000 (mpt p q r).1.pz/\(mpt p q r).1.pw<=600000000000:=by
 have hw:=ge3 hp hq hr;obtain⟨v1,v2,v3⟩:=ge4 hp hq hr;have neg:∀{n x:Int},Sm n x->Sm n (-x):=λh=>⟨by have:=h.2;omega,by have:=h.1;omega⟩
 have pos:∀{x:Int},0<x->x.natAbs=(mw p q r).natAbs->0<Int.tdiv x (gc (mv p q r) (mw p q r)):=λ{x} hx he=>by
  have h0:mw p q r≠0:=by omega
  have h1:=Vc7 (v:=mv p q r) h0;have h2:=ge5 (v:=mv p q r) h0;rw[Int.tdiv_eq_ediv_of_nonneg (by omega)]
  exact Int.ediv_pos_of_pos_of_dvd hx (by omega) (by
   rw[<- Qiu,he];exact Qil.2 (Qim (Qii _ _) (Qii _ _)))
 unfold mpt at h ⊢;by_cases h0:mw p q r=0
 ·rw[if_pos h0] at h;cases h
 ·rw[if_neg h0];have hg:=Vc7 (v:=mv p q r) h0;by_cases h1:mw p q r<0
  ·rw[if_pos h1];exact⟨pos (by omega) (by omega),Y6 (neg v1) hg,Y6 (neg v2) hg,Y6 (neg v3) hg,(Y6 (neg hw) hg).2⟩
  ·rw[if_neg h1];exact⟨pos (by omega) rfl,Y6 v1 hg,Y6 v2 hg,Y6 v3 hg,(Y6 hw hg).2⟩
noncomputable def inn(l:List Pln)(x:Pt):Bool:=l.all λp=>!decide (rm p x<0)
def eqX(x q:Pt):Bool:=q.px==x.px&&(q.py==x.py&&(q.pz==x.pz&&(q.pw==x.pw&&true)))
theorem cd0(x q:Pt):eqX x q=true↔q=x:=by
 unfold eqX;simp only[Qin,Qif,beq_iff_eq];exact⟨λ⟨h1,h2,h3,h4⟩=>by cases q;cases x;simp_all,λh=>by subst h;exact⟨rfl,rfl,rfl,rfl⟩⟩
def Kd8(l:List Pt)(x:Pt):Bool:=l.any (eqX x)
theorem vd5(l:List Pt)(x:Pt):Kd8 l x=true↔x∈l:=by
 unfold Kd8;rw[Qiq];exact⟨λ⟨q,h,e⟩=>(cd0 x q).1 e ▸ h,λh=>⟨x,h,(cd0 x x).2 rfl⟩⟩
def smb(n x:Int):Bool:=!decide (x < -n)&&!decide (x>n)
theorem bb4(n x:Int):smb n x=true↔Sm n x:=by unfold smb Sm;simp only[Qif,Qiz,decide_eq_false_iff_not];omega
theorem ic1(n:Int)(l:List Int)(hn:0<=n/\n<=1000000000)(hl:l.length<=1000000000):ia0 n l=some (b (l.all (smb n)),[]):=by
 have hW:W (0-n)=-n:=by rw[na2 (by omega) (by omega)];omega
 have h:=Xd0 (step:=X9 ⟨n,l,(l.length:Int)⟩) (mk:=λj=>(⟨(j:Int)⟩:D4)) (c:=λx=>!smb n x) (u:=1) (fin:=2) tI l hl
  (λj hj=>by
   simp only[X9,U8,Int.toNat_natCast,J0 hj (by omega),hW]
   rw[bt (gc9 hj),bt (k8 hj)];unfold smb;cases decide (gL tI l j < -n)<;>cases decide (gL tI l j>n)<;>rfl)
  (by simp only[X9,U8];rw[bf (Db9 (Nat.lt_irrefl _))]) 0 (Nat.zero_le _)
 rw[List.drop_zero] at h;unfold ia0;simp only[s8,p8];rw[show (⟨0⟩:D4)=⟨((0:Nat):Int)⟩ from rfl,h]
 have e:(l.any λx=>!smb n x)=!l.all (smb n):=by rw[List.not_all_eq_any_not]
 rw[e];cases l.all (smb n)<;>rfl
theorem Mb7(n:Int)(l:List Int)(hn:0<=n/\n<=1000000000)(hl:l.length<=1000000000):ba6 n l=l.all (smb n):=by unfold ba6;rw[ic1 n l hn hl];rfl
theorem Mb8(n:Int)(l:List Int)(hn:0<=n/\n<=1000000000)(hl:l.length<=1000000000):ba7 n l=true:=by unfold ba7;rw[ic1 n l hn hl];rfl
theorem Lc8{n:Int}(h:Sm 1000000000000000000 n):la0 n=(n.natAbs:Int):=by
 unfold la0;obtain⟨h1,h2⟩:=h;rw[na2 (by omega) (by omega)]
 split<;>omega
theorem Eb8{n:Int}(h:Sm 1000000000000000000 n):ua0 n=some (i (n.natAbs:Int),[]):=by
 unfold ua0;obtain⟨h1,h2⟩:=h;rw[na2 (by omega) (by omega)]
 by_cases h:n<0
 ·rw[bt (decide_eq_true h)];congr 3;omega
 ·rw[bf (decide_eq_false h)];congr 3;omega
theorem lb4{n:Int}(h:Sm 1000000000000000000 n):ha8 n=(n.natAbs:Int):=by unfold ha8;rw[Eb8 h];rfl
theorem lb5{n:Int}(h:Sm 1000000000000000000 n):ha9 n=true:=by unfold ha9;rw[Eb8 h];rfl
def g3(v:V3):Int:=(Nat.gcd (Nat.gcd v.x.natAbs v.y.natAbs) v.z.natAbs:Nat)
theorem vd6(g n:Nat):eu (g:Int) (n:Int)=(Nat.gcd g n:Nat):=by rw[Xd3 (by omega) (by omega)];rfl
theorem oc8(P:O9)(g n:Nat)(hn:n<=1000000000000000000):lp (M3 P) ⟨(g:Int),(n:Int)⟩=(1,⟨(Nat.gcd g n:Nat),0⟩):=by
 have:=Qb2 (step:=M3 P) (mk:=λg n=>(⟨g,n⟩:F4)) (λg n h=>by
  have h0:n≠0:=by omega
  simp[M3,R8,wb6,h,h0]) (λg=>by simp[M3,R8,wb6]) (g:Int) (n:Int) (by omega) (by omega) (by omega)
 rw[this,vd6]
theorem ic2(l:List Int)(hl:l.length<=1000000000)(hb:∀x∈l,Sm 1000000000000000000 x):ea1 l=some (i (l.foldl (λg x=>Nat.gcd g x.natAbs) 0:Nat),[]):=by
 have h := Kd3 (step := U9 ⟨(l.length : Int)⟩) (mk := fun j (a : Nat) => (⟨(a : Int), l, (j : Int)⟩ : A1)) (f := fun g x => Nat.gcd g x.natAbs) (fin := 2) tI l (fun _ _ => True) hl (fun j a hj _ => ⟨by
   have hm:=hb _ (bb2 tI hj);have hne:(gL tI l j==(-9223372036854775808:Int))=false:=by
    have:=hm.1
    rw[beq_eq_false_iff_ne];omega
   have hs:(gL tI l j).natAbs<=1000000000000000000:=by obtain⟨h1,h2⟩:=hm;omega
   simp only[U9,R9,Int.toNat_natCast,s8,p8,Lc8 hm,oc8 _ _ _ hs,J0 hj (by omega)]
   rw[bt (gc9 hj),bt (k8 hj),bf hne]
   rfl,trivial⟩) (λa _=>by simp only[U9,R9];rw[bf (Db9 (Nat.lt_irrefl _))]) 0 (Nat.zero_le _) 0 trivial
 have h:=h.1;rw[List.drop_zero] at h;unfold ea1;simp only[s8,p8];rw[show (⟨0,l,0⟩:A1)=⟨((0:Nat):Int),l,((0:Nat):Int)⟩ from rfl,h]
 rfl
def okp(p:Pln):Bool:=[p.n.x,p.n.y,p.n.z].all (smb 4608)&&(g3 p.n==1&&[p.b].all (smb 2097152))
theorem Yd0(p:Pln):Bd p↔[p.n.x,p.n.y,p.n.z].all (smb 4608)=true/\[p.b].all (smb 2097152)=true:=by
 simp only[List.all_cons,List.all_nil,Qin,Qif,bb4,Sm];exact⟨λh=>⟨⟨⟨h.x1,h.x2⟩,⟨h.y1,h.y2⟩,h.z1,h.z2⟩,h.b1,h.b2⟩,λ⟨⟨⟨a,b⟩,⟨c,d⟩,e,f⟩,g,h⟩=>⟨a,b,c,d,e,f,g,h⟩⟩
theorem Mb9{p:Pln}(h:okp p=true):Bd p:=by
 unfold okp at h;rw[Qif,Qif] at h;exact (Yd0 p).2 ⟨h.1,h.2.2⟩
theorem sm3{v:V3}(h:[v.x,v.y,v.z].all (smb 4608)=true):Sm 4608 v.x/\Sm 4608 v.y/\Sm 4608 v.z:=by
 simpa only[List.all_cons,List.all_nil,Qin,Qif,bb4] using h
theorem Lc9(p:Pln):na6 p=some (b (okp p),[]):=by
 unfold na6 okp;have l3:[p.n.x,p.n.y,p.n.z].length<=1000000000:=by simp
 have l1:[p.b].length<=1000000000:=by simp
 simp only[Mb7 4608 _ (by omega) l3,Mb8 4608 _ (by omega) l3,Mb7 2097152 _ (by omega) l1,Mb8 2097152 _ (by omega) l1]
 cases hw:[p.n.x,p.n.y,p.n.z].all (smb 4608) with
 |false=>rfl
 |true =>
  obtain⟨h1,h2,h3⟩:=sm3 hw;have hd:=ic2 [p.n.x,p.n.y,p.n.z] l3 (by
   intro x hx;simp only[Qia,Qiaa,or_false] at hx
   rcases hx with rfl|rfl|rfl
   ·exact h1.mono (by omega)
   ·exact h2.mono (by omega)
   ·exact h3.mono (by omega))
  have hg:([p.n.x,p.n.y,p.n.z].foldl (λg x=>Nat.gcd g x.natAbs) 0:Nat)=Nat.gcd (Nat.gcd p.n.x.natAbs p.n.y.natAbs) p.n.z.natAbs:=by
   simp only[List.foldl_cons,List.foldl_nil,Nat.gcd_zero_left]
  have hp:R3 [p.n.x,p.n.y,p.n.z]=g3 p.n:=by unfold R3;rw[hd,hg];rfl
  have hgd:R4 [p.n.x,p.n.y,p.n.z]=true:=by unfold R4;rw[hd];rfl
  rw[hp,hgd];cases g3 p.n==1<;>rfl
theorem Kd9(p:Pln):za7 p=okp p:=by unfold za7;rw[Lc9 p];rfl
theorem Ld0(p:Pln):za8 p=true:=by unfold za8;rw[Lc9 p];rfl
theorem Nb0(P:ka9)(g n:Nat)(hn:n<=1000000000000000000):lp (Z3 P) ⟨(g:Int),(n:Int)⟩=(1,⟨(Nat.gcd g n:Nat),0⟩):=by
 have:=Qb2 (step:=Z3 P) (mk:=λg n=>(⟨g,n⟩:S5)) (λg n h=>by
  have h0:n≠0:=by omega
  simp[Z3,Ka7,wb6,h,h0]) (λg=>by simp[Z3,Ka7,wb6]) (g:Int) (n:Int) (by omega) (by omega) (by omega)
 rw[this,vd6]
theorem Bc4 {v : V3} (h1 : Sm 1000000000000000000 v.x) (h2 : Sm 1000000000000000000 v.y) (h3 : Sm 1000000000000000000 v.z) :
  ab4 v=if g3 v=0 then some (.tup [.agg (tV.row ⟨0,0,0⟩),i 0],[]) else some (.tup [.agg (tV.row ⟨W (Int.tdiv v.x (g3 v)),W (Int.tdiv v.y (g3 v)),W (Int.tdiv v.z (g3 v))⟩),i (g3 v)],[]):=by
 have ne:∀{x:Int},Sm 1000000000000000000 x->(x==(-9223372036854775808:Int))=false:=λ{x} h=>by
  have:=h.1
  rw[beq_eq_false_iff_ne];omega
 have bd:∀{x:Int},Sm 1000000000000000000 x->x.natAbs<=1000000000000000000:=λ{x} h=>by obtain⟨h1,h2⟩:=h;omega
 have l1:=Nb0 ⟨0,v.x,v.y,v.z,v.x,v.y,v.z⟩ 0 v.x.natAbs (bd h1);rw[Nat.gcd_zero_left] at l1;have l2:=Nb0 ⟨1,v.x,v.y,v.z,v.x,v.y,v.z⟩ v.x.natAbs v.y.natAbs (bd h2);have l3:=Nb0 ⟨2,v.x,v.y,v.z,v.x,v.y,v.z⟩ (Nat.gcd v.x.natAbs v.y.natAbs) v.z.natAbs (bd h3);unfold ab4;simp only[lb4 h1,lb4 h2,lb4 h3,lb5 h1,lb5 h2,lb5 h3];rw[show (⟨0,(v.x.natAbs:Int)⟩:S5)=⟨((0:Nat):Int),(v.x.natAbs:Int)⟩ from rfl]
 simp only[l1,l2,l3,ne h1,ne h2,ne h3];rw[show ((Nat.gcd (Nat.gcd v.x.natAbs v.y.natAbs) v.z.natAbs:Nat):Int)=g3 v from rfl]
 by_cases h:g3 v=0
 ·rw[if_pos h,show (g3 v==0)=true from by rw[h];rfl];rfl
 ·rw[if_neg h,show (g3 v==0)=false from by rw[beq_eq_false_iff_ne];exact h];rfl
theorem ic3{v:V3}(h1:Sm 1000000000000000000 v.x)(h2:Sm 1000000000000000000 v.y)(h3:Sm 1000000000000000000 v.z):(xa8 v).2=g3 v:=by
 unfold xa8;rw[Bc4 h1 h2 h3];split
 ·rename_i h;rw[h];rfl
 ·rfl
theorem Yd1{v:V3}(h1:Sm 1000000000000000000 v.x)(h2:Sm 1000000000000000000 v.y)(h3:Sm 1000000000000000000 v.z)(h:g3 v≠0):xa8 v=(⟨W (Int.tdiv v.x (g3 v)),W (Int.tdiv v.y (g3 v)),W (Int.tdiv v.z (g3 v))⟩,g3 v):=by
 unfold xa8;rw[Bc4 h1 h2 h3,if_neg h];rfl
theorem vd7{v:V3}(h1:Sm 1000000000000000000 v.x)(h2:Sm 1000000000000000000 v.y)(h3:Sm 1000000000000000000 v.z):ab5 v=true:=by
 unfold ab5;rw[Bc4 h1 h2 h3]
 split<;>rfl
theorem ld4(p:Pln):Pa9 p=some (b (okp p),[]):=by
 unfold Pa9 okp;cases hw:[p.n.x,p.n.y,p.n.z].all (smb 4608) with
 |false =>
  simp only[List.all_cons,List.all_nil,Qin,smb] at hw;cases h1:decide (p.n.x < -4608)<;>cases h2:decide (p.n.x>4608)<;>cases h3:decide (p.n.y < -4608)<;>cases h4:decide (p.n.y>4608)<;>cases h5:decide (p.n.z < -4608)<;>cases h6:decide (p.n.z>4608)<;>simp only[h1,h2,h3,h4,h5,h6] at hw ⊢<;>first | rfl | cases hw
 |true =>
  obtain⟨h1,h2,h3⟩:=sm3 hw;rw[bf (decide_eq_false (by have:=h1.1;omega)),bf (decide_eq_false (by have:=h1.2;omega)),bf (decide_eq_false (by have:=h2.1;omega)),bf (decide_eq_false (by have:=h2.2;omega)),bf (decide_eq_false (by have:=h3.1;omega)),bf (decide_eq_false (by have:=h3.2;omega))]
  have k1:=h1.mono (m:=1000000000000000000) (by omega)
  have k2:=h2.mono (m:=1000000000000000000) (by omega)
  have k3:=h3.mono (m:=1000000000000000000) (by omega)
  rw[bt (vd7 k1 k2 k3),ic3 k1 k2 k3];cases g3 p.n==1 with
  |false=>rfl
  |true =>
   simp only[List.all_cons,List.all_nil,Qin,smb,Bool.true_and];rw[J1];by_cases ha:p.b < -2097152
   ·rw[bf (decide_eq_false (by omega)),show decide (p.b < -2097152)=true from decide_eq_true ha];rfl
   ·rw[bt (decide_eq_true (by omega)),show decide (p.b < -2097152)=false from decide_eq_false ha]
    congr 3;by_cases hc:p.b<=2097152
    ·rw[decide_eq_true hc,decide_eq_false (by omega)];rfl
    ·rw[decide_eq_false hc,decide_eq_true (by omega)];rfl
theorem vd8(p:Pln):jb8 p=true:=by unfold jb8;rw[ld4 p];rfl
def chk(l:List Pln):Int:=if (l.length:Int)>48 then 2 else if l.all okp then 0 else 12
theorem ic4{l:List Pln}:chk l=0↔l.length<=48/\∀p∈l,okp p=true:=by
 unfold chk;by_cases hn:(l.length:Int)>48
 ·rw[if_pos hn];exact⟨λh=>absurd h (by decide),λh=>by omega⟩
 ·rw[if_neg hn];cases h:l.all okp with
  |true=>exact⟨λ_=>⟨by omega,Qij.1 h⟩,λ_=>rfl⟩
  |false=>exact⟨λh=>absurd h (by decide),λh'=>by rw[Qij.2 h'.2] at h;cases h⟩
theorem btD{p:Prop}{inst:Decidable p}(h:p){α:Type}(t e:α):sl (@decide p inst) t e=t:=bt (decide_eq_true h) t e
theorem bfD{p:Prop}{inst:Decidable p}(h:¬ p){α:Type}(t e:α):sl (@decide p inst) t e=e:=bf (decide_eq_false h) t e
theorem B7{j n:Nat}(h:j<n):(j:Int)<(n:Int):=Int.ofNat_lt.2 h
theorem G6{j n:Nat}(h:¬ j<n):¬ (j:Int)<(n:Int):=λh'=>h (Int.ofNat_lt.1 h')
noncomputable def Eb9(r:List Pln)(p q:Pln)(out:List Pt)(s:Pln):List Pt :=
 if (mpt p q s).2&&(!Kd8 out (mpt p q s).1&&inn r (mpt p q s).1) then out++[(mpt p q s).1] else out
noncomputable def ld5(r:List Pln)(p q:Pln)(l:List Pln)(out:List Pt):List Pt:=l.foldl (Eb9 r p q) out
noncomputable def Mc0(r:List Pln)(p:Pln):List Pln->List Pt->List Pt
 |[],out=>out
 |q::l,out=>Mc0 r p l (ld5 r p q l out)
noncomputable def Vc9(r:List Pln):List Pln->List Pt->List Pt
 |[],out=>out
 |p::l,out=>Vc9 r l (Mc0 r p l out)
noncomputable def cor(r:List Pln):List Pt:=Vc9 r r []
def Bds(r:List Pln):Prop:=∀p∈r,Bd p
noncomputable def ph(out:List Pt):Nat:=match out with
 |[]=>0
 |_::_=>1
theorem cd1{α:Type}(t:Ty α)(l:List α)(n k:Nat):gL t (l.drop n) k=gL t l (n+k):=by simp[gL,Qiah,List.getElem?_drop]
theorem ld6{ρ:Type}(R:RR ρ){x:a7×List c7}{r:ρ}(h:R.rd x=some r):T8 R (some x)=r:=by
 show Option.rec (motive:=λ_=>ρ) R.d (λx=>x) (R.rd x)=r
 rw[h]
theorem vd9{ρ:Type}(R:RR ρ){x:a7×List c7}{r:ρ}(h:R.rd x=some r):okO R (some x)=true:=by
 show Option.rec (motive:=λ_=>Bool) false (λ_=>true) (R.rd x)=true
 rw[h]
@[reducible] noncomputable def flK:List (Nat×CK):=[(0,.int .i64),(1,.int .i64),(2,.int .i64),(3,.int .i64)]
theorem Yd2(s:Pln):((Nat.ble 4 (len (tP.row s)))&&(Ea9 [CK.int .i64,CK.int .i64,CK.int .i64,CK.int .i64] (tP.row s)))=true:=rfl
noncomputable def ws:List Pln:=[⟨⟨1,0,0⟩,24⟩,⟨⟨-1,0,0⟩,24⟩,⟨⟨0,1,0⟩,24⟩,⟨⟨0,-1,0⟩,24⟩,⟨⟨0,0,1⟩,24⟩,⟨⟨0,0,-1⟩,24⟩]
theorem ge6:Bds ws:=by
 intro p hp
 have:okp p=true:=by
  have h:ws.all okp=true:=by decide
  exact Qij.1 h p hp
 exact Mb9 this
noncomputable def pos(X:List Pt)(p:Pln):Bool:=X.any λx=>decide (rm p x>0)
noncomputable def Ld1(r:List Pln):Bool:=r.all (pos (cor r))
theorem Ld2{c:List Pln}(h:(chk c==0)=true):Bds (c++ws)/\(c++ws).length<=200:=by
 rw[beq_iff_eq,ic4] at h;refine⟨λp hp=>?_,by rw[List.length_append,show ws.length=6 from rfl];omega⟩
 rcases List.mem_append.1 hp with hp|hp
 ·exact Mb9 (h.2 p hp)
 ·exact ge6 p hp
noncomputable def pts(c:List Pln):List Pt:=if chk c==0 then cor (c++ws) else []
noncomputable def ful(c:List Pln):Bool:=(chk c==0)&&Ld1 (c++ws)
theorem Mc1{Q:Pt->Prop}(r:List Pln)(p q:Pln):∀(l:List Pln) (out:List Pt),(∀s∈l,(mpt p q s).2=true->inn r (mpt p q s).1=true->Q (mpt p q s).1)->(∀x∈out,Q x)->∀x∈ld5 r p q l out,Q x
 |[],out,_,h=>h
 |s::l,out,hs,h=>Mc1 r p q l (Eb9 r p q out s) (λt ht=>hs t (Qib _ ht)) λx hx=>by
  unfold Eb9 at hx
  split at hx
  ·rename_i hc;rw[Qif,Qif] at hc
   rcases List.mem_append.1 hx with hx|hx
   ·exact h x hx
   ·rw[List.mem_singleton] at hx;subst hx;exact hs s Qid hc.1 hc.2.2
  ·exact h x hx
theorem Mc2{Q:Pt->Prop}(r:List Pln)(p:Pln):∀(l:List Pln) (out:List Pt),(∀q∈l,∀s∈l,(mpt p q s).2=true->inn r (mpt p q s).1=true->Q (mpt p q s).1)->(∀x∈out,Q x)->∀x∈Mc0 r p l out,Q x
 |[],out,_,h=>h
 |q::l,out,hs,h=>Mc2 r p l _ (λa ha t ht=>hs a (Qib _ ha) t (Qib _ ht)) (Mc1 r p q l out (λt ht=>hs q Qid t (Qib _ ht)) h)
theorem Mc3{Q:Pt->Prop}(r:List Pln):∀(l:List Pln) (out:List Pt),(∀p∈l,∀q∈l,∀s∈l,(mpt p q s).2=true->inn r (mpt p q s).1=true->Q (mpt p q s).1)->(∀x∈out,Q x)->∀x∈Vc9 r l out,Q x
 |[],out,_,h=>h
 |p::l,out,hs,h=>Mc3 r l _ (λa ha c hc t ht=>hs a (Qib _ ha) c (Qib _ hc) t (Qib _ ht)) (Mc2 r p l out (λc hc t ht=>hs p Qid c (Qib _ hc) t (Qib _ ht)) h)
theorem cd2{Q:Pt->Prop}{r:List Pln}(hs:∀p∈r,∀q∈r,∀s∈r,(mpt p q s).2=true->inn r (mpt p q s).1=true->Q (mpt p q s).1):∀x∈cor r,Q x :=
 Mc3 r r [] hs λx hx=>by cases hx
structure Okx(x:Pt):Prop where
 w1:0<x.pw
 w2:x.pw<=600000000000
 c1:Sm 300000000000000 x.px
 c2:Sm 300000000000000 x.py
 c3:Sm 300000000000000 x.pz
theorem Bc5{r:List Pln}(hb:Bds r):∀x∈cor r,Okx x:=cd2 λp hp q hq s hs h _=>by
 obtain⟨h1,h2,h3,h4,h5⟩:=Vc8 (hb p hp) (hb q hq) (hb s hs) h;exact⟨h1,h5,h2,h3,h4⟩
theorem wd0{x y:Int}(hy:0<y):Int.tmod x y+y*Int.tdiv x y=x/\-y<Int.tmod x y/\Int.tmod x y<y:=by
 refine⟨Int.tmod_add_mul_tdiv x y,?_,Int.tmod_lt_of_pos x hy⟩
 have:=Int.lt_tmod_of_pos x hy
 omega
theorem wd1(x:Int){y:Int}(hy:0<y)(hy2:y<=4000000000000000000):Va6 x y=some (i (x % y),[]):=by
 have hz:(y==0)=false:=by rw[beq_eq_false_iff_ne];omega
 obtain⟨h1,h2,h3⟩:=wd0 (x:=x) hy;unfold Va6;rw[bfD (by omega),bf hz,bf hz,na2 (by omega) (by omega),Int.tmod_eq_emod_of_nonneg (by omega)]
 congr 3;rw[Int.add_emod_right]
 conv=>rhs;rw[<- h1]
 rw[Int.add_mul_emod_self_left]
theorem ge7(x:Int){y:Int}(hy:0<y)(hy2:y<=4000000000000000000):ob6 x y=x % y:=by unfold ob6;rw[wd1 x hy hy2];rfl
theorem ge8(x:Int){y:Int}(hy:0<y)(hy2:y<=4000000000000000000):ob7 x y=true:=by unfold ob7;rw[wd1 x hy hy2];rfl
theorem Sm.neg{n x:Int}(h:Sm n x):Sm n (-x):=⟨by have:=h.2;omega,by have:=h.1;omega⟩
def Nx{σ:Type}(x:Stp σ)(E:Nat->Prop)(N:σ->Prop):Prop:=(∃t,x=.exit t/\E t)\/∃s,x=.next s/\N s
theorem Nx.sl{σ:Type}{c:Bool}{t e:Stp σ}{E:Nat->Prop}{N:σ->Prop}(h1:c=true->Nx t E N)(h2:c=false->Nx e E N):Nx (sl c t e) E N:=by cases c;exact h2 rfl;exact h1 rfl
theorem Nx.ex{σ:Type}{t:Nat}{E:Nat->Prop}{N:σ->Prop}(h:E t):Nx (.exit t) E N:=.inl ⟨t,rfl,h⟩
theorem Nx.nx{σ:Type}{s:σ}{E:Nat->Prop}{N:σ->Prop}(h:N s):Nx (.next s) E N:=.inr ⟨s,rfl,h⟩
theorem V7 {σ τ : Type} {step : σ → Stp σ} {mk : Nat → τ → σ} (n : Nat) (I : Nat → τ → Prop) (E : Nat → σ → Prop) (hn : n ≤ 1000000000)
  (h:∀j a,j<n->I j a->Nx (step (mk j a)) (λt=>E t (mk j a)) (λs=>∃a',s=mk (j+1) a'/\I (j+1) a'))
  (hf:∀j a,n<=j->I j a->∃t,step (mk j a)=.exit t/\E t (mk j a)) (j0:Nat) (a:τ) (hi:I j0 a):∃t s,lp step (mk j0 a)=(t,s)/\E t s:=by
 have key:=Lb1 (step:=step) (I:=λm s=>∃j a,m=n-j/\s=mk j a/\I j a) (Q:=E) (λm s ⟨j,a,hm,hs,ha⟩=>by
  subst hs;by_cases hlt:j<n
  ·rcases h j a hlt ha with h1|⟨s',h1,a',h2,h3⟩
   ·exact .inl h1
   ·subst h2;exact .inr ⟨_,n-(j+1),by omega,h1,j+1,a',rfl,rfl,h3⟩
  ·exact .inl (hf j a (by omega) ha)) (n-j0) (mk j0 a) (by omega) ⟨j0,a,rfl,rfl,hi⟩
 exact⟨_,_,rfl,key⟩
def Rd{ρ:Type}(R:RR ρ)(o:Option (a7×List c7))(P:ρ->Prop):Prop:=∃x r,o=some x/\R.rd x=some r/\P r
theorem Rd.p{ρ:Type}{R:RR ρ}{o:Option (a7×List c7)}{P:ρ->Prop}(h:Rd R o P):P (T8 R o):=by
 obtain⟨x,r,h1,h2,h3⟩:=h;rw[h1,ld6 R h2];exact h3
theorem Rd.g{ρ:Type}{R:RR ρ}{o:Option (a7×List c7)}{P:ρ->Prop}(h:Rd R o P):okO R o=true:=by
 obtain⟨x,r,h1,h2,h3⟩:=h;rw[h1];exact vd9 R h2
theorem Rd.sl{ρ:Type}{R:RR ρ}{c:Bool}{t e:Option (a7×List c7)}{P:ρ->Prop}(h1:c=true->Rd R t P)(h2:c=false->Rd R e P):Rd R (sl c t e) P:=by cases c;exact h2 rfl;exact h1 rfl
theorem Yb3 (n : Int) (l : List Int) (j : Int) (h1 : 0 ≤ j) (h2 : j ≤ 1000000) (hn : 0 < n) (hn2 : n ≤ 1000000) :
  ∃v j',L2 ⟨n,l,j⟩=⟨1,v,j'⟩/\0<=v/\v<n/\j<=j'/\j'<=j+1:=by
 unfold L2 X3
 simp only
 by_cases h:j>=(l.length:Int)
 ·rw[btD h];exact⟨0,j,rfl,by omega,hn,by omega,by omega⟩
 ·rw[bfD h];have hW:W (W (j+1)-1)=j:=by rw[Bc2,na2 (by omega) (by omega)];omega
  have hW2:W (j+1)=j+1:=na2 (by omega) (by omega)
  have hin:inB j l.length=true:=by rw[Kd1];exact decide_eq_true (by omega)
  rw[hW,hW2,hin,ge8 _ hn (by omega),ge7 _ hn (by omega)]
  exact⟨_,_,rfl,Int.emod_nonneg _ (by omega),Int.emod_lt_of_pos _ hn,by omega,by omega⟩
theorem Yd3 (m : Int) (l : List Int) (j : Int) (h1 : 0 ≤ j) (h2 : j ≤ 900000) (hm : 0 ≤ m) (hm2 : m ≤ 100000) :
  ∃a b c j',Wa2 ⟨m,l,j⟩=⟨1,a,b,c,l,j'⟩/\Sm m a/\Sm m b/\Sm m c/\j<=j'/\j'<=j+3:=by
 unfold Wa2 Ia7;simp only[s8,p8];have hW:W (W (2*m)+1)=2*m+1:=by rw[xb5,na2 (by omega) (by omega)]
 rw[hW];obtain⟨v1,j1,e1,a1,b1,c1,d1⟩:=Yb3 (2*m+1) l j h1 (by omega) (by omega) (by omega)
 rw[e1];obtain⟨v2,j2,e2,a2,b2,c2,d2⟩:=Yb3 (2*m+1) l j1 (by omega) (by omega) (by omega) (by omega)
 simp only
 rw[e2];obtain⟨v3,j3,e3,a3,b3,c3,d3⟩:=Yb3 (2*m+1) l j2 (by omega) (by omega) (by omega) (by omega)
 simp only
 rw[e3];refine⟨v1-m,v2-m,v3-m,j3,?_,⟨by omega,by omega⟩,⟨by omega,by omega⟩,⟨by omega,by omega⟩,by omega,by omega⟩
 simp only
 rw[na2 (n:=v1-m) (by omega) (by omega),na2 (n:=v2-m) (by omega) (by omega),na2 (n:=v3-m) (by omega) (by omega)]
 rfl
def inV(v:V3):Bool:=smb 24 v.x&&(smb 24 v.y&&smb 24 v.z)
theorem qa4(v:V3):inV v=true↔Sm 24 v.x/\Sm 24 v.y/\Sm 24 v.z:=by unfold inV;rw[Qif,Qif,bb4,bb4,bb4]
theorem wd2(v:V3):Db2 v=some (b (inV v),[]):=by
 unfold Db2 inV smb;cases h1:decide (v.x < -24)<;>cases h2:decide (v.x>24)<;>cases h3:decide (v.y < -24)<;>cases h4:decide (v.y>24)<;>cases h5:decide (v.z < -24)<;>cases h6:decide (v.z>24)<;>rfl
theorem ge9(v:V3):Wa0 v=inV v:=by unfold Wa0;rw[wd2];rfl
theorem Rd6(v:V3):Wa1 v=true:=by unfold Wa1;rw[wd2];rfl
def sub(a b:V3):V3:=⟨a.x-b.x,a.y-b.y,a.z-b.z⟩
theorem cd3{a b:V3}(ha:inV a=true)(hb:inV b=true):Ia6 a b=sub a b/\Sm 48 (sub a b).x/\Sm 48 (sub a b).y/\Sm 48 (sub a b).z:=by
 rw[qa4] at ha hb;obtain⟨⟨a1,a2⟩,⟨a3,a4⟩,a5,a6⟩:=ha;obtain⟨⟨b1,b2⟩,⟨b3,b4⟩,b5,b6⟩:=hb;unfold Ia6 sub;rw[na2 (by omega) (by omega),na2 (by omega) (by omega),na2 (by omega) (by omega)]
 exact⟨rfl,⟨by show _<=a.x-b.x;omega,by show a.x-b.x<=_;omega⟩,⟨by show _<=a.y-b.y;omega,by show a.y-b.y<=_;omega⟩,⟨by show _<=a.z-b.z;omega,by show a.z-b.z<=_;omega⟩⟩
theorem Ta8 {a b c : V3} (ha : inV a = true) (hb : inV b = true) (hc : inV c = true) :
  Pa8 (Ia6 b a) (Ia6 c a)=a8 (sub b a) (sub c a)/\Sm 4608 (a8 (sub b a) (sub c a)).x/\Sm 4608 (a8 (sub b a) (sub c a)).y/\Sm 4608 (a8 (sub b a) (sub c a)).z:=by
 obtain⟨e1,⟨u1,u2⟩,⟨u3,u4⟩,u5,u6⟩:=cd3 hb ha;obtain⟨e2,⟨v1,v2⟩,⟨v3,v4⟩,v5,v6⟩:=cd3 hc ha;rw[e1,e2,Kd7];generalize sub b a=p at *
 generalize sub c a=q at *
 have h1:=mb u3 u4 v5 v6;have h2:=mb u5 u6 v3 v4;have h3:=mb u5 u6 v1 v2;have h4:=mb u1 u2 v5 v6;have h5:=mb u1 u2 v3 v4;have h6:=mb u3 u4 v1 v2;have k:Sm 4608 (a8 p q).x/\Sm 4608 (a8 p q).y/\Sm 4608 (a8 p q).z:=by unfold Sm a8;simp only;omega
 obtain⟨k1,k2,k3⟩:=k;rw[lb3 (k1.mono (by omega)),lb3 (k2.mono (by omega)),lb3 (k3.mono (by omega))]
 exact⟨rfl,k1,k2,k3⟩
def A8(a b c:V3):Pln×Bool :=
 if inV a&&(inV b&&inV c) then
  if g3 (a8 (sub b a) (sub c a))=0 then (⟨⟨0,0,0⟩,0⟩,false)
  else (⟨⟨Int.tdiv (a8 (sub b a) (sub c a)).x (g3 (a8 (sub b a) (sub c a))),Int.tdiv (a8 (sub b a) (sub c a)).y (g3 (a8 (sub b a) (sub c a))),Int.tdiv (a8 (sub b a) (sub c a)).z (g3 (a8 (sub b a) (sub c a)))⟩,
   dot ⟨Int.tdiv (a8 (sub b a) (sub c a)).x (g3 (a8 (sub b a) (sub c a))),Int.tdiv (a8 (sub b a) (sub c a)).y (g3 (a8 (sub b a) (sub c a))),Int.tdiv (a8 (sub b a) (sub c a)).z (g3 (a8 (sub b a) (sub c a)))⟩ a⟩,true)
 else (⟨⟨0,0,0⟩,0⟩,false)
theorem pb2(v:V3):0<=g3 v:=by unfold g3;omega
theorem Wc0(a c d:V3):za9 a c d=some (.tup [.agg (tP.row (A8 a c d).1),b (A8 a c d).2],[]):=by
 unfold za9 A8;simp only[ge9,Rd6];cases ha:inV a with
 |false=>rfl
 |true =>
  cases hc:inV c with
  |false=>rfl
  |true =>
   cases hd:inV d with
   |false=>rfl
   |true =>
    obtain⟨e,k1,k2,k3⟩:=Ta8 ha hc hd;rw[e];generalize a8 (sub c a) (sub d a)=n at *
    have m1:=k1.mono (m:=1000000000000000000) (by omega)
    have m2:=k2.mono (m:=1000000000000000000) (by omega)
    have m3:=k3.mono (m:=1000000000000000000) (by omega)
    rw[vd7 m1 m2 m3,ic3 m1 m2 m3];by_cases h0:g3 n=0
    ·rw[show (g3 n==0)=true from by rw[h0];rfl]
     simp only[Qix,if_true,h0];rfl
    ·have hp:=pb2 n;have q1:=Y6 (g:=g3 n) k1 (by omega)
     have q2:=Y6 (g:=g3 n) k2 (by omega)
     have q3:=Y6 (g:=g3 n) k3 (by omega)
     rw[show (g3 n==0)=false from by rw[beq_eq_false_iff_ne];exact h0,Yd1 m1 m2 m3 h0]
     simp only[Qix,if_true,h0,if_false];rw[lb3 (q1.mono (by omega)),lb3 (q2.mono (by omega)),lb3 (q3.mono (by omega))]
     have hdot:ob5 ⟨Int.tdiv n.x (g3 n),Int.tdiv n.y (g3 n),Int.tdiv n.z (g3 n)⟩ a=dot ⟨Int.tdiv n.x (g3 n),Int.tdiv n.y (g3 n),Int.tdiv n.z (g3 n)⟩ a:=by
      unfold ob5;simp only[xb5,gc8];obtain⟨⟨a1,a2⟩,⟨a3,a4⟩,a5,a6⟩:=(qa4 a).1 ha;have r1:=mb q1.1 q1.2 a1 a2;have r2:=mb q2.1 q2.2 a3 a4;have r3:=mb q3.1 q3.2 a5 a6;rw[na2 (by omega) (by omega)]
      rfl
     rw[hdot];rfl
theorem ld7(a b c:V3):Sa5 a b c=true:=by unfold Sa5;rw[Wc0];rfl
theorem Ld3(p:Pln)(v:V3):Rd (one r1I) (ab8 p v) (λ_=>True):=by
 unfold ab8;simp only[vd8,Rd6,J1];exact Rd.sl (λ_=>⟨_,_,rfl,rfl,trivial⟩) λ_=>Rd.sl (λ_=>⟨_,_,rfl,rfl,trivial⟩) λ_=>Rd.sl (λ_=>⟨_,_,rfl,rfl,trivial⟩) λ_=>Rd.sl (λ_=>⟨_,_,rfl,rfl,trivial⟩) λ_=>⟨_,_,rfl,rfl,trivial⟩
theorem Yd4(p:Pln)(v:V3):fc4 p v=true:=(Ld3 p v).g
theorem he0(P:ua3)(hl:P.j7.length<=1000000000):∃t s,lp (na8 P) ⟨0⟩=(t,s)/\(t=1\/t=2\/t=3):=by
 obtain⟨l,x1,x2,x3,x4,x5,x6,x7,x8⟩:=P;refine V7 (step:=na8 ⟨l,x1,x2,x3,x4,x5,x6,x7,x8⟩) (mk:=λj (_:Unit)=>(⟨(j:Int)⟩:la1)) l.length (λ_ _=>True) (λt _=>t=1\/t=2\/t=3) hl (λj a hj _=>?_) (λj a hj _=>?_) 0 () trivial
 ·simp only[na8,La2,Yd4,Int.toNat_natCast,J0 hj (show l.length<=4611686018427387904 from Nat.le_trans hl (by omega))]
  rw[btD (B7 hj),bt (k8 hj),J1];exact Nx.sl (λ_=>Nx.sl (λ_=>.ex (by simp)) λ_=>.nx ⟨(),rfl,trivial⟩) λ_=>.ex (by simp)
 ·simp only[na8,La2];rw[bfD (by omega)]
  exact⟨_,rfl,by simp⟩
theorem he3(l:List V3)(hl:l.length<=1000000000)(a c:Nat)(ha:a<l.length)(hc:c<a):∃t s,lp (na9 ⟨(a:Int),(c:Int)⟩) ⟨l,0⟩=(t,s)/\((t=1\/t=2)/\s.j7=l):=by
 refine V7 (step:=na9 ⟨(a:Int),(c:Int)⟩) (mk:=λj (_:Unit)=>(⟨l,(j:Int)⟩:la2)) c (λ_ _=>True) (λt s=>(t=1\/t=2)/\s.j7=l) (by omega) (λj x hj _=>?_) (λj x hj _=>?_) 0 () trivial
 ·simp only[na9,La3,ld7,Int.toNat_natCast,s8,p8,J0 hj (show c<=4611686018427387904 by omega)]
  rw[btD (B7 hj),bt (k8 ha),bt (k8 (show c<l.length by omega)),bt (k8 (show j<l.length by omega)),J1]
  generalize hP:ua3.mk _ _ _ _ _ _ _ _ _=P3;obtain⟨t,s,h1,h2⟩:=he0 P3 (by subst hP;exact hl)
  rw[h1]
  rcases h2 with rfl|rfl|rfl
  ·exact .ex (by simp)
  ·exact .nx ⟨(),rfl,trivial⟩
  ·exact .nx ⟨(),rfl,trivial⟩
 ·simp only[na9,La3];rw[bfD (by omega)]
  exact⟨_,rfl,by simp⟩
theorem he4(l:List V3)(hl:l.length<=1000000000)(a:Nat)(ha:a<l.length):∃t s,lp (oa0 ⟨(a:Int)⟩) ⟨l,0⟩=(t,s)/\((t=1\/t=2)/\s.j7=l):=by
 refine V7 (step:=oa0 ⟨(a:Int)⟩) (mk:=λj (_:Unit)=>(⟨l,(j:Int)⟩:la3)) a (λ_ _=>True) (λt s=>(t=1\/t=2)/\s.j7=l) (by omega) (λj x hj _=>?_) (λj x hj _=>?_) 0 () trivial
 ·simp only[oa0,La4,s8,p8,J0 hj (show a<=4611686018427387904 by omega)]
  obtain⟨t,s,h1,h2,h3⟩:=he3 l hl a j ha hj;rw[btD (B7 hj),h1]
  rcases h2 with rfl|rfl
  ·exact .ex (by simp)
  ·exact .nx ⟨(),by rw[h3],trivial⟩
 ·simp only[oa0,La4];rw[bfD (by omega)]
  exact⟨_,rfl,by simp⟩
theorem Za2(l:List V3)(hl:l.length<=1000000000):Rd (one r1B) (fc5 l) (λ_=>True):=by
 have key:∃t s,lp (oa1 ⟨⟩) ⟨l,0⟩=(t,s)/\(t=1\/t=2):=by
  refine V7 (step:=oa1 ⟨⟩) (mk:=λj (_:Unit)=>(⟨l,(j:Int)⟩:la4)) l.length (λ_ _=>True) (λt s=>t=1\/t=2) hl (λj x hj _=>?_) (λj x hj _=>?_) 0 () trivial
  ·simp only[oa1,La5,s8,p8,J0 hj (show l.length<=4611686018427387904 by omega)]
   obtain⟨t,s,h1,h2,h3⟩:=he4 l hl j hj;rw[btD (B7 hj),h1]
   rcases h2 with rfl|rfl
   ·exact .ex (by simp)
   ·exact .nx ⟨(),by rw[h3],trivial⟩
  ·simp only[oa1,La5];rw[bfD (by omega)]
   exact⟨_,rfl,by simp⟩
 obtain⟨t,s,h1,h2⟩:=key;unfold fc5;simp only[s8,p8];rw[h1]
 rcases h2 with rfl|rfl<;>exact⟨_,_,rfl,rfl,trivial⟩
structure Fc(ph:Nat)(out:List Pln)(m:Nat):Prop where
 h:(ph=0/\out=[])\/ph=1
 l:out.length<=m
theorem Fc.more{ph m m':Nat}{out:List Pln}(h:Fc ph out m)(hm:m<=m'):Fc ph out m':=⟨h.h,Nat.le_trans h.l hm⟩
def phV(out:List V3):Nat:=match out with
 |[]=>0
 |_::_=>1
theorem cd4(out:List V3)(x:V3):phV (out++[x])=1:=by cases out<;>rfl
theorem wd3(l:List V3)(x1 x2 x3:Int):app (bL tV l) [[i x1,i x2,i x3]]=bL tV (l++[⟨x1,x2,x3⟩]):=Ra9 tV l [⟨x1,x2,x3⟩]
theorem Rd7{n:Nat}{l:List V3}(hn:l.length=n)(h:n<=1000000000):(Nat.beq n (len (bL tV l))&&Nat.ble ((n+1)*24) room)=true:=by
 subst hn;rw[Ra8,Nat.beq_refl,Bool.true_and,Nat.ble_eq];unfold room;omega
theorem Yd5{α:Type}(t:Ty α)(k:Nat)(l:List α):(one (r1L t)).rd (.sl 0 0 l.length 0,[⟨k,t.es,bL t l,true,false,0⟩])=some l:=by
 show Bool.rec (motive:=λ_=>Option (List α)) none (some (slR t (bL t l) 0 l.length)) (Bool.and (Nat.beq t.es t.es) (okS t (bL t l) 0 l.length))=_
 rw[zc4,Tc2,Nat.beq_refl];rfl
theorem Nb1(v:V3):ia1 v=inV v/\ia2 v=true:=by
 have h3:[v.x,v.y,v.z].length<=1000000000:=by simp
 have:La1 v=some (b (inV v),[]):=by
  unfold La1 inV;simp only[Mb7 24 _ (by omega) h3,Mb8 24 _ (by omega) h3,J1]
  simp only[List.all_cons,List.all_nil,Qin]
 unfold ia1 ia2;rw[this];exact⟨rfl,rfl⟩
noncomputable def has(c:List Pln)(v:V3):Bool:=(chk c==0)&&(inV v&&inn c ⟨v.x,v.y,v.z,1⟩)
noncomputable def apart(a c:List Pln):Bool:=!((chk a==0)&&(chk c==0))||!Ld1 (a++c++ws)
noncomputable def Yd6(a c:List Pln):Bool:=ful a&&((chk c==0)&&(pts a).all (inn c))
noncomputable def onc(X:List Pt)(p:Pln):Nat:=X.countP λx=>rm p x==0
noncomputable def keep(X:List Pt)(p:Pln):Bool:=!decide ((onc X p:Int)<3)
theorem Fb0{α:Type}(c:α->Bool):∀l:List α,(l.take (l.findIdx c)).filter (λx=>!c x)=l.take (l.findIdx c)
 |[]=>rfl
 |x::l=>by
  rw[List.findIdx_cons];cases h:c x with
  |true=>rfl
  |false =>
   simp only[cond_false,List.take_succ_cons,List.filter_cons,h,Bool.not_false,if_true];rw[Fb0 c l]
theorem Wc1{α:Type}(l:List α)(j:Nat)(h:j<l.length):l.take (j+1)=l.take j++[l[j]]:=by rw[List.take_succ_eq_append_getElem h]
theorem bb5{α:Type}(t:Ty α){l:List α}{j:Nat}(h:j<l.length):l.take (j+1)=l.take j++[gL t l j]:=by rw[Wc1 l j h,eb1 t h]
theorem Nb2{α:Type}(t:Ty α){l r:List α}{j:Nat}(h:l.drop j=r.drop j):gL t l j=gL t r j:=by
 have h1:=cd1 t l j 0;have h2:=cd1 t r j 0;rw[Nat.add_zero] at h1 h2;rw[<- h1,<- h2,h]
theorem Fb1{α:Type}{l r:List α}{j:Nat}(h:l.drop j=r.drop j)(k:Nat):l.drop (j+k)=r.drop (j+k):=by rw[<- List.drop_drop,<- List.drop_drop,h]
structure Del(l:List Pln)(f:Pln->Bool)(cur:List Pln)(m j:Nat):Prop where
 len:cur.length=l.length
 t:cur.take m=(l.take j).filter f
 d:cur.drop j=l.drop j
 le:m<=j
 lm:m<=l.length
theorem Ld4(l:List Pln)(n:Nat):i7 (bL tP l) n=bL tP (l.drop n):=by unfold bL;rw[B9,j9,j9,List.map_drop]
def eqP(x y:Pln):Bool:=x.n.x==y.n.x&&(x.n.y==y.n.y&&(x.n.z==y.n.z&&(x.b==y.b&&true)))
theorem Fb2(x y:Pln):eqP x y=true↔x=y:=by
 unfold eqP;simp only[Qin,Qif,beq_iff_eq];refine⟨λ⟨h1,h2,h3,h4⟩=>?_,λh=>by subst h;exact⟨rfl,rfl,rfl,rfl⟩⟩
 obtain⟨⟨x1,x2,x3⟩,x4⟩:=x;obtain⟨⟨y1,y2,y3⟩,y4⟩:=y
 simp only at h1 h2 h3 h4
 subst h1 h2 h3 h4;rfl
def ddF:Pln->List Pln->List Pln
 |_,[]=>[]
 |a,x::l=>if eqP x a then ddF x l else x::ddF x l
def dd:List Pln->List Pln
 |[]=>[]
 |x::l=>x::ddF x l
structure Cmp(l:List Pln)(n:Nat)(cur:List Pln)(m j:Nat)(R:List Pln):Prop where
 len:cur.length=l.length
 t:cur.take m++ddF (gL tP l (j-1)) ((l.take n).drop j)=R
 d:cur.drop (j-1)=l.drop (j-1)
 le:m+1<=j
theorem wd4(l:List Pln)(n:Nat)(hn:n<=l.length):slR tP (bL tP l) 0 n=l.take n:=Ib8 tP (by rw[List.length_take];omega) λk hk=>by
 rw[Nat.zero_add,ba0 tP (by omega)]
 congr 1;simp[gL,Qiah,List.getElem?_take,hk]
theorem wd5(l:List Pln)(n:Nat)(hn:n<=l.length):okS tP (bL tP l) 0 n=true:=Ra7 tP (f:=λk=>gL tP l k) λk hk=>by rw[Nat.zero_add,ba0 tP (by omega)]
end Go.Ev.Ce
namespace Go.Ev.Ce
open Go Go.Ev Go.Ev.L Go.Proofs Go.Sort
theorem ic5(l:List Pln):List.Perm (sb2 l) l:=List.mergeSort_perm l _
theorem ld8(x y z:Pln)(h1:(!ltOf Sa3 y x)=true)(h2:(!ltOf Sa3 z y)=true):(!ltOf Sa3 z x)=true:=by
 simp only[Qiz,ya1,decide_eq_false_iff_not] at *
 unfold LtP at *
 omega
theorem ld9(x y:Pln):((!ltOf Sa3 y x)||!ltOf Sa3 x y)=true:=by
 simp only[Bool.or_eq_true,Qiz,ya1,decide_eq_false_iff_not];unfold LtP;omega
theorem Bc6(l:List Pln):(sb2 l).Pairwise λx y=>(!ltOf Sa3 y x)=true:=List.pairwise_mergeSort ld8 ld9 l
instance:DecidableEq Pln:=λx y=>decidable_of_iff _ (Fb2 x y)
def PC:List Pt:=[⟨0,0,0,1⟩,⟨0,0,1,4⟩,⟨0,1,0,3⟩,⟨1,0,0,2⟩]
end Go.Ev.Ce
namespace Go.Ev.Ce
open Go Go.Ev Go.Ev.L Go.Proofs
set_option maxRecDepth 100000
structure rb0 where
structure lb6 where
structure lb7 where
structure rb1 where
 alt:Nat
structure Nb3 where
structure Fb3 where
structure Fb4 where
structure Nb4 where
 alt:Nat
structure oc9 where
structure pc0 where
 alt:Nat
noncomputable def tb5:List (Nat×Sum):=[(16,Da1),(15,uc2)]
theorem ic6:n8 prog G tb5:=⟨Va9,Vc5,trivial⟩
structure O5 where
 is1:Int
structure o6 where
 ph:Nat
 is7:Int
 m9:List Int
 e7:Int
 ns6:Nat
 eh1:List (List a7)
noncomputable def Xa9(p:O5)(s:o6):St:=⟨.unk::i p.is1::ra 3 (.ptr 0 0 0 0::.v (.slice none 0 0)::i s.is7::ra 19 []),[⟨0,2,[[eL tI s.m9,i s.e7]],true,false,0⟩]⟩
noncomputable def Ya0(p:O5)(s:o6):St:=⟨.unk::i p.is1::ra 3 (.ptr 0 0 0 0::.sl 1 0 s.ns6 0::i s.is7::ra 19 []),[⟨0,2,[[eL tI s.m9,i s.e7]],true,false,0⟩,⟨28,3,s.eh1,true,false,0⟩]⟩
noncomputable def Vb3(p:O5)(s:o6):St:=(sel (Nat.beq s.ph 1) (Ya0 p s) (Xa9 p s))
noncomputable def ca1{α:Type}(k:o6->α)(e:Nat->α)(z:α)(p:O5)(s:o6):α:=let t1:=(L2 ⟨4,rt tI s.m9,s.e7⟩);let t2:=(Wa2 ⟨toI (hdA (i7 (l9 [[i 8],[i 8],[i 3],[i 24]] (0+t1.is0.toNat)) 0)),rt tI (rt tI s.m9),t1.e7⟩);(sl (decide (s.is7<p.is1)) (sl ((cnE tI s.m9)&&true) (sl (Nat.beq t1.alt 1) (sl (inB t1.is0 4) (sl (((Nat.blt (0+t1.is0.toNat) (len [[i 8],[i 8],[i 3],[i 24]]))&&(Nat.ble (0+1) (len (l9 [[i 8],[i 8],[i 3],[i 24]] (0+t1.is0.toNat)))))&&(Ea9 [CK.int .i64] (i7 (l9 [[i 8],[i 8],[i 3],[i 24]] (0+t1.is0.toNat)) 0))) (sl ((cnE tI (rt tI s.m9))&&true) (sl (Nat.beq t2.alt 1) (k ⟨1,W (s.is7+1),t2.m9,t2.e7,1,[[i t2.V9,i t2.W0,i t2.W4]]⟩) z) z) z) z) z) z) (e 1))
noncomputable def N2{α:Type}(k:o6->α)(e:Nat->α)(z:α)(p:O5)(s:o6):α:=let t1:=(L2 ⟨4,rt tI s.m9,s.e7⟩);let t2:=(Wa2 ⟨toI (hdA (i7 (l9 [[i 8],[i 8],[i 3],[i 24]] (0+t1.is0.toNat)) 0)),rt tI (rt tI s.m9),t1.e7⟩);(sl (decide (s.is7<p.is1)) (sl ((cnE tI s.m9)&&true) (sl (Nat.beq t1.alt 1) (sl (inB t1.is0 4) (sl (((Nat.blt (0+t1.is0.toNat) (len [[i 8],[i 8],[i 3],[i 24]]))&&(Nat.ble (0+1) (len (l9 [[i 8],[i 8],[i 3],[i 24]] (0+t1.is0.toNat)))))&&(Ea9 [CK.int .i64] (i7 (l9 [[i 8],[i 8],[i 3],[i 24]] (0+t1.is0.toNat)) 0))) (sl ((cnE tI (rt tI s.m9))&&true) (sl (Nat.beq t2.alt 1) (sl (Nat.beq s.ns6 (len s.eh1)&&Nat.ble ((s.ns6+1)*24) room) (k ⟨1,W (s.is7+1),t2.m9,t2.e7,s.ns6+1,app s.eh1 [[i t2.V9,i t2.W0,i t2.W4]]⟩) z) z) z) z) z) z) z) (e 2))
noncomputable def qa5(p:O5)(s:o6):Stp o6:=(sel (Nat.beq s.ph 1) (N2 .next .exit .fail p s) (ca1 .next .exit .fail p s))
noncomputable def Na2:Lo O5 o6:=⟨En tb5,0,pf5,[1,1,1,0,1,4,4],[1,5,6,7],.p,[⟨sUq::sIq::ru2 3 (sPq 0::.s (.o .nil)::sIq::ru2 19 []),[⟨0,2,true,some [[.c 1 (nL tI),.o (.int .i64)]]⟩],λa H=>(⟨aIq a 1⟩,⟨0,aIq a 7,hLq tI H 0 0 0,hIq H 0 0 1,0,[]⟩)⟩,⟨sUq::sIq::ru2 3 (sPq 0::.s (.o (.sl 1 0 (some 0) none))::sIq::ru2 19 []),[⟨0,2,true,some [[.c 1 (nL tI),.o (.int .i64)]]⟩,⟨28,3,true,none⟩],λa H=>(⟨aIq a 1⟩,⟨1,aIq a 7,hLq tI H 0 0 0,hIq H 0 0 1,slN (slT a 6),elT H 1⟩)⟩],qa5,[(some 0,λp s=>upq (Xa9 p s) [(11,i s.is7),(12,i p.is1),(13,b (decide (s.is7<p.is1)))]),(some 0,λp s=>upq (Ya0 p s) [(11,i s.is7),(12,i p.is1),(13,b (decide (s.is7<p.is1)))])],Vb3⟩
theorem Vb4:Na2.Ok:=Lo.ok [] (by kernel_rfl) .nil rfl (.cons (λa H=>by kernel_rfl) (.cons (λa H=>by kernel_rfl) .nil)) λp s=>(.sel (Nat.beq s.ph 1) (.of @N2 (λF _ _ _ _ _=>by unfold N2;(repeat' apply w8 (f:=F))<;>rfl) (by kernel_rfl)) (.of @ca1 (λF _ _ _ _ _=>by unfold ca1;(repeat' apply w8 (f:=F))<;>rfl) (by kernel_rfl)))
noncomputable def va6(x:List Int)(y:Int):Option (a7×List c7):=let t1:=(lp (qa5 (⟨y⟩:O5)) (⟨0,0,rt tI x,0,0,[]⟩:o6));(sl ((cnE tI x)&&true) (sl (Nat.beq t1.1 1) (some (.v (.slice none 0 0),[])) (sl (Nat.beq t1.1 2) (some (.sl 0 0 t1.2.ns6 0,[⟨28,3,t1.2.eh1,true,false,0⟩])) none)) none)
noncomputable def va7(x:List Int)(y:Int):List V3:=T8 (one (r1L tV)) (va6 x y)
noncomputable def bb6(x:List Int)(y:Int):Bool:=okO (one (r1L tV)) (va6 x y)
noncomputable def Fb5:Sum:=Oa1 (Ba4 tI) cI (λx y=>.guard (bb6 x y) (.ret ((one (r1L tV)).enc (va7 x y),[])))
theorem pc1:g9 prog G 5 Fb5:=Sb0 (bd b5 ic6) (one (r1L tV)) (o:=va6) λx y=>qb5 (.s .p (.s .p (.s .p (.s (.s .p (.b (.u Na2.ls))) .p)))) [Na2.pr] (by kernel_rfl) (.cons Vb4 .nil) (by kernel_rfl)
def Ca1(l:List Pln):Prop:=l.Pairwise LtP
theorem uc4{x y z:Pln}(h1:LtP x y)(h2:LtP y z):LtP x z:=by unfold LtP at *;omega
theorem Yb4(x:Pln):¬ LtP x x:=by unfold LtP;omega
theorem cd5(x y:Pln):LtP x y\/x=y\/LtP y x:=by
 by_cases h1:LtP x y
 ·exact .inl h1
 ·by_cases h2:LtP y x
  ·exact .inr (.inr h2)
  ·refine .inr (.inl ?_);unfold LtP at h1 h2;have e1:x.n.x=y.n.x:=by omega
   have e2:x.n.y=y.n.y:=by omega
   have e3:x.n.z=y.n.z:=by omega
   have e4:x.b=y.b:=by omega
   cases x with | mk n b=>cases y with | mk m c=>cases n;cases m;simp_all
theorem Nb5:∀{l r:List Pln},Ca1 l->Ca1 r->(∀p,p∈l↔p∈r)->l=r
 |[],[],_,_,_=>rfl
 |[],b::r,_,_,h=>by have:=(h b).2 Qid;cases this
 |a::l,[],_,_,h=>by have:=(h a).1 Qid;cases this
 |a::l,b::r,hl,hr,h=>by
  obtain⟨hl1,hl2⟩:=Qir.1 hl;obtain⟨hr1,hr2⟩:=Qir.1 hr;have hab:a=b:=by
   rcases Qia.1 ((h a).1 Qid) with e|h1
   ·exact e
   ·rcases Qia.1 ((h b).2 Qid) with e|h2
    ·exact e.symm
    ·exact absurd (uc4 (hr1 a h1) (hl1 b h2)) (Yb4 b)
  subst hab;rw[Nb5 hl2 hr2 λp=>?_]
  constructor
  ·intro hp
   rcases Qia.1 ((h p).1 (Qib _ hp)) with e|h1
   ·subst e;exact absurd (hl1 p hp) (Yb4 p)
   ·exact h1
  ·intro hp
   rcases Qia.1 ((h p).2 (Qib _ hp)) with e|h1
   ·subst e;exact absurd (hr1 p hp) (Yb4 p)
   ·exact h1
def Bc7:List Pln->Pln->List Pln
 |[],y=>[y]
 |a::l,y=>if Sa3 a y<0 then a::Bc7 l y else if eqP a y then a::l else y::a::l
theorem lb8(y p:Pln):∀x,p∈Bc7 x y↔p=y\/p∈x
 |[]=>by simp[Bc7]
 |a::l=>by
  unfold Bc7;have ih:=lb8 y p l;split
  ·simp only[Qia,ih];constructor
   ·rintro (h|h|h)
    ·exact .inr (.inl h)
    ·exact .inl h
    ·exact .inr (.inr h)
   ·rintro (h|h|h)
    ·exact .inr (.inl h)
    ·exact .inl h
    ·exact .inr (.inr h)
  ·split
   ·rename_i h;rw[Fb2] at h;subst h;simp only[Qia];constructor
    ·exact λh=>.inr h
    ·rintro (h|h)
     ·exact .inl h
     ·exact h
   ·simp only[Qia]
theorem Fb6(y:Pln):∀{x},Ca1 x->Ca1 (Bc7 x y)
 |[],_=>List.pairwise_singleton _ _
 |a::l,h=>by
  obtain⟨h1,h2⟩:=Qir.1 h;unfold Bc7;split
  ·rename_i hc;rw[Ac9] at hc;refine Qir.2 ⟨λp hp=>?_,Fb6 y h2⟩
   rcases (lb8 y p l).1 hp with e|hp
   ·subst e;exact hc
   ·exact h1 p hp
  ·rename_i hc;rw[Ac9] at hc;split
   ·exact h
   ·rename_i hne;have hlt:LtP y a:=by
     rcases cd5 y a with h|h|h
     ·exact h
     ·exact absurd ((Fb2 _ _).2 h.symm) hne
     ·exact absurd h hc
    refine Qir.2 ⟨λp hp=>?_,h⟩
    rcases Qia.1 hp with e|hp
    ·subst e;exact hlt
    ·exact uc4 hlt (h1 p hp)
theorem md0:sb2 []=[]:=List.eq_nil_of_length_eq_zero (ob8 [])
end Go.Ev.Ce
namespace Go.Ev.Ce
def rmZ(p:Pln)(x:Pt):Int:=p.b*x.pw-(p.n.x*x.px+p.n.y*x.py+p.n.z*x.pz)
structure Inr(r:List Pln)(x:Pt):Prop where
 w:0<x.pw
 h:∀p∈r,0<=rmZ p x
def U3(p:Pln):Pln:=⟨⟨-p.n.x,-p.n.y,-p.n.z⟩,-p.b⟩
theorem Na3(p:Pln)(x:Pt):rmZ (U3 p) x=-rmZ p x:=by unfold rmZ U3;grind
structure Cn(r:List Pln)(x:Pt):Prop extends Inr r x where
 c:∃p q s,p∈r/\q∈r/\s∈r/\mw p q s≠0/\rmZ p x=0/\rmZ q x=0/\rmZ s x=0
def Bdd(r:List Pln):Prop:=∀d:V3,d≠⟨0,0,0⟩->∃p∈r,0<dot p.n d
def go(x:Pt)(q:Pln)(d:V3):Pt:=⟨x.px*dot q.n d+rmZ q x*d.x,x.py*dot q.n d+rmZ q x*d.y,x.pz*dot q.n d+rmZ q x*d.z,x.pw*dot q.n d⟩
theorem Mc4(p q:Pln)(x:Pt)(d:V3):rmZ p (go x q d)=dot q.n d*rmZ p x-rmZ q x*dot p.n d:=by simp only[rmZ,go,dot];grind
theorem Aa7{a b c:Int}(hc:0<c)(h:a*c<=b*c):a<=b:=Int.le_of_mul_le_mul_right h hc
theorem first(x:Pt)(d:V3):∀r:List Pln,(∀p∈r,0<=rmZ p x)->(∃p∈r,0<dot p.n d)->∃q∈r,0<dot q.n d/\∀p∈r,0<dot p.n d->rmZ q x*dot p.n d<=rmZ p x*dot q.n d
 |[],_,h=>by obtain⟨p,hp,_⟩:=h;cases hp
 |a::r,hx,h=>by
  by_cases hr:∃p∈r,0<dot p.n d
  ·obtain⟨q,hq,h1,h2⟩:=first x d r (λp hp=>hx p (Qib _ hp)) hr
   by_cases ha:0<dot a.n d
   ·by_cases hc:rmZ q x*dot a.n d<=rmZ a x*dot q.n d
    ·refine⟨q,Qib _ hq,h1,λp hp h3=>?_⟩
     rcases Qia.1 hp with rfl|hp
     ·exact hc
     ·exact h2 p hp h3
    ·refine⟨a,Qid,ha,λp hp h3=>?_⟩
     rcases Qia.1 hp with rfl|hp
     ·exact Int.le_refl _
     ·have h4:=h2 p hp h3;have h5:rmZ a x*dot q.n d<rmZ q x*dot a.n d:=by omega
      have h6:=Qis h4 (Qie ha);have h7:=Int.mul_lt_mul_of_pos_right h5 h3;have e1:rmZ q x*dot p.n d*dot a.n d=rmZ q x*dot a.n d*dot p.n d:=by grind
      have e2:rmZ a x*dot q.n d*dot p.n d=rmZ a x*dot p.n d*dot q.n d:=by grind
      have e3:rmZ p x*dot q.n d*dot a.n d=rmZ p x*dot a.n d*dot q.n d:=by grind
      refine Aa7 h1 ?_;omega
   ·refine⟨q,Qib _ hq,h1,λp hp h3=>?_⟩
    rcases Qia.1 hp with rfl|hp
    ·exact absurd h3 ha
    ·exact h2 p hp h3
  ·have ha : 0 < dot a.n d := by
    obtain⟨p,hp,h3⟩:=h
    rcases Qia.1 hp with rfl|hp
    ·exact h3
    ·exact absurd ⟨p,hp,h3⟩ hr
   refine⟨a,Qid,ha,λp hp h3=>?_⟩
   rcases Qia.1 hp with rfl|hp
   ·exact Int.le_refl _
   ·exact absurd ⟨p,hp,h3⟩ hr
theorem step{r:List Pln}{x:Pt}(hx:Inr r x)(d:V3)(h:∃p∈r,0<dot p.n d):∃q∈r,0<dot q.n d/\Inr r (go x q d):=by
 obtain⟨q,hq,h1,h2⟩:=first x d r hx.h h;refine⟨q,hq,h1,⟨Qip hx.w h1,λp hp=>?_⟩⟩
 rw[Mc4];have h3:=hx.h p hp;have h4:=hx.h q hq;by_cases h5:0<dot p.n d
 ·have:=h2 p hp h5
  have e:rmZ p x*dot q.n d=dot q.n d*rmZ p x:=Int.mul_comm _ _;omega
 ·have h6:=Qig (Qie h1) h3;have h7:rmZ q x*dot p.n d<=0:=Int.mul_nonpos_of_nonneg_of_nonpos h4 (by omega)
  omega
theorem wd6{h q:Pln}{x:Pt}{d:V3}(h1:0<=rmZ q x)(h2:0<=dot h.n d):rmZ h (go x q d)*x.pw<=rmZ h x*(go x q d).pw\/x.pw<=0:=by
 rcases Int.lt_or_le 0 x.pw with hw|hw
 ·left;rw[Mc4]
  have:=Qig h1 h2
  have h3:=Qig this (Qie hw);have e:rmZ h x*(go x q d).pw=dot q.n d*rmZ h x*x.pw:=by unfold go;grind
  have e2:(dot q.n d*rmZ h x-rmZ q x*dot h.n d)*x.pw=dot q.n d*rmZ h x*x.pw-rmZ q x*dot h.n d*x.pw:=by grind
  omega
 ·exact .inr hw
def neg(d:V3):V3:=⟨-d.x,-d.y,-d.z⟩
theorem Yb5(a d:V3):dot a (neg d)=-dot a d:=by unfold dot neg;grind
theorem Bc8{d:V3}(h:d≠⟨0,0,0⟩):neg d≠⟨0,0,0⟩:=λh'=>h (by
 cases d;unfold neg at h';simp only[V3.mk.injEq] at h' ⊢;omega)
theorem turn(h:Pln){d:V3}(hd:d≠⟨0,0,0⟩):∃e,e≠(⟨0,0,0⟩:V3)/\0<=dot h.n e/\∀a,dot a d=0->dot a e=0:=by
 by_cases h1:0<=dot h.n d
 ·exact⟨d,hd,h1,λ_ h=>h⟩
 ·exact⟨neg d,Bc8 hd,by rw[Yb5];omega,λa h=>by rw[Yb5,h];rfl⟩
theorem perp{n:V3}(hn:n≠⟨0,0,0⟩):∃d,d≠(⟨0,0,0⟩:V3)/\dot n d=0:=by
 by_cases h:n.x=0/\n.y=0
 ·exact⟨⟨1,0,0⟩,by simp,by unfold dot;simp[h.1]⟩
 ·refine⟨⟨n.y,-n.x,0⟩,λh'=>h ?_,by unfold dot;grind⟩
  simp only[V3.mk.injEq] at h';omega
theorem V3.ext'{a b:V3}(h1:a.x=b.x)(h2:a.y=b.y)(h3:a.z=b.z):a=b:=by cases a;cases b;simp_all
theorem Mc5{m n d:V3}(hm:m≠⟨0,0,0⟩)(h1:dot m d=0)(h2:dot n d≠0):a8 m n≠⟨0,0,0⟩:=λh=>by
 unfold a8 at h;simp only[V3.mk.injEq] at h;obtain⟨c1,c2,c3⟩:=h;unfold dot at h1 h2;have e1:m.x*(n.x*d.x+n.y*d.y+n.z*d.z)=0:=by grind
 have e2:m.y*(n.x*d.x+n.y*d.y+n.z*d.z)=0:=by grind
 have e3:m.z*(n.x*d.x+n.y*d.y+n.z*d.z)=0:=by grind
 have k:∀{a:Int},a*(n.x*d.x+n.y*d.y+n.z*d.z)=0->a=0:=λh=>(Qic.1 h).resolve_right h2
 exact hm (V3.ext' (k e1) (k e2) (k e3))
theorem Qb4(a b:V3):dot a (a8 a b)=0:=by unfold dot a8;grind
theorem Qb5(a b:V3):dot b (a8 a b)=0:=by unfold dot a8;grind
theorem wd7{p q:Pln}{x:Pt}{d:V3}(h:rmZ p x=0)(h':dot p.n d=0):rmZ p (go x q d)=0:=by rw[Mc4,h,h'];simp
theorem wd8(q:Pln)(x:Pt)(d:V3):rmZ q (go x q d)=0:=by rw[Mc4];grind
theorem he5{q:Pln}{d:V3}(h:0<dot q.n d):q.n≠⟨0,0,0⟩:=λh'=>by rw[h'] at h;unfold dot at h;simp at h
theorem Rd8{a b c u v w:Int}(hu:0<u)(hv:0<v)(hw:0<w)(h1:a*v<=b*u)(h2:b*w<=c*v):a*w<=c*u:=by
 have h3:=Qis h1 (Qie hw);have h4:=Qis h2 (Qie hu);have e1:a*v*w=a*w*v:=by grind
 have e2:b*u*w=b*w*u:=by grind
 have e3:c*v*u=c*u*v:=by grind
 exact Aa7 hv (by omega)
theorem Wc2{r:List Pln}(hb:Bdd r)(h:Pln){x:Pt}(hx:Inr r x):∃v,Cn r v/\rmZ h v*x.pw<=rmZ h x*v.pw:=by
 obtain⟨d0,n0,p0,_⟩:=turn h (d:=⟨1,0,0⟩) (by simp)
 obtain⟨q1,m1,k1,i1⟩:=step hx d0 (hb d0 n0);have l1:=(wd6 (h:=h) (x:=x) (hx.h q1 m1) p0).resolve_right (by have:=hx.w;omega)
 obtain⟨e1,ne1,he1⟩:=perp (he5 k1);obtain⟨d1,n1,p1,z1⟩:=turn h ne1;obtain⟨q2,m2,k2,i2⟩:=step i1 d1 (hb d1 n1);have l2:=(wd6 (h:=h) (x:=go x q1 d0) (i1.h q2 m2) p1).resolve_right (by have:=i1.w;omega)
 have hc:=Mc5 (he5 k1) (z1 _ he1) (n:=q2.n) (by omega)
 obtain⟨d2,n2,p2,z2⟩:=turn h hc;obtain⟨q3,m3,k3,i3⟩:=step i2 d2 (hb d2 n2);have l3:=(wd6 (h:=h) (x:=go (go x q1 d0) q2 d1) (i2.h q3 m3) p2).resolve_right (by have:=i2.w;omega)
 have a1:rmZ q1 (go (go x q1 d0) q2 d1)=0:=wd7 (wd8 _ _ _) (z1 _ he1);refine⟨_,⟨i3,q3,q1,q2,m3,m1,m2,λh0=>?_,wd8 _ _ _,wd7 a1 (z2 _ (Qb4 _ _)),wd7 (wd8 _ _ _) (z2 _ (Qb5 _ _))⟩,?_⟩
 ·have:dot q3.n d2=0:=z2 _ h0
  omega
 ·exact Rd8 i3.w i2.w hx.w l3 (Rd8 i2.w i1.w hx.w l2 l1)
theorem fa4{r:List Pln}(hb:Bdd r){h:Pln}(hv:∀v,Cn r v->0<=rmZ h v){x:Pt}(hx:Inr r x):0<=rmZ h x:=by
 obtain⟨v,h1,h2⟩:=Wc2 hb h hx;have h3:=Qig (hv v h1) (Qie hx.w);exact Aa7 h1.w (by rw[Qiv];omega)
def mid(x y:Pt):Pt:=⟨x.px*y.pw+y.px*x.pw,x.py*y.pw+y.py*x.pw,x.pz*y.pw+y.pz*x.pw,2*(x.pw*y.pw)⟩
theorem wd9(p:Pln)(x y:Pt):rmZ p (mid x y)=rmZ p x*y.pw+rmZ p y*x.pw:=by unfold rmZ mid;grind
theorem Inr.mid{r:List Pln}{x y:Pt}(hx:Inr r x)(hy:Inr r y):Inr r (mid x y):=⟨by unfold Ce.mid;exact Qip (by decide) (Qip hx.w hy.w),λp hp=>by
 rw[wd9];exact Int.add_nonneg (Qig (hx.h p hp) (Qie hy.w)) (Qig (hy.h p hp) (Qie hx.w))⟩
def xd0(r:List Pln):Prop:=∃x:Pt,0<x.pw/\∀p∈r,0<rmZ p x
theorem cd6{r:List Pln}:∀(l:List Pln),(∀p∈l,p∈r)->(∃x,Inr r x)->(∀p∈l,∃v,Inr r v/\0<rmZ p v)->∃x,Inr r x/\∀p∈l,0<rmZ p x
 |[],_,h,_=>by obtain⟨x,h⟩:=h;exact⟨x,h,λp hp=>by cases hp⟩
 |a::l,hl,h,hv=>by
  obtain⟨x,h1,h2⟩:=cd6 l (λp hp=>hl p (Qib _ hp)) h (λp hp=>hv p (Qib _ hp))
  obtain⟨y,h3,h4⟩:=hv a Qid;refine⟨mid x y,h1.mid h3,λp hp=>?_⟩
  rw[wd9]
  rcases Qia.1 hp with rfl|hp
  ·have:=Qig (h1.h p (hl p Qid)) (Qie h3.w)
   have:=Qip h4 h1.w
   omega
  ·have:=Qip (h2 p hp) h3.w
   have:=Qig (h3.h p (hl p (Qib _ hp))) (Qie h1.w)
   omega
theorem xd1{r:List Pln}(hb:Bdd r)(h0:r≠[]):xd0 r↔∀p∈r,∃v,Cn r v/\0<rmZ p v:=by
 constructor
 ·intro ⟨x,hw,hx⟩ p hp;by_cases h:∃v,Cn r v/\0<rmZ p v
  ·exact h
  ·have hx':Inr r x:=⟨hw,λq hq=>Qie (hx q hq)⟩
   have:=fa4 hb (h:=U3 p) (λv hv=>by
    rw[Na3]
    have:¬ 0<rmZ p v:=λh'=>h ⟨v,hv,h'⟩
    omega) hx'
   rw[Na3] at this
   have:=hx p hp
   omega
 ·intro h;obtain⟨p,hp⟩:=List.exists_mem_of_ne_nil r h0;obtain⟨v,hv,_⟩:=h p hp;obtain⟨x,h1,h2⟩:=cd6 r (λ_ h=>h) ⟨v,hv.toInr⟩ λp hp=>by
   obtain⟨v,hv,h⟩:=h p hp;exact⟨v,hv.toInr,h⟩
  exact⟨x,h1.w,h2⟩
structure Eqv(x v:Pt):Prop where
 e1:x.px*v.pw=v.px*x.pw
 e2:x.py*v.pw=v.py*x.pw
 e3:x.pz*v.pw=v.pz*x.pw
theorem Eqv.rm{x v:Pt}(h:Eqv x v)(p:Pln):rmZ p x*v.pw=rmZ p v*x.pw:=by
 obtain⟨e1,e2,e3⟩:=h;unfold rmZ
 grind
theorem Eqv.inr{r:List Pln}{x v:Pt}(h:Eqv x v)(hw:0<x.pw)(hv:Inr r v):Inr r x:=⟨hw,λp hp=>by
 have:=h.rm p
 have h2:=Qig (hv.h p hp) (Qie hw);exact Aa7 hv.w (by rw[Qiv];omega)⟩
end Go.Ev.Ce
namespace Go.Ev.Ce
open Go Go.Ev Go.Ev.L Go.Proofs
theorem Ld5{p:Pln}{x:Pt}(hp:Bd p)(hx:Okx x):rm p x=rmZ p x:=by
 unfold rm rmZ;obtain⟨w1,w2,⟨a1,a2⟩,⟨a3,a4⟩,a5,a6⟩:=hx;have h0:=mb hp.b1 hp.b2 (show -600000000000<=x.pw by omega) w2
 have h1:=mb hp.x1 hp.x2 a1 a2;have h2:=mb hp.y1 hp.y2 a3 a4;have h3:=mb hp.z1 hp.z2 a5 a6;exact na2 (by omega) (by omega)
theorem cd7{r:List Pln}(hb:Bds r){x:Pt}(hx:Okx x):inn r x=true↔Inr r x:=by
 unfold inn;rw[Qij];constructor
 ·intro h;refine⟨hx.w1,λp hp=>?_⟩
  have:=h p hp
  rw[Ld5 (hb p hp) hx] at this;simpa using this
 ·intro h p hp;rw[Ld5 (hb p hp) hx];simpa using h.h p hp
theorem Rd9{p q s:Pln}(h:(mpt p q s).2=true):mw p q s≠0/\∃k:Int,k≠0/\k*(mpt p q s).1.px=(mv p q s).x/\k*(mpt p q s).1.py=(mv p q s).y/\k*(mpt p q s).1.pz=(mv p q s).z/\k*(mpt p q s).1.pw=mw p q s:=by
 unfold mpt at h ⊢;by_cases h0:mw p q s=0
 ·rw[if_pos h0] at h;cases h
 refine⟨h0,?_⟩;have hg:=Vc7 (v:=mv p q s) h0;have dv:∀{x:Int},(gc (mv p q s) (mw p q s))∣x->gc (mv p q s) (mw p q s)*Int.tdiv x (gc (mv p q s) (mw p q s))=x:=λh=>Qiw h
 have d1:gc (mv p q s) (mw p q s)∣(mv p q s).x:=by
  rw[<- Qiu];exact Qil.2 (Qim (Qik _ _) (Qik _ _))
 have d2:gc (mv p q s) (mw p q s)∣(mv p q s).y:=by
  rw[<- Qiu];exact Qil.2 (Qim (Qik _ _) (Qii _ _))
 have d3:gc (mv p q s) (mw p q s)∣(mv p q s).z:=by
  rw[<- Qiu];exact Qil.2 (Qim (Qii _ _) (Qik _ _))
 have d4:gc (mv p q s) (mw p q s)∣mw p q s:=by
  rw[<- Qiu];exact Qil.2 (Qim (Qii _ _) (Qii _ _))
 rw[if_neg h0];by_cases h1:mw p q s<0
 ·rw[if_pos h1];have e:∀{x:Int},(gc (mv p q s) (mw p q s))∣x->-(gc (mv p q s) (mw p q s))*Int.tdiv (-x) (gc (mv p q s) (mw p q s))=x:=λ{x} h=>by
   rw[Qiak,dv ((Int.dvd_neg).2 h),Int.neg_neg]
  exact⟨-(gc (mv p q s) (mw p q s)),by omega,e d1,e d2,e d3,e d4⟩
 ·rw[if_neg h1];exact⟨gc (mv p q s) (mw p q s),by omega,dv d1,dv d2,dv d3,dv d4⟩
theorem xd2{p q s:Pln}(h:(mpt p q s).2=true):rmZ p (mpt p q s).1=0/\rmZ q (mpt p q s).1=0/\rmZ s (mpt p q s).1=0:=by
 obtain⟨_,k,hk,e1,e2,e3,e4⟩:=Rd9 h;generalize (mpt p q s).1=x at *
 have f:∀a:Pln,a.b*mw p q s-(a.n.x*(mv p q s).x+a.n.y*(mv p q s).y+a.n.z*(mv p q s).z)=0->rmZ a x=0:=λa ha=>by
  rw[<- e1,<- e2,<- e3,<- e4] at ha
  have:k*rmZ a x=0:=by rw[<- ha];unfold rmZ;grind
  exact (Qic.1 this).resolve_left hk
 refine⟨f p ?_,f q ?_,f s ?_⟩<;>(simp only[mw,mv,dot,a8];grind)
theorem Ld6{p q s:Pln}(h:mw p q s≠0):(mpt p q s).2=true:=by
 unfold mpt;rw[if_neg h]
 split<;>rfl
theorem xd3{p q s:Pln}{x:Pt}(h1:rmZ p x=0)(h2:rmZ q x=0)(h3:rmZ s x=0):mw p q s*x.px=(mv p q s).x*x.pw/\mw p q s*x.py=(mv p q s).y*x.pw/\mw p q s*x.pz=(mv p q s).z*x.pw:=by
 have i1:(mv p q s).x*x.pw-mw p q s*x.px=(a8 q.n s.n).x*rmZ p x+(a8 s.n p.n).x*rmZ q x+(a8 p.n q.n).x*rmZ s x:=by simp only[mw,mv,dot,a8,rmZ];grind
 have i2:(mv p q s).y*x.pw-mw p q s*x.py=(a8 q.n s.n).y*rmZ p x+(a8 s.n p.n).y*rmZ q x+(a8 p.n q.n).y*rmZ s x:=by simp only[mw,mv,dot,a8,rmZ];grind
 have i3:(mv p q s).z*x.pw-mw p q s*x.pz=(a8 q.n s.n).z*rmZ p x+(a8 s.n p.n).z*rmZ q x+(a8 p.n q.n).z*rmZ s x:=by simp only[mw,mv,dot,a8,rmZ];grind
 rw[h1,h2,h3] at i1 i2 i3;simp only[Qiaj,Int.add_zero] at i1 i2 i3;omega
theorem Yd7{p q s:Pln}{x v:Pt}(h:mw p q s≠0)(h1:rmZ p x=0)(h2:rmZ q x=0)(h3:rmZ s x=0)(k1:rmZ p v=0)(k2:rmZ q v=0)(k3:rmZ s v=0):Eqv x v:=by
 obtain⟨a1,a2,a3⟩:=xd3 h1 h2 h3;obtain⟨c1,c2,c3⟩:=xd3 k1 k2 k3;have f:∀{a c m:Int},mw p q s*a=m*x.pw->mw p q s*c=m*v.pw->a*v.pw=c*x.pw:=λ{a c m} ha hc=>by
  have:mw p q s*(a*v.pw-c*x.pw)=0:=by grind
  have:=(Qic.1 this).resolve_left h
  omega
 exact⟨f a1 c1,f a2 c2,f a3 c3⟩
theorem md1{r:List Pln}{p q:Pln}{out:List Pt}{s:Pln}{x:Pt}(h:x∈out):x∈Eb9 r p q out s:=by
 unfold Eb9;split
 ·exact Qiab _ h
 ·exact h
theorem ic7{r:List Pln}{p q:Pln}{x:Pt}:∀{l:List Pln} {out:List Pt},x∈out->x∈ld5 r p q l out
 |[],_,h=>h
 |s::l,out,h=>ic7 (l:=l) (out:=Eb9 r p q out s) (md1 h)
theorem Fb7{r:List Pln}{p:Pln}{x:Pt}:∀{l:List Pln} {out:List Pt},x∈out->x∈Mc0 r p l out
 |[],_,h=>h
 |_::l,_,h=>Fb7 (l:=l) (ic7 h)
theorem Mc6{r:List Pln}{x:Pt}:∀{l:List Pln} {out:List Pt},x∈out->x∈Vc9 r l out
 |[],_,h=>h
 |_::l,_,h=>Mc6 (l:=l) (Fb7 h)
theorem md2{r:List Pln}{p q:Pln}{out:List Pt}{s:Pln}(h1:(mpt p q s).2=true)(h2:inn r (mpt p q s).1=true):(mpt p q s).1∈Eb9 r p q out s:=by
 unfold Eb9;rw[h1,h2];cases h:Kd8 out (mpt p q s).1 with
 |true=>simpa using (vd5 _ _).1 h
 |false=>simp
theorem ic8{r:List Pln}{p q s:Pln}(h1:(mpt p q s).2=true)(h2:inn r (mpt p q s).1=true):∀{l:List Pln} {out:List Pt},s∈l->(mpt p q s).1∈ld5 r p q l out
 |[],_,h=>by cases h
 |t::l,out,h=>by
  show _∈ld5 r p q l (Eb9 r p q out t)
  rcases Qia.1 h with rfl|h
  ·exact ic7 (md2 h1 h2)
  ·exact ic8 h1 h2 h
structure Hit(r:List Pln)(Q:Pt->Prop)(p q s:Pln):Prop where
 h1:(mpt p q s).2=true
 h2:inn r (mpt p q s).1=true
 h3:Q (mpt p q s).1
theorem Mc7{r:List Pln}{Q:Pt->Prop}{p q s:Pln}(hq:Hit r Q p q s)(hs:Hit r Q p s q)(hne:q≠s):∀{l:List Pln} {out:List Pt},q∈l->s∈l->∃x∈Mc0 r p l out,Q x
 |[],_,h,_=>by cases h
 |t::l,out,hql,hsl=>by
  show ∃x∈Mc0 r p l (ld5 r p t l out),Q x
  rcases Qia.1 hql with rfl|h1
  ·have h2:=(Qia.1 hsl).resolve_left λh=>hne h.symm
   exact⟨_,Fb7 (ic8 hq.h1 hq.h2 h2),hq.h3⟩
  ·rcases Qia.1 hsl with rfl|h2
   ·exact⟨_,Fb7 (ic8 hs.h1 hs.h2 h1),hs.h3⟩
   ·exact Mc7 hq hs hne (l:=l) h1 h2
theorem Mc8 {r : List Pln} {Q : Pt → Prop} {p q s : Pln} (H : ∀ a c d, (a = p ∨ a = q ∨ a = s) → (c = p ∨ c = q ∨ c = s) → (d = p ∨ d = q ∨ d = s) → a ≠ c → c ≠ d → a ≠ d → Hit r Q a c d) (h1 : p ≠ q) (h2 : q ≠ s) (h3 : p ≠ s) :
  ∀{l:List Pln} {out:List Pt},p∈l->q∈l->s∈l->∃x∈Vc9 r l out,Q x
 |[],_,h,_,_=>by cases h
 |t::l,out,hp,hq,hs=>by
  have fin:∀{a c d:Pln} {out:List Pt},(a=p\/a=q\/a=s)->(c=p\/c=q\/c=s)->(d=p\/d=q\/d=s)->a≠c->c≠d->a≠d->c∈l->d∈l->∃x∈Vc9 r l (Mc0 r a l out),Q x:=λha hc hd n1 n2 n3 m1 m2=>by
   obtain⟨x,hx,hQ⟩:=Mc7 (H _ _ _ ha hc hd n1 n2 n3) (H _ _ _ ha hd hc n3 n2.symm n1) n2 (out:=_) m1 m2;exact⟨x,Mc6 hx,hQ⟩
  show ∃x∈Vc9 r l (Mc0 r t l out),Q x
  rcases Qia.1 hp with rfl|hp'
  ·exact fin (.inl rfl) (.inr (.inl rfl)) (.inr (.inr rfl)) h1 h2 h3 ((Qia.1 hq).resolve_left (Ne.symm h1)) ((Qia.1 hs).resolve_left (Ne.symm h3))
  ·rcases Qia.1 hq with rfl|hq'
   ·exact fin (.inr (.inl rfl)) (.inl rfl) (.inr (.inr rfl)) (Ne.symm h1) h3 h2 hp' ((Qia.1 hs).resolve_left (Ne.symm h2))
   ·rcases Qia.1 hs with rfl|hs'
    ·exact fin (.inr (.inr rfl)) (.inl rfl) (.inr (.inl rfl)) (Ne.symm h3) h1 (Ne.symm h2) hp' hq'
    ·exact Mc8 H h1 h2 h3 hp' hq' hs'
theorem he6{p q s:Pln}(h:mw p q s≠0):p≠q/\q≠s/\p≠s:=by
 refine⟨λe=>h ?_,λe=>h ?_,λe=>h ?_⟩<;>(subst e;simp only[mw,dot,a8];grind)
theorem Yd8{r:List Pln}(hb:Bds r):∀x∈cor r,Cn r x:=cd2 λp hp q hq s hs h hi=>by
 obtain⟨w1,w2,w3,w4,w5⟩:=Vc8 (hb p hp) (hb q hq) (hb s hs) h;obtain⟨e1,e2,e3⟩:=xd2 h;exact⟨(cd7 hb ⟨w1,w5,w2,w3,w4⟩).1 hi,p,q,s,hp,hq,hs,(Rd9 h).1,e1,e2,e3⟩
theorem Yd9{r:List Pln}(hb:Bds r){v:Pt}(hv:Cn r v):∃x∈cor r,Eqv x v:=by
 obtain⟨p,q,s,hp,hq,hs,hw,e1,e2,e3⟩:=hv.c;obtain⟨n1,n2,n3⟩:=he6 hw;refine Mc8 (λa c d ha hc hd m1 m2 m3=>?_) n1 n2 n3 hp hq hs
 have hm:∀{a},(a=p\/a=q\/a=s)->a∈r/\rmZ a v=0:=λh=>by
  rcases h with rfl|rfl|rfl
  ·exact⟨hp,e1⟩
  ·exact⟨hq,e2⟩
  ·exact⟨hs,e3⟩
 have hw':mw a c d≠0:=by
  have k:mw a c d=mw p q s\/mw a c d=-mw p q s:=by
   rcases ha with rfl|rfl|rfl<;>rcases hc with rfl|rfl|rfl<;>rcases hd with rfl|rfl|rfl<;>first|exact absurd rfl m1|exact absurd rfl m2|exact absurd rfl m3|exact .inl rfl|(left;simp only[mw,dot,a8];grind;done)|(right;simp only[mw,dot,a8];grind;done)
  rcases k with k|k<;>omega
 have h:=Ld6 hw';obtain⟨w1,w2,w3,w4,w5⟩:=Vc8 (hb a (hm ha).1) (hb c (hm hc).1) (hb d (hm hd).1) h;obtain⟨f1,f2,f3⟩:=xd2 h;have he:=Yd7 hw' f1 f2 f3 (hm ha).2 (hm hc).2 (hm hd).2;exact⟨h,(cd7 hb ⟨w1,w5,w2,w3,w4⟩).2 (he.inr w1 hv.toInr),he⟩
theorem xd4(c:List Pln):Bdd (c++ws):=λd hd=>by
 have k:∀{n:V3} {m:Int},(⟨n,m⟩:Pln)∈ws->0<dot n d->∃p∈c++ws,0<dot p.n d:=λh h'=>⟨_,List.mem_append_right _ h,h'⟩
 by_cases h1:0<d.x
 ·exact k (n:=⟨1,0,0⟩) (m:=24) (by simp[ws]) (by unfold dot;simp;omega)
 by_cases h2:d.x<0
 ·exact k (n:=⟨-1,0,0⟩) (m:=24) (by simp[ws]) (by unfold dot;simp;omega)
 by_cases h3:0<d.y
 ·exact k (n:=⟨0,1,0⟩) (m:=24) (by simp[ws]) (by unfold dot;simp;omega)
 by_cases h4:d.y<0
 ·exact k (n:=⟨0,-1,0⟩) (m:=24) (by simp[ws]) (by unfold dot;simp;omega)
 by_cases h5:0<d.z
 ·exact k (n:=⟨0,0,1⟩) (m:=24) (by simp[ws]) (by unfold dot;simp;omega)
 by_cases h6:d.z<0
 ·exact k (n:=⟨0,0,-1⟩) (m:=24) (by simp[ws]) (by unfold dot;simp;omega)
 exact absurd (V3.ext' (by show d.x=0;omega) (by show d.y=0;omega) (by show d.z=0;omega)) hd
theorem cd8{r:List Pln}(hb:Bds r){p:Pln}(hp:Bd p):pos (cor r) p=true↔∃v,Cn r v/\0<rmZ p v:=by
 unfold pos;rw[Qiq];constructor
 ·rintro⟨x,hx,h⟩;rw[Ld5 hp (Bc5 hb x hx)] at h;exact⟨x,Yd8 hb x hx,by simpa using h⟩
 ·rintro⟨v,hv,h⟩;obtain⟨x,hx,he⟩:=Yd9 hb hv;refine⟨x,hx,?_⟩;rw[Ld5 hp (Bc5 hb x hx)];have h1:=he.rm p;have h2:=Qip h (Bc5 hb x hx).w1
  have:0<rmZ p x:=Int.lt_of_mul_lt_mul_right (by rw[Qiv];omega:0*v.pw<rmZ p x*v.pw) (Qie hv.w)
  simpa using this
theorem md3{r:List Pln}(hb:Bds r)(hd:Bdd r)(h0:r≠[]):Ld1 r=true↔xd0 r:=by
 rw[xd1 hd h0];unfold Ld1;rw[Qij];exact⟨λh p hp=>(cd8 hb (hb p hp)).1 (h p hp),λh p hp=>(cd8 hb (hb p hp)).2 (h p hp)⟩
end Go.Ev.Ce
namespace Go.Ev.Ce
def dv(z v:Pt):V3:=⟨v.px*z.pw-z.px*v.pw,v.py*z.pw-z.py*v.pw,v.pz*z.pw-z.pz*v.pw⟩
def thr(n:V3)(z:Pt):Pln:=⟨⟨z.pw*n.x,z.pw*n.y,z.pw*n.z⟩,n.x*z.px+n.y*z.py+n.z*z.pz⟩
theorem xd5(n:V3)(z x:Pt):rmZ (thr n z) x=-dot n (dv z x):=by simp only[rmZ,thr,dot,dv];grind
theorem xd6{p:Pln}{z v:Pt}(hz:rmZ p z≠0)(hv:rmZ p v=0)(hw:0<v.pw):dv z v≠⟨0,0,0⟩:=λh=>by
 unfold dv at h;simp only[V3.mk.injEq] at h;obtain⟨e1,e2,e3⟩:=h
 have:rmZ p z*v.pw=rmZ p v*z.pw:=by unfold rmZ;grind
 rw[hv,Qiv] at this;exact (Qic.1 this).elim hz (by omega)
theorem Zd0{p:Pln}{z:Pt}(hz:rmZ p z≠0):∀l:List Pt,l.length<=2->(∀v∈l,rmZ p v=0/\0<v.pw)->∃n,n≠(⟨0,0,0⟩:V3)/\∀v∈l,dot n (dv z v)=0
 |[],_,_=>⟨⟨1,0,0⟩,by simp,λv h=>by cases h⟩
 |[v],_,h=>by
  obtain⟨h1,h2⟩:=h v (by simp)
  obtain⟨d,hd,he⟩:=perp (xd6 hz h1 h2);exact⟨d,hd,λu hu=>by rw[List.mem_singleton.1 hu,<- he];unfold dot;grind⟩
 |[v,u],_,h=>by
  obtain⟨h1,h2⟩:=h v (by simp)
  by_cases hc:a8 (dv z v) (dv z u)=⟨0,0,0⟩
  ·obtain⟨d,hd,he⟩:=perp (xd6 hz h1 h2);have hu:dot (dv z u) d=0:=by
    by_cases h0:dot (dv z u) d=0
    ·exact h0
    ·exact absurd hc (Mc5 (xd6 hz h1 h2) he h0)
   refine⟨d,hd,λx hx=>?_⟩
   simp only[Qia,Qiaa,or_false] at hx
   rcases hx with rfl|rfl
   ·rw[<- he];unfold dot;grind
   ·rw[<- hu];unfold dot;grind
  ·refine⟨_,hc,λx hx=>?_⟩
   simp only[Qia,Qiaa,or_false] at hx
   rcases hx with rfl|rfl
   ·rw[<- Qb4 (dv z x) (dv z u)];unfold dot;grind
   ·rw[<- Qb5 (dv z v) (dv z x)];unfold dot;grind
 |_::_::_::_,h,_=>by simp at h
def Zd1(p:Pln)(z v:Pt):Pt:=⟨rmZ p v*z.px-rmZ p z*v.px,rmZ p v*z.py-rmZ p z*v.py,rmZ p v*z.pz-rmZ p z*v.pz,rmZ p v*z.pw-rmZ p z*v.pw⟩
theorem Bc9(p q:Pln)(z v:Pt):rmZ q (Zd1 p z v)=rmZ p v*rmZ q z-rmZ p z*rmZ q v:=by
 generalize ha:rmZ p v=a;generalize hb:rmZ p z=c;simp only[rmZ,Zd1] at *
 rw[ha,hb]
 grind
theorem xd7{r:List Pln}(hb:Bdd r)(hB:xd0 r){h:Pln}(hn:h.n≠⟨0,0,0⟩):¬ ∀x,Inr r x->rmZ h x=0:=λH=>by
 obtain⟨x,hw,hx⟩:=hB;have hi:Inr r x:=⟨hw,λp hp=>Qie (hx p hp)⟩
 obtain⟨q,hq,h1,h2⟩:=step hi h.n (hb h.n hn);have h3:=H _ h2;rw[Mc4,H _ hi] at h3;have h4:=hx q hq;have h5:0<dot h.n h.n:=by
  have k:∀a:Int,a≠0->0<a*a:=λa ha=>by
   rcases Int.lt_or_gt_of_ne ha with h|h
   ·exact Int.mul_pos_of_neg_of_neg h h
   ·exact Qip h h
  have k0:∀a:Int,0<=a*a:=λa=>by
   by_cases h:a=0
   ·subst h;decide
   ·exact Qie (k a h)
  have a1:=k0 h.n.x;have a2:=k0 h.n.y;have a3:=k0 h.n.z;unfold dot;by_cases c1:h.n.x=0
  ·by_cases c2:h.n.y=0
   ·have:=k h.n.z (λc3=>hn (V3.ext' c1 c2 c3));omega
   ·have:=k _ c2;omega
  ·have:=k _ c1;omega
 have:=Qip h4 h5
 omega
theorem he7 {r r' : List Pln} {p : Pln} (hb : Bdd r) (hB : xd0 r) (hp : p ∈ r) (hr : ∀ q ∈ r, q ∈ r' ∨ q = p)
  (l:List Pt) (hl:l.length<=2) (hl0:∀v∈l,rmZ p v=0/\0<v.pw) (hc:∀v,Cn r v->rmZ p v=0->∃x∈l,Eqv x v) {z:Pt} (hz:Inr r' z):Inr r z:=by
 by_cases h0:0<=rmZ p z
 ·exact⟨hz.w,λq hq=>(hr q hq).elim (hz.h q) λe=>e ▸ h0⟩
 exfalso;have hneg:rmZ p z<0:=by omega
 obtain⟨n,hn,hv⟩:=Zd0 (p:=p) (z:=z) (by omega) l hl hl0
 have hn':(thr n z).n≠⟨0,0,0⟩:=λe=>hn (by
  unfold thr at e;simp only[V3.mk.injEq] at e;have k:∀{a:Int},z.pw*a=0->a=0:=λh=>(Qic.1 h).resolve_left (by have:=hz.w;omega)
  exact V3.ext' (k e.1) (k e.2.1) (k e.2.2))
 -- the face lies in that plane
 have hface:∀u,Inr r u->rmZ p u=0->rmZ (thr n z) u=0:=λu hu hu0=>by
  have hbd:Bdd (U3 p::r):=λd hd=>by
   obtain⟨q,hq,h⟩:=hb d hd;exact⟨q,Qib _ hq,h⟩
  have hiu:Inr (U3 p::r) u:=⟨hu.w,λq hq=>by
   rcases Qia.1 hq with rfl|hq
   ·rw[Na3,hu0];decide
   ·exact hu.h q hq⟩
  have hvx:∀v,Cn (U3 p::r) v->rmZ (thr n z) v=0:=λv hcv=>by
   have hir:Inr r v:=⟨hcv.w,λq hq=>hcv.h q (Qib _ hq)⟩
   have hp0:rmZ p v=0:=by
    have h1:=hcv.h (U3 p) Qid;rw[Na3] at h1;have h2:=hir.h p hp;omega
   obtain⟨a,c,d,ha,hc',hd,hw,e1,e2,e3⟩:=hcv.c
   -- a plane that is turned round gives the same Wc2
   have fl:∀{a c d:Pln},mw (U3 a) c d=-mw a c d/\mw c (U3 a) d=-mw c a d/\mw c d (U3 a)=-mw c d a:=λ{a c d}=>by
    refine⟨?_,?_,?_⟩<;>(simp only[mw,dot,a8,U3];grind)
   have hr0:∀{a:Pln},rmZ (U3 a) v=0->rmZ a v=0:=λh=>by rw[Na3] at h;omega
   have hcn:Cn r v:=by
    refine⟨hir,?_⟩
    rcases Qia.1 ha with rfl|ha<;>rcases Qia.1 hc' with rfl|hc'<;>rcases Qia.1 hd with rfl|hd
    ·exact absurd (by simp only[mw,dot,a8];grind) hw
    ·exact absurd (by simp only[mw,dot,a8];grind) hw
    ·exact absurd (by simp only[mw,dot,a8];grind) hw
    ·exact⟨p,c,d,hp,hc',hd,by have:=(fl (a:=p) (c:=c) (d:=d)).1;omega,hp0,e2,e3⟩
    ·exact absurd (by simp only[mw,dot,a8];grind) hw
    ·exact⟨a,p,d,ha,hp,hd,by have:=(fl (a:=p) (c:=a) (d:=d)).2.1;omega,e1,hp0,e3⟩
    ·exact⟨a,c,p,ha,hc',hp,by have:=(fl (a:=p) (c:=a) (d:=c)).2.2;omega,e1,e2,hp0⟩
    ·exact⟨a,c,d,ha,hc',hd,hw,e1,e2,e3⟩
   obtain⟨x,hx,he⟩:=hc v hcn hp0;have h1:=he.rm (thr n z);rw[xd5 n z x,hv x hx] at h1;have h1:rmZ (thr n z) v*x.pw=0:=by omega
   exact (Qic.1 h1).resolve_right (by have:=(hl0 x hx).2;omega)
  have a1:=fa4 hbd (h:=thr n z) (λv hv=>by rw[hvx v hv];decide) hiu
  have a2:=fa4 hbd (h:=U3 (thr n z)) (λv hv=>by rw[Na3,hvx v hv];decide) hiu
  rw[Na3] at a2;omega
 -- so do all vertices
 have hall:∀v,Inr r v->rmZ (thr n z) v=0:=λv hi=>by
  by_cases hv0:rmZ p v=0
  ·exact hface v hi hv0
  have hvp:0<rmZ p v:=by have:=hi.h p hp;omega
  have hu:Inr r (Zd1 p z v):=by
   have w1:=Qip hvp hz.w;have w2:rmZ p z*v.pw<0:=Int.mul_neg_of_neg_of_pos hneg hi.w;refine⟨by show 0<rmZ p v*z.pw-rmZ p z*v.pw;omega,λq hq=>?_⟩
   rw[Bc9]
   rcases hr q hq with h|rfl
   ·have b1:=Qig (Qie hvp) (hz.h q h);have b2:rmZ p z*rmZ q v<=0:=Int.mul_nonpos_of_nonpos_of_nonneg (Qie hneg) (hi.h q hq);omega
   ·have:=Int.mul_comm (rmZ q v) (rmZ q z);omega
  have h1:=hface _ hu (by rw[Bc9];have:=Int.mul_comm (rmZ p v) (rmZ p z);omega)
  rw[Bc9] at h1;have h2:rmZ (thr n z) z=0:=by rw[xd5];simp only[dot,dv];grind
  rw[h2] at h1;have h1:rmZ p z*rmZ (thr n z) v=0:=by omega
  exact (Qic.1 h1).resolve_left (by omega)
 exact xd7 hb hB hn' hall
end Go.Ev.Ce
namespace Go.Ev.Ce
open Go Go.Ev Go.Ev.L Go.Proofs
def phP(out:List Pln):Nat:=match out with
 |[]=>0
 |_::_=>1
def da6(p:Pln)(v:V3):Int:=if okp p&&inV v then (if dot p.n v-p.b<0 then -1 else if dot p.n v-p.b>0 then 1 else 0) else 0
theorem Zd2{p:Pln}{v:V3}(hp:Bd p)(hv:inV v=true):Sm 331776 (dot p.n v):=by
 obtain⟨⟨a1,a2⟩,⟨a3,a4⟩,a5,a6⟩:=(qa4 v).1 hv;have r1:=mb hp.x1 hp.x2 a1 a2;have r2:=mb hp.y1 hp.y2 a3 a4;have r3:=mb hp.z1 hp.z2 a5 a6;unfold Sm dot;omega
theorem Mc9{p:Pln}{v:V3}(hp:okp p=true)(hv:inV v=true):da6 p v>0↔dot p.n v>p.b:=by
 unfold da6;rw[hp,hv];simp only[Qix,if_true];split
 ·omega
 ·split<;>omega
theorem Nb6{p:Pln}{v:V3}(hp:okp p=true)(hv:inV v=true):da6 p v=0↔dot p.n v=p.b:=by
 unfold da6;rw[hp,hv];simp only[Qix,if_true];split
 ·omega
 ·split<;>omega
theorem Zd3(v:V3):g3 v∣v.x/\g3 v∣v.y/\g3 v∣v.z:=by
 unfold g3;refine⟨?_,?_,?_⟩<;>rw[<- Qiu]<;>apply Qil.2
 ·exact Qim (Qik _ _) (Qik _ _)
 ·exact Qim (Qik _ _) (Qii _ _)
 ·exact Qii _ _
theorem Zd4(v:V3)(h:g3 v≠0):g3 ⟨Int.tdiv v.x (g3 v),Int.tdiv v.y (g3 v),Int.tdiv v.z (g3 v)⟩=1:=by
 generalize hg:g3 v=g at *
 have h0:0<=g:=hg ▸ pb2 v;obtain⟨n,rfl⟩:∃n:Nat,g=n:=⟨g.toNat,by omega⟩
 have hn:0<n:=by omega
 have hgn:Nat.gcd (Nat.gcd v.x.natAbs v.y.natAbs) v.z.natAbs=n:=by unfold g3 at hg;omega
 have d1:n∣Nat.gcd v.x.natAbs v.y.natAbs:=hgn ▸ Qik _ _;have d3:n∣v.z.natAbs:=hgn ▸ Qii _ _;have d4:n∣v.x.natAbs:=Qim d1 (Qik _ _);have d5:n∣v.y.natAbs:=Qim d1 (Qii _ _);unfold g3;simp only[Int.natAbs_tdiv,Int.natAbs_natCast];show ((Nat.gcd (Nat.gcd (v.x.natAbs / n) (v.y.natAbs / n)) (v.z.natAbs / n):Nat):Int)=1;rw[Nat.gcd_div d4 d5,Nat.gcd_div d1 d3,hgn,Nat.div_self hn];rfl
structure Thr(a b c:V3)(p:Pln):Prop where
 ok:okp p=true
 k:∃g:Int,0<g/\g*p.n.x=(a8 (sub b a) (sub c a)).x/\g*p.n.y=(a8 (sub b a) (sub c a)).y/\g*p.n.z=(a8 (sub b a) (sub c a)).z
 o:p.b=dot p.n a
theorem da7{a b c:V3}(h:(A8 a b c).2=true):(inV a=true/\inV b=true/\inV c=true)/\Thr a b c (A8 a b c).1:=by
 unfold A8 at h ⊢;cases ha:inV a with
 |false=>rw[ha] at h;cases h
 |true =>
  cases hb:inV b with
  |false=>rw[ha,hb] at h;cases h
  |true =>
   cases hc:inV c with
   |false=>rw[ha,hb,hc] at h;cases h
   |true =>
    rw[ha,hb,hc] at h;simp only[Qix,if_true] at h ⊢;obtain⟨_,k1,k2,k3⟩:=Ta8 ha hb hc;generalize hn:a8 (sub b a) (sub c a)=n at *
    by_cases h0:g3 n=0
    ·rw[if_pos h0] at h;cases h
    ·rw[if_neg h0];have hp:=pb2 n;obtain⟨d1,d2,d3⟩:=Zd3 n;have q1:=Y6 (g:=g3 n) k1 (by omega)
     have q2:=Y6 (g:=g3 n) k2 (by omega)
     have q3:=Y6 (g:=g3 n) k3 (by omega)
     refine⟨⟨trivial,trivial,trivial⟩,⟨?_,⟨g3 n,by omega,by rw[hn];exact Qiw d1,by rw[hn];exact Qiw d2,by rw[hn];exact Qiw d3⟩,rfl⟩⟩
     obtain⟨⟨a1,a2⟩,⟨a3,a4⟩,a5,a6⟩:=(qa4 a).1 ha;have r1:=mb q1.1 q1.2 a1 a2;have r2:=mb q2.1 q2.2 a3 a4;have r3:=mb q3.1 q3.2 a5 a6;unfold okp;rw[Zd4 n h0];simp only[List.all_cons,List.all_nil,Qin,Qif,bb4,beq_self_eq_true,true_and,and_true];refine⟨⟨q1,q2,q3⟩,?_⟩;unfold Sm dot
     simp only
     omega
theorem Ld7(a b c:V3):Bd (A8 a b c).1:=by
 cases h:(A8 a b c).2 with
 |true=>exact Mb9 (da7 h).2.ok
 |false =>
  have:(A8 a b c).1=⟨⟨0,0,0⟩,0⟩:=by
   unfold A8 at h ⊢;split
   ·rename_i hc;rw[if_pos hc] at h;split
    ·rfl
    ·rename_i h0;rw[if_neg h0] at h;cases h
   ·rfl
  rw[this]
  constructor<;>simp
theorem Fb8{p:Pln}(h:okp p=true):okp (U3 p)=true:=by
 unfold okp U3 g3 at *
 simp only[List.all_cons,List.all_nil,Qin,Qif,bb4,Int.natAbs_neg] at h ⊢;obtain⟨⟨h1,h2,h3⟩,h4,h5⟩:=h;exact⟨⟨h1.neg,h2.neg,h3.neg⟩,h4,h5.neg⟩
noncomputable def ne7(l:List V3)(p:Pln):Bool:=l.any λv=>da6 p v != 0
noncomputable def nf(l:List V3)(a c k:Nat):Bool:=(A8 (gL tV l a) (gL tV l c) (gL tV l k)).2&&ne7 l (A8 (gL tV l a) (gL tV l c) (gL tV l k)).1
noncomputable def nf2(l:List V3)(a c:Nat):Bool:=(List.range c).any (nf l a c)
noncomputable def nf1(l:List V3)(a:Nat):Bool:=(List.range a).any (nf2 l a)
noncomputable def nf0(l:List V3):Bool:=(List.range l.length).any (nf1 l)
theorem xd8 {σ : Type} {step : σ → Stp σ} {mk : Nat → σ} (n : Nat) (c : Nat → Bool) (u fin : Nat) (hn : n ≤ 1000000000) (h : ∀ j, j < n → step (mk j) = sl (c j) (.exit u) (.next (mk (j + 1)))) (hf : step (mk n) = .exit fin) :
  ∃j,lp step (mk 0)=(if (List.range n).any c then u else fin,mk j):=by
 have key:=V7 (step:=step) (mk:=λj (_:Unit)=>mk j) n (λj _=>j<=n/\∀i,i<j->c i=false) (λt s=>t=(if (List.range n).any c then u else fin)/\∃j,s=mk j) hn
  (λj _ hj hi=>by
   rw[h j hj];refine Nx.sl (λhc=>.ex ⟨?_,j,rfl⟩) (λhc=>.nx ⟨(),rfl,by omega,λi hi'=>?_⟩)
   ·rw[if_pos (Qiq.2 ⟨j,List.mem_range.2 hj,hc⟩)]
   ·by_cases e:i=j
    ·rw[e];exact hc
    ·exact hi.2 i (by omega))
  (λj _ hj hi=>by
   have e:j=n:=by omega
   subst e;refine⟨fin,hf,?_,j,rfl⟩;rw[if_neg λhh=>?_]
   obtain⟨i,hi1,hi2⟩:=Qiq.1 hh;rw[hi.2 i (List.mem_range.1 hi1)] at hi2;cases hi2) 0 () ⟨by omega,by omega⟩
 obtain⟨t,s,h1,rfl,j,rfl⟩:=key;exact⟨j,h1⟩
def hold(p:Pln)(l:List V3):Bool:=!l.any λv=>decide (da6 p v>0)
noncomputable def Nc0 (l:List V3) (a c:Nat) (out:List Pln) (k:Nat):List Pln :=
  if (A8 (gL tV l a) (gL tV l c) (gL tV l k)).2 then
    (if hold (U3 (A8 (gL tV l a) (gL tV l c) (gL tV l k)).1) l then Bc7 (if hold (A8 (gL tV l a) (gL tV l c) (gL tV l k)).1 l then Bc7 out (A8 (gL tV l a) (gL tV l c) (gL tV l k)).1 else out) (U3 (A8 (gL tV l a) (gL tV l c) (gL tV l k)).1)
     else (if hold (A8 (gL tV l a) (gL tV l c) (gL tV l k)).1 l then Bc7 out (A8 (gL tV l a) (gL tV l c) (gL tV l k)).1 else out))
  else out
noncomputable def F2(l:List V3)(a:Nat)(out:List Pln)(c:Nat):List Pln:=(List.range c).foldl (Nc0 l a c) out
noncomputable def F1(l:List V3)(out:List Pln)(a:Nat):List Pln:=(List.range a).foldl (F2 l a) out
noncomputable def F0(l:List V3):List Pln:=(List.range l.length).foldl (F1 l) []
theorem D5 {τ:Type} (f:τ→Nat→τ) (a:τ) (n:Nat):(List.range (n+1)).foldl f a=f ((List.range n).foldl f a) n:=by
  rw[List.range_succ,List.foldl_append];rfl
theorem ic9 {f:List Pln→Nat→List Pln} {m:Nat} (h:∀ o k,(f o k).length≤o.length+m) (o:List Pln):∀ n,((List.range n).foldl f o).length≤o.length+m*n
  |0=>Nat.le_refl _
  | n+1=>by
    rw[D5];have h1:=h ((List.range n).foldl f o) n;have h2:=ic9 h o n;rw[Nat.mul_succ];omega
def Fb9(l:List Pln)(p:Pln):Bool:=l.any λq=>eqP q p
theorem Nc1(l:List Pln)(p:Pln):Fb9 l p=true↔p∈l:=by
 unfold Fb9;rw[Qiq];exact⟨λ⟨q,h,e⟩=>by rw[Fb2] at e;exact e ▸ h,λh=>⟨p,h,(Fb2 p p).2 rfl⟩⟩
def ipt(v:V3):Pt:=⟨v.x,v.y,v.z,1⟩
theorem Zd5{v:V3}(h:inV v=true):∀p∈ws,0<=rmZ p (ipt v):=by
 obtain⟨⟨a1,a2⟩,⟨a3,a4⟩,a5,a6⟩:=(qa4 v).1 h;intro p hp;simp only[ws,Qia,Qiaa,or_false] at hp
 rcases hp with rfl|rfl|rfl|rfl|rfl|rfl<;>simp only[rmZ,ipt]<;>omega
theorem jc0{p:Pln}(h:okp p=true):g3 p.n=1:=by
 unfold okp at h;simp only[Qif,beq_iff_eq] at h;exact h.2.1
theorem Qa7{p:Pln}(h:okp p=true):p.n≠⟨0,0,0⟩:=λe=>by
 have:=jc0 h
 rw[e] at this
 revert this
 decide
theorem xd9(c:Int)(n:V3):g3 ⟨c*n.x,c*n.y,c*n.z⟩=c.natAbs*g3 n:=by
 unfold g3;simp only[Int.natAbs_mul,Nat.gcd_mul_left];rw[Int.natCast_mul]
theorem Nc2{m n:V3}(hm:g3 m=1)(hn:g3 n=1)(h:a8 m n=⟨0,0,0⟩):n=m\/n=neg m:=by
 unfold a8 at h;simp only[V3.mk.injEq] at h;obtain⟨c1,c2,c3⟩:=h;have k:∀{c d:Int},c*m.x=d*n.x->c*m.y=d*n.y->c*m.z=d*n.z->c.natAbs=d.natAbs:=λ{c d} e1 e2 e3=>by
  have a1:=xd9 c m;have a2:=xd9 d n;rw[e1,e2,e3,a2,hm,hn] at a1;omega
 have ax:=k (c:=n.x) (d:=m.x) (by grind) (by grind) (by grind)
 have ay:=k (c:=n.y) (d:=m.y) (by grind) (by grind) (by grind)
 have az:=k (c:=n.z) (d:=m.z) (by grind) (by grind) (by grind)
 have sg:∀{a c:Int},a.natAbs=c.natAbs->a=c\/a=-c:=λh=>by omega
 -- the sign of one component that is not zero is that of all
 have go:∀{s u t v:Int},u≠0->s*v=u*t->s=u->t=v:=λ{s u t v} hu h e=>by
  subst e;exact (Qiai hu h).symm
 have gn:∀{s u t v:Int},u≠0->s*v=u*t->s=-u->t=-v:=λ{s u t v} hu h e=>by
  subst e
  have:u*t=u*(-v):=by rw[<- h];grind
  exact Qiai hu this
 by_cases hx:m.x=0
 ·have hx':n.x=0:=by omega
  by_cases hy:m.y=0
  ·have hy':n.y=0:=by omega
   rcases sg az with e|e
   ·exact .inl (V3.ext' (by omega) (by omega) e)
   ·exact .inr (V3.ext' (by show n.x=-m.x;omega) (by show n.y=-m.y;omega) e)
  ·rcases sg ay with e|e
   ·exact .inl (V3.ext' (by omega) e (go hy (by grind) e))
   ·exact .inr (V3.ext' (by show n.x=-m.x;omega) e (gn hy (by grind) e))
 ·rcases sg ax with e|e
  ·exact .inl (V3.ext' e (go hx (by grind) e) (go hx (by grind) e))
  ·exact .inr (V3.ext' e (gn hx (by grind) e) (gn hx (by grind) e))
structure oe3(l:List V3):Prop where
 h:∃a c k v,a∈l/\c∈l/\k∈l/\v∈l/\dot (a8 (sub c a) (sub k a)) (sub v a)≠0
theorem gLm{l:List V3}{j:Nat}(h:j<l.length):gL tV l j∈l:=bb2 tV h
theorem Ya1{p:Pln}{l:List V3}(hp:okp p=true)(hl:l.all inV=true):hold p l=true↔∀v∈l,dot p.n v<=p.b:=by
 unfold hold;rw[Qiz,<- Bool.not_eq_true,Qiq];constructor
 ·intro h v hv;have h1:¬ da6 p v>0:=λh'=>h ⟨v,hv,by simpa using h'⟩
  rw[Mc9 hp (Qij.1 hl v hv)] at h1;omega
 ·rintro h ⟨v,hv,h1⟩;have h1:da6 p v>0:=by simpa using h1
  rw[Mc9 hp (Qij.1 hl v hv)] at h1
  have:=h v hv
  omega
structure Fct(l:List V3)(p:Pln):Prop where
 ok:okp p=true
 hd:hold p l=true
theorem lb9(p:Pln)(v:V3):dot (U3 p).n v=-dot p.n v:=by unfold dot U3;grind
theorem md4 (l : List V3) (a c k : Nat) (out : List Pln) (p : Pln) : p ∈ Nc0 l a c out k ↔ p ∈ out ∨ ((A8 (gL tV l a) (gL tV l c) (gL tV l k)).2 = true ∧
  ((p=(A8 (gL tV l a) (gL tV l c) (gL tV l k)).1/\hold p l=true)\/(p=U3 (A8 (gL tV l a) (gL tV l c) (gL tV l k)).1/\hold p l=true))):=by
 unfold Nc0;generalize A8 (gL tV l a) (gL tV l c) (gL tV l k)=T;cases h2:T.2 with
 |false=>simp
 |true =>
  simp only[if_true];cases h4:hold (U3 T.1) l with
  |false =>
   simp only[Qiaf,if_false];cases h3:hold T.1 l with
   |false =>
    simp only[Qiaf,if_false];constructor
    ·exact λh=>.inl h
    ·rintro (h|⟨_,⟨rfl,h⟩|⟨rfl,h⟩⟩)
     ·exact h
     ·rw[h3] at h;cases h
     ·rw[h4] at h;cases h
   |true =>
    simp only[if_true,lb8];constructor
    ·rintro (rfl|h)
     ·exact .inr ⟨trivial,.inl ⟨rfl,h3⟩⟩
     ·exact .inl h
    ·rintro (h|⟨_,⟨rfl,h⟩|⟨rfl,h⟩⟩)
     ·exact .inr h
     ·exact .inl rfl
     ·rw[h4] at h;cases h
  |true =>
   simp only[if_true,lb8];cases h3:hold T.1 l with
   |false =>
    simp only[Qiaf,if_false];constructor
    ·rintro (rfl|h)
     ·exact .inr ⟨trivial,.inr ⟨rfl,h4⟩⟩
     ·exact .inl h
    ·rintro (h|⟨_,⟨rfl,h⟩|⟨rfl,h⟩⟩)
     ·exact .inr h
     ·rw[h3] at h;cases h
     ·exact .inl rfl
   |true =>
    simp only[if_true,lb8];constructor
    ·rintro (rfl|rfl|h)
     ·exact .inr ⟨trivial,.inr ⟨rfl,h4⟩⟩
     ·exact .inr ⟨trivial,.inl ⟨rfl,h3⟩⟩
     ·exact .inl h
    ·rintro (h|⟨_,⟨rfl,h⟩|⟨rfl,h⟩⟩)
     ·exact .inr (.inr h)
     ·exact .inr (.inl rfl)
     ·exact .inl rfl
theorem Na4{f:List Pln->Nat->List Pln}{Q:Nat->Pln->Prop}(h:∀o k p,p∈f o k↔p∈o\/Q k p)(o:List Pln)(p:Pln):∀n,p∈(List.range n).foldl f o↔p∈o\/∃k,k<n/\Q k p
 |0=>by simp
 |n+1=>by
  rw[D5,h,Na4 h o p n];constructor
  ·rintro ((h|⟨k,hk,h⟩)|h)
   ·exact .inl h
   ·exact .inr ⟨k,by omega,h⟩
   ·exact .inr ⟨n,by omega,h⟩
  ·rintro (h|⟨k,hk,h⟩)
   ·exact .inl (.inl h)
   ·by_cases e:k=n
    ·subst e;exact .inr h
    ·exact .inl (.inr ⟨k,by omega,h⟩)
def Fq (l : List V3) (a c k : Nat) (p : Pln) : Prop := (A8 (gL tV l a) (gL tV l c) (gL tV l k)).2 = true ∧
  ((p=(A8 (gL tV l a) (gL tV l c) (gL tV l k)).1/\hold p l=true)\/(p=U3 (A8 (gL tV l a) (gL tV l c) (gL tV l k)).1/\hold p l=true))
theorem Zd6(l:List V3)(a c:Nat)(out:List Pln)(p:Pln):p∈F2 l a out c↔p∈out\/∃k,k<c/\Fq l a c k p:=Na4 (λo k p=>md4 l a c k o p) out p c
theorem Zd7(l:List V3)(a:Nat)(out:List Pln)(p:Pln):p∈F1 l out a↔p∈out\/∃c,c<a/\∃k,k<c/\Fq l a c k p:=Na4 (λo c p=>Zd6 l a c o p) out p a
theorem Wc3(l:List V3)(p:Pln):p∈F0 l↔∃a,a<l.length/\∃c,c<a/\∃k,k<c/\Fq l a c k p:=by
 have:=Na4 (λo a p=>Zd7 l a o p) [] p l.length
 simpa [F0] using this
theorem md5{l:List V3}{a c:Nat}{out:List Pln}{k:Nat}(h:Ca1 out):Ca1 (Nc0 l a c out k):=by
 unfold Nc0;split
 ·split
  ·refine Fb6 _ ?_;split
   ·exact Fb6 _ h
   ·exact h
  ·split
   ·exact Fb6 _ h
   ·exact h
 ·exact h
theorem Gb0{f:List Pln->Nat->List Pln}(h:∀o k,Ca1 o->Ca1 (f o k)){o:List Pln}(ho:Ca1 o):∀n,Ca1 ((List.range n).foldl f o)
 |0=>ho
 |n+1=>by rw[D5];exact h _ _ (Gb0 h ho n)
theorem Zd8{l:List V3}{a c:Nat}{out:List Pln}(h:Ca1 out):Ca1 (F2 l a out c):=Gb0 (λ_ _ h=>md5 h) h c
theorem Zd9{l:List V3}{a:Nat}{out:List Pln}(h:Ca1 out):Ca1 (F1 l out a):=Gb0 (λ_ _ h=>Zd8 h) h a
theorem Nb7(l:List V3):Ca1 (F0 l):=Gb0 (λ_ _ h=>Zd9 h) .nil l.length
theorem Nb8{l:List Pln}(h:Ca1 l):l.Nodup:=List.Pairwise.imp (λ{x y} (h:LtP x y) (e:x=y)=>Yb4 y (e ▸ h)) h
theorem yd0{l:List V3}{p:Pln}(hp:p∈F0 l):Fct l p:=by
 obtain⟨a,ha,c,hc,k,hk,h1,⟨h2,h3⟩|⟨h2,h3⟩⟩:=(Wc3 l p).1 hp
 ·exact⟨h2 ▸ (da7 h1).2.ok,h3⟩
 ·exact⟨h2 ▸ Fb8 (da7 h1).2.ok,h3⟩
structure Nc3(c:List Pln):Prop where
 l:c.length<=47
 v:∀p∈c,okp p=true
 f:xd0 (c++ws)
theorem Nc3.chk{c:List Pln}(h:Nc3 c):(chk c==0)=true:=by
 rw[beq_iff_eq,ic4];exact⟨by have:=h.l;omega,h.v⟩
theorem Nc3.bds{c:List Pln}(h:Nc3 c):Bds (c++ws):=(Ld2 h.chk).1
theorem Nc3.ful{c:List Pln}(h:Nc3 c):ful c=true:=by
 unfold Ce.ful;rw[h.chk,(md3 h.bds (xd4 c) (by simp[ws])).2 h.f]
 rfl
theorem Nc3.pts{c:List Pln}(h:Nc3 c):pts c=cor (c++ws):=by unfold Ce.pts;rw[if_pos h.chk]
end Go.Ev.Ce
namespace Go.Ev.Ce
def d7(a b:V3):V3:=⟨a.x-b.x,a.y-b.y,a.z-b.z⟩
def N3(u w x:V3):V3:=a8 (d7 w u) (d7 x u)
def fb2:List V3->V3
 |[]=>⟨0,0,0⟩
 |v::l=>⟨v.x+(fb2 l).x,v.y+(fb2 l).y,v.z+(fb2 l).z⟩
def Gb1:List Int->Int
 |[]=>0
 |x::l=>x+Gb1 l
theorem Nc4(n:V3):∀l:List V3,dot n (fb2 l)=Gb1 (l.map (dot n))
 |[]=>by simp[fb2,Gb1,dot]
 |v::l=>by
  have:=Nc4 n l
  simp only[List.map_cons,Gb1,<- this];simp only[fb2,dot]
  grind
theorem Nc5(m s:Int):∀l:List Int,Gb1 (l.map λa=>m*a-s)=m*Gb1 l-s*l.length
 |[]=>by simp[Gb1]
 |a::l=>by
  have:=Nc5 m s l
  simp only[List.map_cons,Gb1,this,List.length_cons]
  grind
theorem Qb6:∀{l:List Int},(∀a∈l,a<=0)->Gb1 l<=0
 |[],_=>by simp[Gb1]
 |a::l,h=>by
  have:=Qb6 (l:=l) λx hx=>h x (Qib _ hx)
  have:=h a Qid
  simp only[Gb1];omega
theorem Nb9:∀{l:List Int},(∀a∈l,a<=0)->Gb1 l=0->∀a∈l,a=0
 |[],_,_=>λa ha=>by cases ha
 |a::l,h,h0=>by
  have h1:=Qb6 (l:=l) λx hx=>h x (Qib _ hx)
  have h2:=h a Qid;simp only[Gb1] at h0;intro b hb
  rcases Qia.1 hb with rfl|hb
  ·omega
  ·exact Nb9 (l:=l) (λx hx=>h x (Qib _ hx)) (by omega) b hb
def Sol(l:List V3):Prop:=∃a c k v,a∈l/\c∈l/\k∈l/\v∈l/\dot (N3 a c k) (d7 v a)≠0
theorem Sol.off{l:List V3}(h:Sol l){n:V3}(hn:n≠⟨0,0,0⟩)(b:Int):∃v∈l,dot n v≠b:=by
 obtain⟨a,c,k,v,ha,hc,hk,hv,hd⟩:=h;by_cases h1:dot n a=b
 ·by_cases h2:dot n c=b
  ·by_cases h3:dot n k=b
   ·by_cases h4:dot n v=b
    ·exfalso;unfold N3 at hd;generalize hD:dot (a8 (d7 c a) (d7 k a)) (d7 v a)=D at *
     have q1:dot n (d7 c a)=0:=by unfold dot d7 at *;grind
     have q2:dot n (d7 k a)=0:=by unfold dot d7 at *;grind
     have q3:dot n (d7 v a)=0:=by unfold dot d7 at *;grind
     generalize d7 c a=p at *
     generalize d7 k a=q at *
     generalize d7 v a=r at *
     have i1:D*n.x=(a8 q r).x*dot n p+(a8 r p).x*dot n q+(a8 p q).x*dot n r:=by rw[<- hD];simp only[dot,a8];grind
     have i2:D*n.y=(a8 q r).y*dot n p+(a8 r p).y*dot n q+(a8 p q).y*dot n r:=by rw[<- hD];simp only[dot,a8];grind
     have i3:D*n.z=(a8 q r).z*dot n p+(a8 r p).z*dot n q+(a8 p q).z*dot n r:=by rw[<- hD];simp only[dot,a8];grind
     rw[q1,q2,q3] at i1 i2 i3;have z:∀{x:Int},D*x=0->x=0:=λh=>(Qic.1 h).resolve_left hd
     exact hn (V3.ext' (z (by omega)) (z (by omega)) (z (by omega)))
    ·exact⟨v,hv,h4⟩
   ·exact⟨k,hk,h3⟩
  ·exact⟨c,hc,h2⟩
 ·exact⟨a,ha,h1⟩
theorem Sol.ne{l:List V3}(h:Sol l):∃v,v∈l:=by obtain⟨a,_,_,_,ha,_⟩:=h;exact⟨a,ha⟩
structure Fac(l:List V3)(n:V3)(b:Int):Prop where
 hd:∀v∈l,dot n v<=b
 on:∃u w x,u∈l/\w∈l/\x∈l/\N3 u w x≠⟨0,0,0⟩/\dot n u=b/\dot n w=b/\dot n x=b
def ae0(l:List V3)(c:List Pln):Prop:=∀n b,n≠⟨0,0,0⟩->Fac l n b->∃s t:Int,0<s/\0<t/\∃q∈c,t*q.n.x=s*n.x/\t*q.n.y=s*n.y/\t*q.n.z=s*n.z/\t*q.b=s*b
def pol(m:Int)(S v:V3):Pln:=⟨⟨m*v.x-S.x,m*v.y-S.y,m*v.z-S.z⟩,1⟩
theorem Ld8(m:Int)(S v d:V3):dot (pol m S v).n d=m*dot d v-dot d S:=by simp only[dot,pol];grind
theorem Nc6(l:List V3)(d:V3):Gb1 (l.map λv=>(l.length:Int)*dot d v-dot d (fb2 l))=0:=by
 have h:=Nc5 (l.length:Int) (dot d (fb2 l)) (l.map (dot d));rw[List.map_map] at h;have e:((λa=>(l.length:Int)*a-dot d (fb2 l))∘dot d)=λv=>(l.length:Int)*dot d v-dot d (fb2 l):=rfl
 rw[e] at h;rw[h,<- Nc4,List.length_map]
 grind
theorem uc5{a b:V3}(h:dot a b≠0):b≠⟨0,0,0⟩:=λe=>h (by subst e;simp[dot])
theorem Wc4{a b:V3}(h:dot a b≠0):a≠⟨0,0,0⟩:=λe=>h (by subst e;simp[dot])
theorem cd9{l:List V3}(h:Sol l):0<(l.length:Int):=by
 obtain⟨v,hv⟩:=h.ne
 have:=List.length_pos_of_mem hv
 omega
theorem Ld9{l:List V3}(h:Sol l):Bdd (l.map (pol l.length (fb2 l))):=λd hd=>by
 by_cases hh:∃p∈l.map (pol l.length (fb2 l)),0<dot p.n d
 ·exact hh
 exfalso;have hm:=cd9 h;have hall:∀a∈l.map (λv=>(l.length:Int)*dot d v-dot d (fb2 l)),a<=0:=λa ha=>by
  obtain⟨v,hv,rfl⟩:=Qih.1 ha;refine Int.not_lt.1 λh'=>hh ⟨pol l.length (fb2 l) v,Qih.2 ⟨v,hv,rfl⟩,?_⟩
  rw[Ld8];omega
 have hz:=Nb9 hall (Nc6 l d);obtain⟨a,ha⟩:=h.ne;obtain⟨v,hv,hne⟩:=h.off hd (dot d a);have e1:=hz _ (Qih.2 ⟨a,ha,rfl⟩);have e2:=hz _ (Qih.2 ⟨v,hv,rfl⟩);apply hne
 have:(l.length:Int)*(dot d v-dot d a)=0:=by grind
 have:=(Qic.1 this).resolve_left (by omega)
 omega
theorem pb3{l:List V3}(h4:Sol l){c:List Pln}(hc:ae0 l c){x:Pt}(hx:Inr c x){h:Pln}(hh:∀v∈l,dot h.n v<=h.b):0<=rmZ h x:=by
 have hm:=cd9 h4;have hr:=Ld9 h4;generalize hS:fb2 l=S at hr;generalize hM:(l.length:Int)=m at hr hm
 -- the linear function on the polar
 have hv:∀y,Cn (l.map (pol m S)) y->0<=rmZ ⟨⟨m*x.px-x.pw*S.x,m*x.py-x.pw*S.y,m*x.pz-x.pw*S.z⟩,x.pw⟩ y:=λy hy=>by
  obtain⟨p1,p2,p3,hp1,hp2,hp3,hw,e1,e2,e3⟩:=hy.c;obtain⟨v1,m1,rfl⟩:=Qih.1 hp1;obtain⟨v2,m2,rfl⟩:=Qih.1 hp2;obtain⟨v3,m3,rfl⟩:=Qih.1 hp3;have rp:∀v,rmZ (pol m S v) y=y.pw-(m*dot ⟨y.px,y.py,y.pz⟩ v-dot ⟨y.px,y.py,y.pz⟩ S):=λv=>by simp only[rmZ,pol,dot];grind
  rw[rp] at e1 e2 e3;have hn3:dot (pol m S v1).n (N3 v1 v2 v3)≠0:=λh0=>hw (by
   have:mw (pol m S v1) (pol m S v2) (pol m S v3)=m*m*dot (pol m S v1).n (N3 v1 v2 v3):=by simp only[mw,pol,dot,N3,a8,d7];grind
   rw[this,h0,Qiaj])
  have hne:N3 v1 v2 v3≠⟨0,0,0⟩:=uc5 hn3;have hfac:Fac l ⟨m*y.px,m*y.py,m*y.pz⟩ (y.pw+dot ⟨y.px,y.py,y.pz⟩ S):=by
   have ed:∀v,dot ⟨m*y.px,m*y.py,m*y.pz⟩ v=m*dot ⟨y.px,y.py,y.pz⟩ v:=λv=>by simp only[dot];grind
   refine⟨λv hv=>?_,v1,v2,v3,m1,m2,m3,hne,?_,?_,?_⟩
   ·have:=hy.h (pol m S v) (Qih.2 ⟨v,hv,rfl⟩)
    rw[rp] at this;rw[ed];omega
   ·rw[ed];omega
   ·rw[ed];omega
   ·rw[ed];omega
  have hyn:(⟨m*y.px,m*y.py,m*y.pz⟩:V3)≠⟨0,0,0⟩:=λe=>by
   have k:∀{a:Int},m*a=0->a=0:=λh=>(Qic.1 h).resolve_left (by omega)
   simp only[V3.mk.injEq] at e;have a1:=k e.1;have a2:=k e.2.1;have a3:=k e.2.2;rw[a1,a2,a3] at e1;have hw:=hy.w;simp only[dot] at e1;simp only[Qiv,Int.add_zero,Qiaj,Int.sub_zero] at e1;omega
  obtain⟨s,t,hs,ht,q,hq,f1,f2,f3,f4⟩:=hc _ _ hyn hfac;have hxq:=hx.h q hq;have e:t*rmZ q x=s*rmZ ⟨⟨m*x.px-x.pw*S.x,m*x.py-x.pw*S.y,m*x.pz-x.pw*S.z⟩,x.pw⟩ y:=by
   have:t*rmZ q x=(t*q.b)*x.pw-((t*q.n.x)*x.px+(t*q.n.y)*x.py+(t*q.n.z)*x.pz):=by simp only[rmZ];grind
   rw[this,f1,f2,f3,f4];simp only[rmZ,dot];grind
  have h1:=Qig (Qie ht) hxq;rw[e] at h1;exact Qiac h1 hs
 by_cases hn:h.n=⟨0,0,0⟩
 ·obtain⟨v,hv⟩:=h4.ne;have h1:=hh v hv;have e:rmZ h x=h.b*x.pw:=by simp only[rmZ,hn];grind
  rw[e];rw[hn] at h1;simp only[dot,Qiv,Int.add_zero] at h1;exact Qig h1 (Qie hx.w)
 ·-- the polar point of h
  have hall:∀a∈l.map (λv=>(l.length:Int)*dot h.n v-dot h.n (fb2 l)),a<=(l.length:Int)*h.b-dot h.n (fb2 l):=λa ha=>by
   obtain⟨v,hv,rfl⟩:=Qih.1 ha
   have:=Qit (hh v hv) (show 0<=(l.length:Int) by omega)
   omega
  have hpos:0<m*h.b-dot h.n S:=by
   rw[<- hM,<- hS];by_cases h0:0<(l.length:Int)*h.b-dot h.n (fb2 l)
   ·exact h0
   exfalso;have hz:=Nb9 (λa ha=>by have:=hall a ha;omega) (Nc6 l h.n)
   obtain⟨v,hv,hne⟩:=h4.off hn h.b;have e1:=hz _ (Qih.2 ⟨v,hv,rfl⟩);have h2:=hh v hv
   have:(l.length:Int)*dot h.n v<(l.length:Int)*h.b:=Int.mul_lt_mul_of_pos_left (by omega) (by omega)
   omega
  have hy:Inr (l.map (pol m S)) ⟨h.n.x,h.n.y,h.n.z,m*h.b-dot h.n S⟩:=⟨hpos,λp hp=>by
   obtain⟨v,hv,rfl⟩:=Qih.1 hp;have e:rmZ (pol m S v) ⟨h.n.x,h.n.y,h.n.z,m*h.b-dot h.n S⟩=m*(h.b-dot h.n v):=by simp only[rmZ,pol,dot];grind
   rw[e];exact Qig (by omega) (by have:=hh v hv;omega)⟩
  have h1:=fa4 hr hv hy;have e:rmZ ⟨⟨m*x.px-x.pw*S.x,m*x.py-x.pw*S.y,m*x.pz-x.pw*S.z⟩,x.pw⟩ ⟨h.n.x,h.n.y,h.n.z,m*h.b-dot h.n S⟩=m*rmZ h x:=by simp only[rmZ,dot];grind
  rw[e] at h1;exact Qiac h1 hm
theorem Yb6(own:List V3):(∃a c k,a∈own/\c∈own/\k∈own/\dot a (a8 c k)≠0)\/∃d,d≠(⟨0,0,0⟩:V3)/\∀n∈own,dot n d=0:=by
 by_cases h1:∃a∈own,a≠⟨0,0,0⟩
 ·obtain⟨a,ha,hne⟩:=h1;by_cases h2:∃c∈own,a8 a c≠⟨0,0,0⟩
  ·obtain⟨c,hc,hx⟩:=h2;by_cases h3:∃k∈own,dot k (a8 a c)≠0
   ·obtain⟨k,hk,h⟩:=h3;exact .inl ⟨k,a,c,hk,ha,hc,h⟩
   ·exact .inr ⟨a8 a c,hx,λn hn=>Qio λh=>h3 ⟨n,hn,h⟩⟩
  ·obtain⟨d,hd,h0⟩:=perp hne;refine .inr ⟨d,hd,λn hn=>?_⟩
   have hc:a8 a n=⟨0,0,0⟩:=Qio λh=>h2 ⟨n,hn,h⟩
   have e:∀{s t:Int},s*t=0->s≠0->t=0:=λh hs=>(Qic.1 h).resolve_left hs
   unfold a8 at hc;simp only[V3.mk.injEq] at hc;obtain⟨c1,c2,c3⟩:=hc;have k1:a.x*dot n d=0:=by
    have:a.x*dot n d=n.x*dot a d+(a.x*n.y-a.y*n.x)*d.y-(a.z*n.x-a.x*n.z)*d.z:=by simp only[dot];grind
    rw[this,h0,c3,c2];simp
   have k2:a.y*dot n d=0:=by
    have:a.y*dot n d=n.y*dot a d+(a.y*n.z-a.z*n.y)*d.z-(a.x*n.y-a.y*n.x)*d.x:=by simp only[dot];grind
    rw[this,h0,c1,c3];simp
   have k3:a.z*dot n d=0:=by
    have:a.z*dot n d=n.z*dot a d+(a.z*n.x-a.x*n.z)*d.x-(a.y*n.z-a.z*n.y)*d.y:=by simp only[dot];grind
    rw[this,h0,c2,c1];simp
   by_cases hx:a.x=0
   ·by_cases hy:a.y=0
    ·exact e k3 λhz=>hne (V3.ext' hx hy hz)
    ·exact e k2 hy
   ·exact e k1 hx
 ·exact .inr ⟨⟨1, 0, 0⟩, by simp, fun n hn => by
   have:n=⟨0,0,0⟩:=Qio λh=>h1 ⟨n,hn,h⟩
   rw[this];simp[dot]⟩
theorem big(d:V3):∀c:List Pln,∃N:Int,0<N/\∀p∈c,dot p.n d<=N/\-dot p.n d<=N
 |[]=>⟨1,by decide,λp hp=>by cases hp⟩
 |q::c=>by
  obtain⟨N,h0,h⟩:=big d c;refine⟨N+(dot q.n d).natAbs,by omega,λp hp=>?_⟩
  rcases Qia.1 hp with rfl|hp
  ·omega
  ·have:=h p hp;omega
theorem Na5{p q s:Pln}(hw:mw p q s≠0){d:V3}(h1:dot p.n d=0)(h2:dot q.n d=0)(h3:dot s.n d=0):d=⟨0,0,0⟩:=by
 have i1:mw p q s*d.x=(a8 q.n s.n).x*dot p.n d+(a8 s.n p.n).x*dot q.n d+(a8 p.n q.n).x*dot s.n d:=by simp only[mw,dot,a8];grind
 have i2:mw p q s*d.y=(a8 q.n s.n).y*dot p.n d+(a8 s.n p.n).y*dot q.n d+(a8 p.n q.n).y*dot s.n d:=by simp only[mw,dot,a8];grind
 have i3:mw p q s*d.z=(a8 q.n s.n).z*dot p.n d+(a8 s.n p.n).z*dot q.n d+(a8 p.n q.n).z*dot s.n d:=by simp only[mw,dot,a8];grind
 rw[h1,h2,h3] at i1 i2 i3;have z:∀{x:Int},mw p q s*x=0->x=0:=λh=>(Qic.1 h).resolve_left hw
 exact V3.ext' (z (by omega)) (z (by omega)) (z (by omega))
def Spn(c:List Pln)(v:V3):Prop:=∃p q s,p∈c/\q∈c/\s∈c/\mw p q s≠0/\dot p.n v=p.b/\dot q.n v=q.b/\dot s.n v=s.b
theorem Md0{l:List V3}(h4:Sol l){c w:List Pln}(hc:ae0 l c)(hin:∀p∈c++w,∀v∈l,dot p.n v<=p.b){x:Pt}(hx:Cn (c++w) x):∃v∈l,Eqv x ⟨v.x,v.y,v.z,1⟩/\Spn c v:=by
 obtain⟨p,q,s,hp,hq,hs,hw,e1,e2,e3⟩:=hx.c;have hxc:Inr c x:=⟨hx.w,λa ha=>hx.h a (Qiab _ ha)⟩
 have hv:∃v∈l,dot p.n v=p.b/\dot q.n v=q.b/\dot s.n v=s.b:=by
  apply Qio;intro hno;have h1:=pb3 h4 hc hxc (h:=⟨⟨p.n.x+q.n.x+s.n.x,p.n.y+q.n.y+s.n.y,p.n.z+q.n.z+s.n.z⟩,p.b+q.b+s.b-1⟩) λv hv=>by
   have a1:=hin p hp v hv;have a2:=hin q hq v hv;have a3:=hin s hs v hv;have e:dot ⟨p.n.x+q.n.x+s.n.x,p.n.y+q.n.y+s.n.y,p.n.z+q.n.z+s.n.z⟩ v=dot p.n v+dot q.n v+dot s.n v:=by simp only[dot];grind
   simp only[e]
   have:¬ (dot p.n v=p.b/\dot q.n v=q.b/\dot s.n v=s.b):=λh=>hno ⟨v,hv,h⟩
   omega
  have e:rmZ ⟨⟨p.n.x+q.n.x+s.n.x,p.n.y+q.n.y+s.n.y,p.n.z+q.n.z+s.n.z⟩,p.b+q.b+s.b-1⟩ x=rmZ p x+rmZ q x+rmZ s x-x.pw:=by simp only[rmZ];grind
  rw[e,e1,e2,e3] at h1
  have:=hx.w
  omega
 obtain⟨v,hv,t1,t2,t3⟩:=hv;have hd:(⟨x.px-v.x*x.pw,x.py-v.y*x.pw,x.pz-v.z*x.pw⟩:V3)=⟨0,0,0⟩:=by
  have k:∀{a:Pln},dot a.n v=a.b->rmZ a x=0->dot a.n ⟨x.px-v.x*x.pw,x.py-v.y*x.pw,x.pz-v.z*x.pw⟩=0:=λ{a} h1 h2=>by
   rw[rmZ,<- h1] at h2;simp only[dot] at h2 ⊢
   grind
  exact Na5 hw (k t1 e1) (k t2 e2) (k t3 e3)
 simp only[V3.mk.injEq] at hd;refine⟨v,hv,⟨?_,?_,?_⟩,?_⟩
 ·show x.px*1=v.x*x.pw;omega
 ·show x.py*1=v.y*x.pw;omega
 ·show x.pz*1=v.z*x.pw;omega
 -- the facets through it span the space
 have hf:∀a:Pln,decide (dot a.n v=a.b)=true↔dot a.n v=a.b:=λa=>by simp
 rcases Yb6 ((c.filter λa=>decide (dot a.n v=a.b)).map Pln.n) with⟨a,b,k,ha',hb',hk',hd⟩|⟨d,hd,h0⟩
 ·obtain⟨a,ha,rfl⟩:=Qih.1 ha';obtain⟨b,hb,rfl⟩:=Qih.1 hb';obtain⟨k,hk,rfl⟩:=Qih.1 hk';rw[List.mem_filter,hf] at ha hb hk;exact⟨a,b,k,ha.1,hb.1,hk.1,hd,ha.2,hb.2,hk.2⟩
 ·exfalso;obtain⟨N,hN,hb⟩:=big d c;have h0':∀a∈c,dot a.n v=a.b->dot a.n d=0:=λa ha h=>h0 a.n (Qih.2 ⟨a,List.mem_filter.2 ⟨ha,by simpa using h⟩,rfl⟩)
  have iny:∀e:V3,(∀a∈c,dot a.n v=a.b->dot a.n e=0)->(∀a∈c,dot a.n e<=N)->Inr c ⟨N*v.x+e.x,N*v.y+e.y,N*v.z+e.z,N⟩:=λe he hle=>⟨hN,λa ha=>by
   have ea:rmZ a ⟨N*v.x+e.x,N*v.y+e.y,N*v.z+e.z,N⟩=N*(a.b-dot a.n v)-dot a.n e:=by simp only[rmZ,dot];grind
   rw[ea];have h1:=hin a (Qiab _ ha) v hv;by_cases ht:dot a.n v=a.b
   ·rw[he a ha ht,ht];simp
   ·have h2:N*1<=N*(a.b-dot a.n v):=Qit (by omega) (by omega)
    have:=hle a ha
    omega⟩
  have y1:=iny d h0' λa ha=>(hb a ha).1
  have y2:=iny (neg d) (λa ha h=>by rw[Yb5,h0' a ha h];rfl) λa ha=>by rw[Yb5];exact (hb a ha).2
  have z:∀a∈c++w,dot a.n v=a.b->dot a.n d=0:=λa ha ht=>by
   have a1:=pb3 h4 hc y1 (h:=a) (hin a ha);have a2:=pb3 h4 hc y2 (h:=a) (hin a ha);have e1:rmZ a ⟨N*v.x+d.x,N*v.y+d.y,N*v.z+d.z,N⟩=N*(a.b-dot a.n v)-dot a.n d:=by simp only[rmZ,dot];grind
   have e2:rmZ a ⟨N*v.x+(neg d).x,N*v.y+(neg d).y,N*v.z+(neg d).z,N⟩=N*(a.b-dot a.n v)+dot a.n d:=by simp only[rmZ,dot,neg];grind
   rw[e1,ht] at a1;rw[e2,ht] at a2;simp only[Int.sub_self,Qiaj] at a1 a2;omega
  exact hd (Na5 hw (z p hp t1) (z q hq t2) (z s hs t3))
end Go.Ev.Ce
namespace Go.Ev.Ce
open Go Go.Ev Go.Ev.L Go.Proofs
theorem Md1{v:V3}(h:g3 v=0):v=⟨0,0,0⟩:=by
 unfold g3 at h;have h:Nat.gcd (Nat.gcd v.x.natAbs v.y.natAbs) v.z.natAbs=0:=by omega
 rw[Nat.gcd_eq_zero_iff,Nat.gcd_eq_zero_iff] at h;exact V3.ext' (by show v.x=0;omega) (by show v.y=0;omega) (by show v.z=0;omega)
theorem va8{a c k:V3}(ha:inV a=true)(hc:inV c=true)(hk:inV k=true)(h:N3 a c k≠⟨0,0,0⟩):(A8 a c k).2=true:=by
 unfold A8;rw[ha,hc,hk];simp only[Qix,if_true];rw[if_neg (λh0=>h (Md1 h0):¬ g3 (a8 (sub c a) (sub k a))=0)]
theorem uc6{a c k:V3}{p:Pln}(h:Thr a c k p):N3 a c k≠⟨0,0,0⟩:=λe=>by
 obtain⟨ok,⟨g,hg,e1,e2,e3⟩,_⟩:=h;have e':a8 (sub c a) (sub k a)=⟨0,0,0⟩:=e;rw[e'] at e1 e2 e3;have z:∀{x:Int},g*x=0->x=0:=λh=>(Qic.1 h).resolve_left (by omega)
 exact Qa7 ok (V3.ext' (z e1) (z e2) (z e3))
theorem jc1{a c k:V3}{p:Pln}(h:Thr a c k p):dot p.n a=p.b/\dot p.n c=p.b/\dot p.n k=p.b:=by
 obtain⟨ok,⟨g,hg,e1,e2,e3⟩,o⟩:=h;have z:∀{x y:Int},g*(x-y)=0->x=y:=λh=>by have:=(Qic.1 h).resolve_left (by omega);omega
 refine⟨o.symm,?_,?_⟩
 ·rw[o];apply z
  have:g*(dot p.n c-dot p.n a)=(g*p.n.x)*(c.x-a.x)+(g*p.n.y)*(c.y-a.y)+(g*p.n.z)*(c.z-a.z):=by simp only[dot];grind
  rw[this,e1,e2,e3];simp only[a8,sub];grind
 ·rw[o];apply z
  have:g*(dot p.n k-dot p.n a)=(g*p.n.x)*(k.x-a.x)+(g*p.n.y)*(k.y-a.y)+(g*p.n.z)*(k.z-a.z):=by simp only[dot];grind
  rw[this,e1,e2,e3];simp only[a8,sub];grind
theorem ya8(p:Pln)(v:V3):dot (U3 p).n v=(U3 p).b↔dot p.n v=p.b:=by
 rw[lb9];show -dot p.n v=-p.b↔_;omega
theorem mb0{a c k:V3}{p q:Pln}(h:Thr a c k q)(hp:okp p=true)(t1:dot p.n a=p.b)(t2:dot p.n c=p.b)(t3:dot p.n k=p.b):p=q\/p=U3 q:=by
 obtain⟨s1,s2,s3⟩:=jc1 h;obtain⟨ok,⟨g,hg,e1,e2,e3⟩,o⟩:=h;have d1:dot p.n (sub c a)=0:=by simp only[dot,sub] at *;grind
 have d2:dot p.n (sub k a)=0:=by simp only[dot,sub] at *;grind
 have hc:a8 q.n p.n=⟨0,0,0⟩:=by
  have z:∀{x:Int},g*x=0->x=0:=λh=>(Qic.1 h).resolve_left (by omega)
  generalize sub c a=u at *
  generalize sub k a=w at *
  refine V3.ext' (z ?_) (z ?_) (z ?_)
  ·have:g*(a8 q.n p.n).x=(g*q.n.y)*p.n.z-(g*q.n.z)*p.n.y:=by simp only[a8];grind
   rw[this,e2,e3]
   have:(a8 u w).y*p.n.z-(a8 u w).z*p.n.y=w.x*dot p.n u-u.x*dot p.n w:=by simp only[a8,dot];grind
   rw[this,d1,d2];simp
  ·have:g*(a8 q.n p.n).y=(g*q.n.z)*p.n.x-(g*q.n.x)*p.n.z:=by simp only[a8];grind
   rw[this,e1,e3]
   have:(a8 u w).z*p.n.x-(a8 u w).x*p.n.z=w.y*dot p.n u-u.y*dot p.n w:=by simp only[a8,dot];grind
   rw[this,d1,d2];simp
  ·have:g*(a8 q.n p.n).z=(g*q.n.x)*p.n.y-(g*q.n.y)*p.n.x:=by simp only[a8];grind
   rw[this,e1,e2]
   have:(a8 u w).x*p.n.y-(a8 u w).y*p.n.x=w.z*dot p.n u-u.z*dot p.n w:=by simp only[a8,dot];grind
   rw[this,d1,d2];simp
 obtain⟨pn,pb⟩:=p;obtain⟨qn,qb⟩:=q
 rcases Nc2 (jc0 ok) (jc0 hp) hc with e|e
 ·left
  simp only at e o t1 s1 t2 t3
  subst e;rw[<- t1,s1]
 ·right
  simp only at e o t1 s1 t2 t3
  subst e;rw[<- t1];simp only[dot,neg,U3] at s1 ⊢;simp only[Pln.mk.injEq,true_and]
  grind
structure wa9(l:List V3)(p:Pln):Prop extends Fac l p.n p.b where
 ok:okp p=true
theorem Gb2{l:List V3}{p:Pln}{u w x:V3}(hu:u∈l)(hw:w∈l)(hx:x∈l)(h:Thr u w x p)(hh:∀v∈l,dot (U3 p).n v<=(U3 p).b):wa9 l (U3 p):=by
 obtain⟨s1,s2,s3⟩:=jc1 h;exact⟨⟨hh,u,w,x,hu,hw,hx,uc6 h,(ya8 p u).2 s1,(ya8 p w).2 s2,(ya8 p x).2 s3⟩,Fb8 h.ok⟩
theorem Yb7{l:List V3}{p:Pln}{u w x:V3}(hu:u∈l)(hw:w∈l)(hx:x∈l)(h:Thr u w x p)(hh:∀v∈l,dot p.n v<=p.b):wa9 l p:=by
 obtain⟨s1,s2,s3⟩:=jc1 h;exact⟨⟨hh,u,w,x,hu,hw,hx,uc6 h,s1,s2,s3⟩,h.ok⟩
theorem yd1{u w x:V3}(h:N3 u w x≠⟨0,0,0⟩):N3 w u x≠⟨0,0,0⟩/\N3 u x w≠⟨0,0,0⟩/\N3 x w u≠⟨0,0,0⟩/\N3 w x u≠⟨0,0,0⟩/\N3 x u w≠⟨0,0,0⟩:=by
 have e1:N3 w u x=neg (N3 u w x):=V3.ext' (by simp only[N3,a8,d7,neg];grind) (by simp only[N3,a8,d7,neg];grind) (by simp only[N3,a8,d7,neg];grind)
 have e2:N3 u x w=neg (N3 u w x):=V3.ext' (by simp only[N3,a8,d7,neg];grind) (by simp only[N3,a8,d7,neg];grind) (by simp only[N3,a8,d7,neg];grind)
 have e3:N3 x w u=neg (N3 u w x):=V3.ext' (by simp only[N3,a8,d7,neg];grind) (by simp only[N3,a8,d7,neg];grind) (by simp only[N3,a8,d7,neg];grind)
 have e4:N3 w x u=N3 u w x:=V3.ext' (by simp only[N3,a8,d7];grind) (by simp only[N3,a8,d7];grind) (by simp only[N3,a8,d7];grind)
 have e5:N3 x u w=N3 u w x:=V3.ext' (by simp only[N3,a8,d7];grind) (by simp only[N3,a8,d7];grind) (by simp only[N3,a8,d7];grind)
 rw[e1,e2,e3,e4,e5];exact⟨Bc8 h,Bc8 h,Bc8 h,h,h⟩
theorem he8{u w x:V3}(h:N3 u w x≠⟨0,0,0⟩):u≠w/\u≠x/\w≠x:=by
 refine⟨λe=>h ?_,λe=>h ?_,λe=>h ?_⟩<;>subst e<;>refine V3.ext' ?_ ?_ ?_<;>simp only[N3,a8,d7]<;>grind
theorem ae1 {l : List V3} {u w x : V3} (hu : u ∈ l) (hw : w ∈ l) (hx : x ∈ l) (h : N3 u w x ≠ ⟨0, 0, 0⟩) :
  ∃a,a<l.length/\∃c,c<a/\∃k,k<c/\N3 (gL tV l a) (gL tV l c) (gL tV l k)≠⟨0,0,0⟩/\∀f:V3->Prop,f u->f w->f x->f (gL tV l a)/\f (gL tV l c)/\f (gL tV l k):=by
 obtain⟨i,hi,rfl⟩:=Qiad.1 hu;obtain⟨j,hj,rfl⟩:=Qiad.1 hw;obtain⟨k,hk,rfl⟩:=Qiad.1 hx;obtain⟨n1,n2,n3⟩:=he8 h;obtain⟨s1,s2,s3,s4,s5⟩:=yd1 h;have d1:i≠j:=λe=>n1 (by subst e;rfl)
 have d2:i≠k:=λe=>n2 (by subst e;rfl)
 have d3:j≠k:=λe=>n3 (by subst e;rfl)
 rw[<- eb1 tV hi,<- eb1 tV hj,<- eb1 tV hk] at *
 rcases Qiag d1 with h1|h1<;>rcases Qiag d2 with h2|h2<;>rcases Qiag d3 with h3|h3
 ·exact⟨k,hk,j,h3,i,h1,s3,λf a b c=>⟨c,b,a⟩⟩
 ·exact⟨j,hj,k,h3,i,h2,s4,λf a b c=>⟨b,c,a⟩⟩
 ·omega
 ·exact⟨j,hj,i,h1,k,h2,s1,λf a b c=>⟨b,a,c⟩⟩
 ·exact⟨k,hk,i,h2,j,h1,s5,λf a b c=>⟨c,a,b⟩⟩
 ·omega
 ·exact⟨i,hi,k,h2,j,h3,s2,λf a b c=>⟨a,c,b⟩⟩
 ·exact⟨i,hi,j,h1,k,h3,h,λf a b c=>⟨a,b,c⟩⟩
theorem z7{l:List V3}(hl:l.all inV=true)(p:Pln):p∈F0 l↔wa9 l p:=by
 have hin:=Qij.1 hl;constructor
 ·intro hp;obtain⟨a,ha,c,hc,k,hk,h1,h2⟩:=(Wc3 l p).1 hp;have ma:=gLm ha;have mc:=gLm (show c<l.length by omega)
  have mk:=gLm (show k<l.length by omega)
  have ht:=(da7 h1).2
  rcases h2 with⟨rfl,h3⟩|⟨rfl,h3⟩
  ·exact Yb7 ma mc mk ht ((Ya1 ht.ok hl).1 h3)
  ·exact Gb2 ma mc mk ht ((Ya1 (Fb8 ht.ok) hl).1 h3)
 ·intro h;obtain⟨u,w,x,hu,hw,hx,h3,t1,t2,t3⟩:=h.on;obtain⟨a,ha,c,hc,k,hk,hn,hall⟩:=ae1 hu hw hx h3;obtain⟨i1,i2,i3⟩:=hall (λv=>inV v=true) (hin u hu) (hin w hw) (hin x hx)
  obtain⟨e1,e2,e3⟩:=hall (λv=>dot p.n v=p.b) t1 t2 t3
  have h2:=va8 i1 i2 i3 hn;refine (Wc3 l p).2 ⟨a,ha,c,hc,k,hk,h2,?_⟩;have hh:=(Ya1 h.ok hl).2 h.hd
  rcases mb0 (da7 h2).2 h.ok e1 e2 e3 with e|e
  ·exact .inl ⟨e,hh⟩
  ·exact .inr ⟨e,hh⟩
theorem dd0{n:V3}(h:n≠⟨0,0,0⟩):0<dot n n:=by
 have sq:∀a:Int,0<=a*a:=λa=>by
  by_cases h:0<=a
  ·exact Qig h h
  ·have:=Qig (show 0<=-a by omega) (show 0<=-a by omega)
   rw[Int.neg_mul_neg] at this;exact this
 have z:∀{a:Int},a*a=0->a=0:=λh=>(Qic.1 h).elim id id
 have s1:=sq n.x;have s2:=sq n.y;have s3:=sq n.z;by_cases h0:0<dot n n
 ·exact h0
 ·exfalso;simp only[dot] at h0;exact h (V3.ext' (z (by omega)) (z (by omega)) (z (by omega)))
theorem dd1{l:List V3}(hl:l.all inV=true){c:List Pln}(hc:∀p,wa9 l p->p∈c):ae0 l c:=λn b hn hf=>by
 have hin:=Qij.1 hl;obtain⟨u,w,x,hu,hw,hx,h3,t1,t2,t3⟩:=hf.on;have h2:=va8 (hin u hu) (hin w hw) (hin x hx) h3;have ht:=(da7 h2).2;generalize (A8 u w x).1=q at ht;obtain⟨s1,s2,s3⟩:=jc1 ht;have hnn:=dd0 hn;have d1:dot n (d7 w u)=0:=by simp only[dot,d7] at *;grind
 have d2:dot n (d7 x u)=0:=by simp only[dot,d7] at *;grind
 -- the normals are parallel
 have par:dot n n*q.n.x=dot q.n n*n.x/\dot n n*q.n.y=dot q.n n*n.y/\dot n n*q.n.z=dot q.n n*n.z:=by
  obtain⟨ok,⟨g,hg,e1,e2,e3⟩,o⟩:=ht;have z:∀{x y:Int},g*(x-y)=0->x=y:=λh=>by have:=(Qic.1 h).resolve_left (by omega);omega
  have eg:g*dot q.n n=(a8 (d7 w u) (d7 x u)).x*n.x+(a8 (d7 w u) (d7 x u)).y*n.y+(a8 (d7 w u) (d7 x u)).z*n.z:=by
   have:g*dot q.n n=(g*q.n.x)*n.x+(g*q.n.y)*n.y+(g*q.n.z)*n.z:=by simp only[dot];grind
   rw[this,e1,e2,e3];rfl
  have e1:g*q.n.x=(a8 (d7 w u) (d7 x u)).x:=e1;have e2:g*q.n.y=(a8 (d7 w u) (d7 x u)).y:=e2;have e3:g*q.n.z=(a8 (d7 w u) (d7 x u)).z:=e3;generalize d7 w u=p at *
  generalize d7 x u=r at *
  refine⟨z ?_,z ?_,z ?_⟩
  ·have:g*(dot n n*q.n.x-dot q.n n*n.x)=dot n n*(g*q.n.x)-(g*dot q.n n)*n.x:=by grind
   rw[this,e1,eg]
   have:dot n n*(a8 p r).x-((a8 p r).x*n.x+(a8 p r).y*n.y+(a8 p r).z*n.z)*n.x=(n.y*r.z-n.z*r.y)*dot n p-(n.y*p.z-n.z*p.y)*dot n r:=by simp only[dot,a8];grind
   rw[this,d1,d2];simp
  ·have:g*(dot n n*q.n.y-dot q.n n*n.y)=dot n n*(g*q.n.y)-(g*dot q.n n)*n.y:=by grind
   rw[this,e2,eg]
   have:dot n n*(a8 p r).y-((a8 p r).x*n.x+(a8 p r).y*n.y+(a8 p r).z*n.z)*n.y=(n.z*r.x-n.x*r.z)*dot n p-(n.z*p.x-n.x*p.z)*dot n r:=by simp only[dot,a8];grind
   rw[this,d1,d2];simp
  ·have:g*(dot n n*q.n.z-dot q.n n*n.z)=dot n n*(g*q.n.z)-(g*dot q.n n)*n.z:=by grind
   rw[this,e3,eg]
   have:dot n n*(a8 p r).z-((a8 p r).x*n.x+(a8 p r).y*n.y+(a8 p r).z*n.z)*n.z=(n.x*r.y-n.y*r.x)*dot n p-(n.x*p.y-n.y*p.x)*dot n r:=by simp only[dot,a8];grind
   rw[this,d1,d2];simp
 have fin:∀r:Pln,Thr u w x q->(r=q\/r=U3 q)->0<dot r.n n->(dot n n*r.n.x=dot r.n n*n.x/\dot n n*r.n.y=dot r.n n*n.y/\dot n n*r.n.z=dot r.n n*n.z)->∃s t:Int,0<s/\0<t/\∃q∈c,t*q.n.x=s*n.x/\t*q.n.y=s*n.y/\t*q.n.z=s*n.z/\t*q.b=s*b:=λr ht hr hp ⟨p1,p2,p3⟩=>by
  have hru:dot r.n u=r.b:=by
   rcases hr with rfl|rfl
   ·exact s1
   ·exact (ya8 q u).2 s1
  have ed:∀v,dot n n*dot r.n v=dot r.n n*dot n v:=λv=>by
   have:dot n n*dot r.n v=(dot n n*r.n.x)*v.x+(dot n n*r.n.y)*v.y+(dot n n*r.n.z)*v.z:=by
    generalize dot n n=t;simp only[dot];grind
   rw[this,p1,p2,p3];generalize dot r.n n=s;simp only[dot];grind
  have eb:dot n n*r.b=dot r.n n*b:=by rw[<- hru,ed,t1]
  have hd:∀v∈l,dot r.n v<=r.b:=λv hv=>by
   have h1:=Qit (hf.hd v hv) (Qie hp);rw[<- ed,<- eb] at h1;exact Int.le_of_mul_le_mul_left h1 hnn
  have hF:wa9 l r:=by
   rcases hr with rfl|rfl
   ·exact Yb7 hu hw hx ht hd
   ·exact Gb2 hu hw hx ht hd
  exact⟨dot r.n n,dot n n,hp,hnn,r,hc r hF,p1,p2,p3,eb⟩
 by_cases h0:0<dot q.n n
 ·exact fin q ht (.inl rfl) h0 par
 ·refine fin (U3 q) ht (.inr rfl) ?_ ?_
  ·rw[lb9]
   have:dot q.n n≠0:=λe=>by
    obtain⟨p1,p2,p3⟩:=par;rw[e] at p1 p2 p3;simp only[Qiv] at p1 p2 p3;have z:∀{x:Int},dot n n*x=0->x=0:=λh=>(Qic.1 h).resolve_left (by omega)
    exact Qa7 ht.ok (V3.ext' (z p1) (z p2) (z p3))
   omega
  ·rw[lb9];obtain⟨p1,p2,p3⟩:=par;show dot n n*-q.n.x=_/\dot n n*-q.n.y=_/\dot n n*-q.n.z=_;rw[Int.mul_neg,Int.mul_neg,Int.mul_neg,p1,p2,p3,Qiak,Qiak,Qiak];exact⟨rfl,rfl,rfl⟩
end Go.Ev.Ce
