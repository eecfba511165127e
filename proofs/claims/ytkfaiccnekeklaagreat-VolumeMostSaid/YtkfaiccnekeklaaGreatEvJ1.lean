/- Own work. -/
import Derived.Test.YtkfaiccnekeklaaGreatEvOaDN
set_option linter.all false
def Qia:=@List.mem_cons
def Qib:=@List.mem_cons_of_mem
def Qic:=@List.mem_cons_self
def Qid:=@Bool.and_eq_true
def Qie:=@Int.le_of_lt
def Qif:=@Int.mul_eq_zero
def Qig:=@Bool.and_true
def Qih:=@Int.mul_nonneg
def Qii:=@List.mem_map
def Qij:=@Nat.gcd_dvd_right
def Qik:=@List.any_eq_true
def Qil:=@Nat.gcd_dvd_left
def Qim:=@Int.natCast_dvd_natCast
def Qin:=@Nat.dvd_trans
def Qio:=@List.all_eq_true
def Qip:=@Bool.and_self
def Qiq:=@Classical.byContradiction
def Qir:=@Int.mul_pos
def Qis:=@List.pairwise_cons
def Qit:=@Int.mul_le_mul_of_nonneg_right
def Qiu:=@Int.dvd_natAbs
def Qiv:=@Int.mul_tdiv_cancel'
def Qiw:=@Nat.lt_irrefl
def Qix:=@Nat.gcd_pos_of_pos_right
def Qiy:=@Nat.beq_refl
def Qiz:=@Int.zero_mul
def Qiaa:=@Bool.not_eq_true'
def Qiab:=@List.not_mem_nil
def Qiac:=@List.mem_append_left
def Qiad:=@Int.nonneg_of_mul_nonneg_right
def Qiae:=@Int.mul_le_mul_of_nonneg_left
def Qiaf:=@Eq.trans
def Qiag:=@Bool.false_eq_true
def Qiah:=@List.getD_eq_getElem?_getD
def Qiai:=@Int.eq_of_mul_eq_mul_left
def Qiaj:=@Nat.zero_add
def Qiak:=@Int.mul_zero
def Qial:=@List.length_set
def Qiam:=@List.drop_zero
def Qian:=@List.mem_range
namespace Go.Ev.Ce
open Go Go.Ev Go.Ev.L Go.Proofs
set_option maxRecDepth 100000
structure xa6 where
 (ia3 ia4 ia5 ue4 e7 d9 g7:Int)
noncomputable def Zb6:List (Nat×Sum):=[(35,pa0)]
theorem Rb3:k9 prog G Zb6:=⟨ta0,trivial⟩
structure xa7 where
 bs0:Bool
noncomputable def da1{α:Type}(kk:xa7->α)(x:xa6):α:=let t1:=(z6 (⟨x.e7,x.d9,x.g7⟩:V3) (⟨x.ia3,x.ia4,x.ia5⟩:V3));(kk ⟨t1 != 0⟩)
noncomputable def Na1(x:xa6):xa7:=da1 (λr=>r) x
noncomputable def Ha2(x:xa6)(r:xa7):DT (b7×List c8):=.ret (b r.bs0,[⟨0,3,[[i x.e7,i x.d9,i x.g7]],true,false,0⟩])
theorem kc3{α β:Type}(F:α->β)(kk:xa7->α)(x:xa6):F (da1 kk x)=da1 (λr=>F (kk r)) x:=by unfold da1;(repeat' apply u7 (f:=F))<;>rfl
noncomputable def pb3:Sum:=kb7 ⟨[.agg (kLq 4),sPq 0],[⟨0,3,true,some [kLq 3]⟩],λa H=>(⟨cIq a 0 0,cIq a 0 1,cIq a 0 2,cIq a 0 3,hIq H 0 0 0,hIq H 0 0 1,hIq H 0 0 2⟩,())⟩ (λx=>Ha2 x (Na1 x))
theorem Zb7:i5 prog G 87 pb3:=ba4 (enc:=λx=>⟨[.agg [i x.ia3,i x.ia4,i x.ia5,i x.ue4],.ptr 0 0 0 0],[⟨0,3,[[i x.e7,i x.d9,i x.g7]],true,false,0⟩]⟩) (λa H=>by kernel_rfl) (bd b87 Rb3) λx=>C8 (Qiaf (b:=da1 (λr=>(Ha2 x r).run) x) (by kernel_rfl) (kc3 (λr=>(Ha2 x r).run) (λr=>r) x).symm)
structure P2 where
 ba0:List Pln
 (e7 d9 g7:Int)
noncomputable def qa6:List (Nat×Sum):=[(87,pb3)]
theorem Qa5:k9 prog G qa6:=⟨Zb7,trivial⟩
structure D8 where
 ba0:List Pln
 (is7 e7 d9 g7:Int)
structure m8 where
 is8:Int
noncomputable def la4(p:D8)(s:m8):St:=⟨eL tP p.ba0::.fn 87 [.ptr 0 0 0 0]::ra 5 (i p.is7::i s.is8::ra 10 []),[⟨0,3,[[i p.e7,i p.d9,i p.g7]],true,false,0⟩]⟩
noncomputable def B7{α:Type}(k:m8->α)(e:Nat->α)(z:α)(p:D8)(s:m8):α:=let t1:=(Na1 ⟨(gL tP p.ba0 s.is8.toNat).n.x,(gL tP p.ba0 s.is8.toNat).n.y,(gL tP p.ba0 s.is8.toNat).n.z,(gL tP p.ba0 s.is8.toNat).b,p.e7,p.d9,p.g7⟩);(sl (decide (s.is8<p.is7)) (sl (inB s.is8 (List.length p.ba0)) (sl t1.bs0 (e 1) (k ⟨W (s.is8+1)⟩)) z) (e 2))
noncomputable def C9(p:D8)(s:m8):Stp m8:=B7 .next .exit .fail p s
noncomputable def Y1:Lo D8 m8:=⟨En qa6,1,Ie4,[1,0,1,4,4],[0,1,7,8],.p,[⟨sLq tP::.fn 87 [.o (.ptr 0 0 0 0)]::ru2 5 (sIq::sIq::ru2 10 []),[⟨0,3,true,some [kLq 3]⟩],λa H=>(⟨aLq tP a 0,aIq a 7,hIq H 0 0 0,hIq H 0 0 1,hIq H 0 0 2⟩,⟨aIq a 8⟩)⟩],C9,[(none,λp s=>⟨[i s.is8],[⟨0,3,[[i p.e7,i p.d9,i p.g7]],true,false,0⟩]⟩),(some 0,λp s=>upq (la4 p s) [(9,b (decide (s.is8<p.is7)))])],la4⟩
theorem Na2:Y1.Ok:=Lo.ok [] (by kernel_rfl) .nil rfl (.cons (λa H=>by kernel_rfl) .nil) λp s=>(.of @B7 (λF _ _ _ _ _=>by unfold B7;(repeat' apply u7 (f:=F))<;>rfl) (by kernel_rfl))
structure P4 where
 alt:Nat
 is0:Int
noncomputable def C1{α:Type}(kk:P4->α)(x:P2):α:=let t1:=(lp (C9 (⟨rt tP x.ba0,(↑(List.length x.ba0):Int),x.e7,x.d9,x.g7⟩:D8)) (⟨0⟩:m8));(sl ((cnE tP x.ba0)&&true) (sl (Nat.beq t1.1 1) (kk ⟨1,t1.2.is8⟩) (sl (Nat.beq t1.1 2) (kk ⟨1,-1⟩) (kk ⟨0,0⟩))) (kk ⟨0,0⟩))
noncomputable def P5(x:P2):P4:=C1 (λr=>r) x
noncomputable def aa5(x:P2)(r:P4):DT (b7×List c8):=(.ite (Nat.beq r.alt 1) (.ret (i r.is0,[⟨0,3,[[i x.e7,i x.d9,i x.g7]],true,false,0⟩])) .fail)
theorem Ya3{α β:Type}(F:α->β)(kk:P4->α)(x:P2):F (C1 kk x)=C1 (λr=>F (kk r)) x:=by unfold C1;(repeat' apply u7 (f:=F))<;>rfl
noncomputable def ua3:Sum:=kb7 ⟨[sLq tP,.fn 87 [.o (.ptr 0 0 0 0)]],[⟨0,3,true,some [kLq 3]⟩],λa H=>(⟨aLq tP a 0,hIq H 0 0 0,hIq H 0 0 1,hIq H 0 0 2⟩,())⟩ (λx=>aa5 x (P5 x))
theorem Wa5:i5 prog G 82 ua3:=ba4 (enc:=λx=>⟨[eL tP x.ba0,.fn 87 [.ptr 0 0 0 0]],[⟨0,3,[[i x.e7,i x.d9,i x.g7]],true,false,0⟩]⟩) (λa H=>by kernel_rfl) (bd b82 Qa5) λx=>fb5 (.s .p (.s (.s .p (.b (.u Y1.ls))) .p)) [Y1.pr] (by kernel_rfl) (.cons Na2 .nil) (Qiaf (b:=C1 (λr=>(aa5 x r).run) x) (by kernel_rfl) (Ya3 (λr=>(aa5 x r).run) (λr=>r) x).symm)
structure K4 where
 ba0:List Pln
 (e7 d9 g7:Int)
noncomputable def La1:List (Nat×Sum):=[(82,ua3)]
theorem Ha3:k9 prog G La1:=⟨Wa5,trivial⟩
structure K5 where
 alt:Nat
 bs0:Bool
noncomputable def w8{α:Type}(kk:K5->α)(x:K4):α:=let t1:=(P5 ⟨rt tP x.ba0,x.e7,x.d9,x.g7⟩);(sl ((cnE tP x.ba0)&&true) (sl (Nat.beq t1.alt 1) (kk ⟨1,decide (t1.is0>=0)⟩) (kk ⟨0,false⟩)) (kk ⟨0,false⟩))
noncomputable def K6(x:K4):K5:=w8 (λr=>r) x
noncomputable def T5(x:K4)(r:K5):DT (b7×List c8):=(.ite (Nat.beq r.alt 1) (.ret (b r.bs0,[⟨0,3,[[i x.e7,i x.d9,i x.g7]],true,false,0⟩])) .fail)
theorem Na3{α β:Type}(F:α->β)(kk:K5->α)(x:K4):F (w8 kk x)=w8 (λr=>F (kk r)) x:=by unfold w8;(repeat' apply u7 (f:=F))<;>rfl
noncomputable def la5:Sum:=kb7 ⟨[sLq tP,.fn 87 [.o (.ptr 0 0 0 0)]],[⟨0,3,true,some [kLq 3]⟩],λa H=>(⟨aLq tP a 0,hIq H 0 0 0,hIq H 0 0 1,hIq H 0 0 2⟩,())⟩ (λx=>T5 x (K6 x))
theorem La2:i5 prog G 50 la5:=ba4 (enc:=λx=>⟨[eL tP x.ba0,.fn 87 [.ptr 0 0 0 0]],[⟨0,3,[[i x.e7,i x.d9,i x.g7]],true,false,0⟩]⟩) (λa H=>by kernel_rfl) (bd b50 Ha3) λx=>C8 (Qiaf (b:=w8 (λr=>(T5 x r).run) x) (by kernel_rfl) (Na3 (λr=>(T5 x r).run) (λr=>r) x).symm)
noncomputable def Wa6:List (Nat×Sum):=[(36,ma4),(50,la5)]
theorem kc4:k9 prog G Wa6:=⟨pa2,La2,trivial⟩
structure la6 where
 (ba0 xb9:List Pln)
 (is9 w7:Int)
 Me7:Nat
 Ld3:Nat->List b7
 (ka3 e7 d9 g7 j9:Int)
structure O9 where
 jb3:Int
noncomputable def hb8(p:la6)(s:O9):St:=⟨eL tP p.ba0::ra 3 (.ptr 0 0 0 0::ra 3 (eL tP p.xb9::i p.is9::i p.w7::ra 6 (.tree 4 p.Me7 p.Ld3::i p.ka3::i s.jb3::ra 18 []))),[⟨0,4,[[i p.e7,i p.d9,i p.g7,i p.j9]],true,false,0⟩]⟩
noncomputable def ea1{α:Type}(k:O9->α)(e:Nat->α)(z:α)(p:la6)(s:O9):α:=let t1:=(B4 (⟨p.e7,p.d9,p.g7⟩:V3) (⟨toI (hdA (p.Ld3 s.jb3.toNat)),toI (hdA (tlA (p.Ld3 s.jb3.toNat))),toI (hdA (tlA (tlA (p.Ld3 s.jb3.toNat))))⟩:V3));let t2:=(K6 ⟨rt tP p.ba0,t1.x,t1.y,t1.z⟩);(sl (decide (s.jb3<p.ka3)) (sl (inB s.jb3 p.Me7) (sl ((Nat.ble 4 (len (p.Ld3 s.jb3.toNat)))&&(na9 [CK.int .i64,CK.int .i64,CK.int .i64,CK.int .i64] (p.Ld3 s.jb3.toNat))) (sl (!((t1.x==0)&&((t1.y==0)&&((t1.z==0)&&true)))) (sl ((cnE tP p.ba0)&&true) (sl (Nat.beq t2.alt 1) (sl t2.bs0 (e 1) (k ⟨W (s.jb3+1)⟩)) z) z) (k ⟨W (s.jb3+1)⟩)) z) z) (e 2))
noncomputable def Z0(p:la6)(s:O9):Stp O9:=ea1 .next .exit .fail p s
noncomputable def Na4:Lo la6 O9:=⟨En Wa6,0,ye5,[1,0,1,4,4,1,1,0,4,1,1,4,4],[0,4,8,9,10,17,18,19],.p,[⟨sLq tP::ru2 3 (sPq 0::ru2 3 (sLq tP::sIq::sIq::ru2 6 (sTq 4::sIq::sIq::ru2 18 []))),[⟨0,4,true,some [kLq 4]⟩],λa H=>(⟨aLq tP a 0,aLq tP a 8,aIq a 9,aIq a 10,aNq a 17,aGq a 17,aIq a 18,hIq H 0 0 0,hIq H 0 0 1,hIq H 0 0 2,hIq H 0 0 3⟩,⟨aIq a 19⟩)⟩],Z0,[(none,λp s=>⟨[b true],[]⟩),(some 2,λp s=>upq (hb8 p s) [(20,b (decide (s.jb3<p.ka3)))])],hb8⟩
theorem Zb8:Na4.Ok:=Lo.ok [] (by kernel_rfl) .nil rfl (.cons (λa H=>by kernel_rfl) .nil) λp s=>(.of @ea1 (λF _ _ _ _ _=>by unfold ea1;(repeat' apply u7 (f:=F))<;>rfl) (by kernel_rfl))
structure la7 where
 is9:Int
structure P0 where
 (ba0 xb9:List Pln)
 w7:Int
noncomputable def hb9(p:la7)(s:P0):St:=⟨eL tP s.ba0::ra 7 (eL tP s.xb9::i p.is9::i s.w7::ra 27 []),[]⟩
noncomputable def ea2{α:Type}(k:P0->α)(e:Nat->α)(z:α)(p:la7)(s:P0):α:=let t1:=(lp (Z0 (⟨rt tP s.ba0,rt tP s.xb9,p.is9,s.w7,s.w7.toNat-0,(λk=>(λk=>(tP).row (gL tP s.ba0 k)) (0+k)),(↑(s.w7.toNat-0):Int),(gL tP s.xb9 s.w7.toNat).n.x,(gL tP s.xb9 s.w7.toNat).n.y,(gL tP s.xb9 s.w7.toNat).n.z,(gL tP s.xb9 s.w7.toNat).b⟩:la6)) (⟨0⟩:O9));(sl (decide (s.w7<p.is9)) (sl (inB s.w7 (List.length s.xb9)) (sl (inB s.w7 ((List.length s.ba0)+1)) (sl ((cnE tP s.ba0)&&((cnE tP s.xb9)&&true)) (sl (Nat.beq t1.1 1) (e 1) (sl (Nat.beq t1.1 2) (k ⟨rt tP s.ba0,rt tP s.xb9,W (s.w7+1)⟩) z)) z) z) z) (e 2))
noncomputable def Z1(p:la7)(s:P0):Stp P0:=ea2 .next .exit .fail p s
noncomputable def Na5:Lo la7 P0:=⟨En Wa6,0,ye5,[1,0,1,4,4],[0,8,9,10],.s .p (.s .p (.s (.b (.s .p (.s .p (.b (.u Na4.ls))))) .p)),[⟨sLq tP::ru2 7 (sLq tP::sIq::sIq::ru2 27 []),[],λa H=>(⟨aIq a 9⟩,⟨aLq tP a 0,aLq tP a 8,aIq a 10⟩)⟩],Z1,[(none,λp s=>⟨[b true],[]⟩),(some 0,λp s=>upq (hb9 p s) [(11,b (decide (s.w7<p.is9)))])],hb9⟩
theorem Zb9:Na5.Ok:=Lo.ok [Na4.pr] (by kernel_rfl) (.cons Zb8 .nil) rfl (.cons (λa H=>by kernel_rfl) .nil) λp s=>(.of @ea2 (λF _ _ _ _ _=>by unfold ea2;(repeat' apply u7 (f:=F))<;>rfl) (by kernel_rfl))
noncomputable def va7(x:List Pln):Option (b7×List c8):=let t1:=(lp (Z1 (⟨(↑(List.length x):Int)⟩:la7)) (⟨rt tP x,rt tP x,0⟩:P0));(sl ((cnE tP x)&&((cnE tP x)&&true)) (sl (Nat.beq t1.1 1) (some (b true,[])) (sl (Nat.beq t1.1 2) (some (b false,[])) none)) none)
noncomputable def ma6(x:List Pln):Bool:=W0 (one r1B) (va7 x)
noncomputable def ma7(x:List Pln):Bool:=okO (one r1B) (va7 x)
noncomputable def Eb6:Sum:=L9 (ya3 tP) (λx=>.guard (ma7 x) (.ret ((one r1B).enc (ma6 x),[])))
theorem xc8:i5 prog G 56 Eb6:=Ga2 (bd b56 kc4) (one r1B) (o:=va7) λx=>fb5 (.s .p (.s (.s .p (.b (.u Na5.ls))) .p)) [Na5.pr] (by kernel_rfl) (.cons Zb9 .nil) (by kernel_rfl)
structure ta7 where
 (ia3 ia4 ia5:Int)
 J5:List Pln
noncomputable def ab5:List (Nat×Sum):=[(30,ta4),(56,Eb6)]
theorem Jb7:k9 prog G ab5:=⟨va1,xc8,trivial⟩
structure F6 where
 Oa5:List Pln
 is8:Int
 J5:List Pln
 (q8 o7 o4:Int)
structure l7 where
 ph:Nat
 is9:Int
 ns4:Nat
 eh2:List (List b7)
noncomputable def La3(p:F6)(s:l7):St:=⟨.unk::.unk::.ptr 1 0 0 0::.unk::.v (.slice none 0 0)::.unk::.unk::eL tP p.Oa5::i p.is8::i s.is9::ra 15 [],[⟨0,1,[[eL tP p.J5]],true,false,0⟩,⟨0,3,[[i p.q8,i p.o7,i p.o4]],true,false,0⟩]⟩
noncomputable def La4(p:F6)(s:l7):St:=⟨.unk::.unk::.ptr 1 0 0 0::.unk::.sl 2 0 s.ns4 0::.unk::.unk::eL tP p.Oa5::i p.is8::i s.is9::ra 15 [],[⟨0,1,[[eL tP p.J5]],true,false,0⟩,⟨0,3,[[i p.q8,i p.o7,i p.o4]],true,false,0⟩,⟨60,4,s.eh2,true,false,0⟩]⟩
noncomputable def Bb9(p:F6)(s:l7):St:=(sel (Nat.beq s.ph 1) (La4 p s) (La3 p s))
noncomputable def F7{α:Type}(k:l7->α)(e:Nat->α)(z:α)(p:F6)(s:l7):α:=let t1:=(K3 (gL tP p.Oa5 s.is9.toNat) (⟨p.q8,p.o7,p.o4⟩:V3));(sl (decide (s.is9<p.is8)) (sl (inB s.is9 (List.length p.Oa5)) (sl (S5 (gL tP p.Oa5 s.is9.toNat) (⟨p.q8,p.o7,p.o4⟩:V3)) (sl (t1==0) (k ⟨1,W (s.is9+1),1,[[i (gL tP p.Oa5 s.is9.toNat).n.x,i (gL tP p.Oa5 s.is9.toNat).n.y,i (gL tP p.Oa5 s.is9.toNat).n.z,i (gL tP p.Oa5 s.is9.toNat).b]]⟩) (k ⟨0,W (s.is9+1),0,[]⟩)) z) z) (e 1))
noncomputable def F8{α:Type}(k:l7->α)(e:Nat->α)(z:α)(p:F6)(s:l7):α:=let t1:=(K3 (gL tP p.Oa5 s.is9.toNat) (⟨p.q8,p.o7,p.o4⟩:V3));(sl (decide (s.is9<p.is8)) (sl (inB s.is9 (List.length p.Oa5)) (sl (S5 (gL tP p.Oa5 s.is9.toNat) (⟨p.q8,p.o7,p.o4⟩:V3)) (sl (t1==0) (sl (Nat.beq s.ns4 (len s.eh2)&&Nat.ble ((s.ns4+1)*32) room) (k ⟨1,W (s.is9+1),s.ns4+1,app s.eh2 [[i (gL tP p.Oa5 s.is9.toNat).n.x,i (gL tP p.Oa5 s.is9.toNat).n.y,i (gL tP p.Oa5 s.is9.toNat).n.z,i (gL tP p.Oa5 s.is9.toNat).b]]⟩) z) (k ⟨1,W (s.is9+1),s.ns4,s.eh2⟩)) z) z) (e 2))
noncomputable def fa9(p:F6)(s:l7):Stp l7:=(sel (Nat.beq s.ph 1) (F8 .next .exit .fail p s) (F7 .next .exit .fail p s))
noncomputable def za0:Lo F6 l7:=⟨En ab5,1,Ie2,[1,1,0,1,4,4],[2,4,7,8,9],.p,[⟨sUq::sUq::sPq 1::sUq::.s (.o .nil)::sUq::sUq::sLq tP::sIq::sIq::ru2 15 [],[⟨0,1,true,some [[.c 4 (nL tP)]]⟩,⟨0,3,true,some [kLq 3]⟩],λa H=>(⟨aLq tP a 7,aIq a 8,hLq tP H 0 0 0,hIq H 1 0 0,hIq H 1 0 1,hIq H 1 0 2⟩,⟨0,aIq a 9,0,[]⟩)⟩,⟨sUq::sUq::sPq 1::sUq::.s (.o (.sl 2 0 (some 0) none))::sUq::sUq::sLq tP::sIq::sIq::ru2 15 [],[⟨0,1,true,some [[.c 4 (nL tP)]]⟩,⟨0,3,true,some [kLq 3]⟩,⟨60,4,true,none⟩],λa H=>(⟨aLq tP a 7,aIq a 8,hLq tP H 0 0 0,hIq H 1 0 0,hIq H 1 0 1,hIq H 1 0 2⟩,⟨1,aIq a 9,slN (slT a 4),elT H 2⟩)⟩],fa9,[(some 0,λp s=>upq (La3 p s) [(10,b (decide (s.is9<p.is8)))]),(some 0,λp s=>upq (La4 p s) [(10,b (decide (s.is9<p.is8)))])],Bb9⟩
theorem Cb0:za0.Ok:=Lo.ok [] (by kernel_rfl) .nil rfl (.cons (λa H=>by kernel_rfl) (.cons (λa H=>by kernel_rfl) .nil)) λp s=>(.sel (Nat.beq s.ph 1) (.of @F8 (λF _ _ _ _ _=>by unfold F8;(repeat' apply u7 (f:=F))<;>rfl) (by kernel_rfl)) (.of @F7 (λF _ _ _ _ _=>by unfold F7;(repeat' apply u7 (f:=F))<;>rfl) (by kernel_rfl)))
structure ta8 where
 alt:Nat
 bs0:Bool
 J5:List Pln
noncomputable def Z2{α:Type}(kk:ta8->α)(x:ta7):α:=let t1:=(lp (fa9 (⟨rt tP x.J5,(↑(List.length x.J5):Int),rt tP x.J5,x.ia3,x.ia4,x.ia5⟩:F6)) (⟨0,0,0,[]⟩:l7));let t2:=(ma6 []);let t3:=(ma6 (slR tP t1.2.eh2 0 t1.2.ns4));(sl ((cnE tP x.J5)&&((cnE tP x.J5)&&true)) (sl (Nat.beq t1.1 1) (sl (ma7 []) (kk ⟨1,!t2,rt tP x.J5⟩) (kk ⟨0,false,[]⟩)) (sl (Nat.beq t1.1 2) (sl (okS tP t1.2.eh2 0 t1.2.ns4) (sl (ma7 (slR tP t1.2.eh2 0 t1.2.ns4)) (kk ⟨1,!t3,rt tP x.J5⟩) (kk ⟨0,false,[]⟩)) (kk ⟨0,false,[]⟩)) (kk ⟨0,false,[]⟩))) (kk ⟨0,false,[]⟩))
noncomputable def R7(x:ta7):ta8:=Z2 (λr=>r) x
noncomputable def Da4(x:ta7)(r:ta8):DT (b7×List c8):=(.ite (Nat.beq r.alt 1) (.ret (b r.bs0,[⟨0,1,[[eL tP r.J5]],true,false,0⟩])) .fail)
theorem ac0{α β:Type}(F:α->β)(kk:ta8->α)(x:ta7):F (Z2 kk x)=Z2 (λr=>F (kk r)) x:=by unfold Z2;(repeat' apply u7 (f:=F))<;>rfl
noncomputable def Ha4:Sum:=kb7 ⟨[.agg (kLq 3),sPq 0],[⟨0,1,true,some [[.c 4 (nL tP)]]⟩],λa H=>(⟨cIq a 0 0,cIq a 0 1,cIq a 0 2,hLq tP H 0 0 0⟩,())⟩ (λx=>Da4 x (R7 x))
theorem ab6:i5 prog G 55 Ha4:=ba4 (enc:=λx=>⟨[.agg [i x.ia3,i x.ia4,i x.ia5],.ptr 0 0 0 0],[⟨0,1,[[eL tP x.J5]],true,false,0⟩]⟩) (λa H=>by kernel_rfl) (bd b55 Jb7) λx=>fb5 (.s .p (.s .p (.s (.s .p (.b (.u za0.ls))) .p))) [za0.pr] (by kernel_rfl) (.cons Cb0 .nil) (Qiaf (b:=Z2 (λr=>(Da4 x r).run) x) (by kernel_rfl) (ac0 (λr=>(Da4 x r).run) (λr=>r) x).symm)
structure U9 where
 ns0:Nat
 eh0:List (List b7)
 u9:List Pln
noncomputable def va8:List (Nat×Sum):=[(55,Ha4)]
theorem Ya4:k9 prog G va8:=⟨ab6,trivial⟩
structure I7 where
 ns0:Nat
 is7:Int
 eh0:List (List b7)
structure o0 where
 is8:Int
 u9:List Pln
noncomputable def qa7(p:I7)(s:o0):St:=⟨.sl 0 0 p.ns0 0::.fn 55 [.ptr 1 0 0 0]::ra 5 (i p.is7::i s.is8::ra 10 []),[⟨25,3,p.eh0,true,false,0⟩,⟨0,1,[[eL tP s.u9]],true,false,0⟩]⟩
noncomputable def D9{α:Type}(k:o0->α)(e:Nat->α)(z:α)(p:I7)(s:o0):α:=let t1:=(R7 ⟨(rdR tV p.eh0 (0+s.is8.toNat)).x,(rdR tV p.eh0 (0+s.is8.toNat)).y,(rdR tV p.eh0 (0+s.is8.toNat)).z,rt tP s.u9⟩);(sl (decide (s.is8<p.is7)) (sl (inB s.is8 p.ns0) (sl (ldR tV p.eh0 (0+s.is8.toNat)) (sl ((cnE tP s.u9)&&true) (sl (Nat.beq t1.alt 1) (sl t1.bs0 (e 1) (k ⟨W (s.is8+1),t1.J5⟩)) z) z) z) z) (e 2))
noncomputable def F9(p:I7)(s:o0):Stp o0:=D9 .next .exit .fail p s
noncomputable def ca1:Lo I7 o0:=⟨En va8,2,Sd1,[1,0,1,4,4],[0,1,7,8],.p,[⟨.s (.o (.sl 0 0 (some 0) none))::.fn 55 [.o (.ptr 1 0 0 0)]::ru2 5 (sIq::sIq::ru2 10 []),[⟨25,3,true,none⟩,⟨0,1,true,some [[.c 4 (nL tP)]]⟩],λa H=>(⟨slN (slT a 0),aIq a 7,elT H 0⟩,⟨aIq a 8,hLq tP H 1 0 0⟩)⟩],F9,[(none,λp s=>let t1:=(R7 ⟨(rdR tV p.eh0 (0+s.is8.toNat)).x,(rdR tV p.eh0 (0+s.is8.toNat)).y,(rdR tV p.eh0 (0+s.is8.toNat)).z,rt tP s.u9⟩);⟨[i s.is8],[⟨25,3,p.eh0,true,false,0⟩,⟨0,1,[[eL tP t1.J5]],true,false,0⟩]⟩),(some 0,λp s=>upq (qa7 p s) [(9,b (decide (s.is8<p.is7)))])],qa7⟩
theorem Wa7:ca1.Ok:=Lo.ok [] (by kernel_rfl) .nil rfl (.cons (λa H=>by kernel_rfl) .nil) λp s=>(.of @D9 (λF _ _ _ _ _=>by unfold D9;(repeat' apply u7 (f:=F))<;>rfl) (by kernel_rfl))
structure V0 where
 alt:Nat
 is0:Int
 u9:List Pln
noncomputable def E5{α:Type}(kk:V0->α)(x:U9):α:=let t1:=(lp (F9 (⟨x.ns0,(↑x.ns0:Int),x.eh0⟩:I7)) (⟨0,rt tP x.u9⟩:o0));let t2:=(R7 ⟨(rdR tV x.eh0 (0+t1.2.is8.toNat)).x,(rdR tV x.eh0 (0+t1.2.is8.toNat)).y,(rdR tV x.eh0 (0+t1.2.is8.toNat)).z,rt tP t1.2.u9⟩);(sl ((cnE tP x.u9)&&true) (sl (Nat.beq t1.1 1) (kk ⟨1,t1.2.is8,t2.J5⟩) (sl (Nat.beq t1.1 2) (kk ⟨1,-1,t1.2.u9⟩) (kk ⟨0,0,[]⟩))) (kk ⟨0,0,[]⟩))
noncomputable def V1(x:U9):V0:=E5 (λr=>r) x
noncomputable def fa3(x:U9)(r:V0):DT (b7×List c8):=(.ite (Nat.beq r.alt 1) (.ret (i r.is0,[⟨25,3,x.eh0,true,false,0⟩,⟨0,1,[[eL tP r.u9]],true,false,0⟩])) .fail)
theorem ib0{α β:Type}(F:α->β)(kk:V0->α)(x:U9):F (E5 kk x)=E5 (λr=>F (kk r)) x:=by unfold E5;(repeat' apply u7 (f:=F))<;>rfl
noncomputable def Aa2:Sum:=kb7 ⟨[.s (.o (.sl 0 0 (some 0) none)),.fn 55 [.o (.ptr 1 0 0 0)]],[⟨25,3,true,none⟩,⟨0,1,true,some [[.c 4 (nL tP)]]⟩],λa H=>(⟨slN (slT a 0),elT H 0,hLq tP H 1 0 0⟩,())⟩ (λx=>fa3 x (V1 x))
theorem db6:i5 prog G 88 Aa2:=ba4 (enc:=λx=>⟨[.sl 0 0 x.ns0 0,.fn 55 [.ptr 1 0 0 0]],[⟨25,3,x.eh0,true,false,0⟩,⟨0,1,[[eL tP x.u9]],true,false,0⟩]⟩) (λa H=>by kernel_rfl) (bd b88 Ya4) λx=>fb5 (.s .p (.s (.s .p (.b (.u ca1.ls))) .p)) [ca1.pr] (by kernel_rfl) (.cons Wa7 .nil) (Qiaf (b:=E5 (λr=>(fa3 x r).run) x) (by kernel_rfl) (ib0 (λr=>(fa3 x r).run) (λr=>r) x).symm)
structure V2 where
 ns0:Nat
 eh0:List (List b7)
 u9:List Pln
noncomputable def va9:List (Nat×Sum):=[(88,Aa2),(55,Ha4)]
theorem Ya5:k9 prog G va9:=⟨db6,ab6,trivial⟩
structure I8 where
 ns0:Nat
structure r6 where
 (is5 is6:Int)
 eh0:List (List b7)
 u9:List Pln
noncomputable def qa8(p:I8)(s:r6):St:=⟨.sl 0 0 p.ns0 0::.fn 55 [.ptr 1 0 0 0]::ra 3 (i s.is5::i s.is6::ra 35 []),[⟨25,3,s.eh0,true,false,0⟩,⟨0,1,[[eL tP s.u9]],true,false,0⟩]⟩
noncomputable def E0{α:Type}(k:r6->α)(e:Nat->α)(z:α)(p:I8)(s:r6):α:=let t1:=(R7 ⟨(rdR tV s.eh0 (0+s.is6.toNat)).x,(rdR tV s.eh0 (0+s.is6.toNat)).y,(rdR tV s.eh0 (0+s.is6.toNat)).z,rt tP s.u9⟩);(sl (decide (s.is6<(↑p.ns0:Int))) (sl (inB s.is6 p.ns0) (sl (ldR tV s.eh0 (0+s.is6.toNat)) (sl ((cnE tP s.u9)&&true) (sl (Nat.beq t1.alt 1) (sl (!t1.bs0) (sl (inB s.is5 p.ns0) (sl ((Nat.blt (0+s.is5.toNat) (len s.eh0))&&(Nat.ble (0+3) (len (i7 s.eh0 (0+s.is5.toNat))))) (k ⟨W (s.is5+1),W (s.is6+1),setAt s.eh0 (0+s.is5.toNat) (P1 (i7 s.eh0 (0+s.is5.toNat)) 0 [i (rdR tV s.eh0 (0+s.is6.toNat)).x,i (rdR tV s.eh0 (0+s.is6.toNat)).y,i (rdR tV s.eh0 (0+s.is6.toNat)).z]),t1.J5⟩) z) z) (k ⟨s.is5,W (s.is6+1),s.eh0,t1.J5⟩)) z) z) z) z) (e 1))
noncomputable def A6(p:I8)(s:r6):Stp r6:=E0 .next .exit .fail p s
noncomputable def ca2:Lo I8 r6:=⟨En va9,2,Ie3,[1,1,1,0,1,4,4],[0,1,5,6],.p,[⟨.s (.o (.sl 0 0 (some 0) none))::.fn 55 [.o (.ptr 1 0 0 0)]::ru2 3 (sIq::sIq::ru2 35 []),[⟨25,3,true,none⟩,⟨0,1,true,some [[.c 4 (nL tP)]]⟩],λa H=>(⟨slN (slT a 0)⟩,⟨aIq a 5,aIq a 6,elT H 0,hLq tP H 1 0 0⟩)⟩],A6,[(some 0,λp s=>upq (qa8 p s) [(16,i s.is6),(17,.sl 0 0 p.ns0 0),(18,i (↑p.ns0:Int)),(19,b (decide (s.is6<(↑p.ns0:Int))))])],qa8⟩
theorem Wa8:ca2.Ok:=Lo.ok [] (by kernel_rfl) .nil rfl (.cons (λa H=>by kernel_rfl) .nil) λp s=>(.of @E0 (λF _ _ _ _ _=>by unfold E0;(repeat' apply u7 (f:=F))<;>rfl) (by kernel_rfl))
structure V4 where
 (alt ns0:Nat)
 eh0:List (List b7)
 u9:List Pln
noncomputable def E6{α:Type}(kk:V4->α)(x:V2):α:=let t1:=(V1 ⟨x.ns0,x.eh0,rt tP x.u9⟩);let t2:=(lp (A6 (⟨x.ns0⟩:I8)) (⟨t1.is0,W (t1.is0+1),x.eh0,rt tP t1.u9⟩:r6));(sl ((cnE tP x.u9)&&true) (sl (Nat.beq t1.alt 1) (sl (t1.is0==(-1)) (kk ⟨1,x.ns0,x.eh0,t1.u9⟩) (sl ((cnE tP t1.u9)&&true) (sl (Nat.beq t2.1 1) (sl (inB t2.2.is5 (x.ns0+1)) (sl (inB t2.2.is5 (x.ns0+1)) (kk ⟨1,t2.2.is5.toNat-0,app (G7 t2.2.eh0 (0+t2.2.is5.toNat)) (app (List.replicate (x.ns0-t2.2.is5.toNat) [i 0,i 0,i 0]) (i6 t2.2.eh0 ((0+t2.2.is5.toNat)+(x.ns0-t2.2.is5.toNat)))),t2.2.u9⟩) (kk ⟨0,0,[],[]⟩)) (kk ⟨0,0,[],[]⟩)) (kk ⟨0,0,[],[]⟩)) (kk ⟨0,0,[],[]⟩))) (kk ⟨0,0,[],[]⟩)) (kk ⟨0,0,[],[]⟩))
noncomputable def V5(x:V2):V4:=E6 (λr=>r) x
noncomputable def fa4(x:V2)(r:V4):DT (b7×List c8):=(.ite (Nat.beq r.alt 1) (.ret (.sl 0 0 r.ns0 0,[⟨25,3,r.eh0,true,false,0⟩,⟨0,1,[[eL tP r.u9]],true,false,0⟩])) .fail)
theorem ib1{α β:Type}(F:α->β)(kk:V4->α)(x:V2):F (E6 kk x)=E6 (λr=>F (kk r)) x:=by unfold E6;(repeat' apply u7 (f:=F))<;>rfl
noncomputable def Aa3:Sum:=kb7 ⟨[.s (.o (.sl 0 0 (some 0) none)),.fn 55 [.o (.ptr 1 0 0 0)]],[⟨25,3,true,none⟩,⟨0,1,true,some [[.c 4 (nL tP)]]⟩],λa H=>(⟨slN (slT a 0),elT H 0,hLq tP H 1 0 0⟩,())⟩ (λx=>fa4 x (V5 x))
theorem db7:i5 prog G 57 Aa3:=ba4 (enc:=λx=>⟨[.sl 0 0 x.ns0 0,.fn 55 [.ptr 1 0 0 0]],[⟨25,3,x.eh0,true,false,0⟩,⟨0,1,[[eL tP x.u9]],true,false,0⟩]⟩) (λa H=>by kernel_rfl) (bd b57 Ya5) λx=>fb5 (.s .p (.s .p (.s .p (.s (.s .p (.b (.u ca2.ls))) .p)))) [ca2.pr] (by kernel_rfl) (.cons Wa8 .nil) (Qiaf (b:=E6 (λr=>(fa4 x r).run) x) (by kernel_rfl) (ib1 (λr=>(fa4 x r).run) (λr=>r) x).symm)
noncomputable def Rb4:List (Nat×Sum):=[(72,ya9),(73,na5),(75,qa5)]
theorem Jb8:k9 prog G Rb4:=⟨Oa3,Da3,Fa2,trivial⟩
structure ta9 where
 (alt ns0:Nat)
 eh0:List (List b7)
noncomputable def Z3{α:Type}(kk:ta9->α)(x:V3×List V3):α:=let t1:=(aa4 (hC tV (λk=>(tV).row (gL tV (x.1::x.2) k)),tC tV (List.length x.2) (λk=>(tV).row (gL tV (x.1::x.2) k))));let t2:=(L3 ⟨t1.ns0,app (bL tV (pb1 (slR tV t1.eh0 0 t1.ns0))) (i6 t1.eh0 t1.ns0)⟩);(sl (okL tV (List.length x.2+1) (λk=>(tV).row (gL tV (x.1::x.2) k))) (sl (Nat.beq t1.alt 1) (sl (Bool.and (Nat.ble t1.ns0 room) (Bool.and (Nat.ble t1.ns0 (len t1.eh0)) (okS tV t1.eh0 0 t1.ns0))) (sl (Nat.beq t2.alt 1) (kk ⟨1,t2.ns0,t2.eh0⟩) (kk ⟨0,0,[]⟩)) (kk ⟨0,0,[]⟩)) (kk ⟨0,0,[]⟩)) (kk ⟨0,0,[]⟩))
noncomputable def ua0(x:V3×List V3):ta9:=Z3 (λr=>r) x
noncomputable def Da5(r:ta9):DT (b7×List c8):=(.ite (Nat.beq r.alt 1) (.ret (.sl 0 0 r.ns0 0,[⟨25,3,r.eh0,true,false,0⟩])) .fail)
theorem ac4{α β:Type}(F:α->β)(kk:ta9->α)(x:V3×List V3):F (Z3 kk x)=Z3 (λr=>F (kk r)) x:=by unfold Z3;(repeat' apply u7 (f:=F))<;>rfl
noncomputable def ha8:Sum:=L9 (bd6 tV) (λx=>Da5 (ua0 x))
theorem oa2:i5 prog G 45 ha8:=kb6 (bd b45 Jb8) λx=>C8 (Qiaf (b:=Z3 (λr=>(Da5 r).run) x) (by kernel_rfl) (ac4 (λr=>(Da5 r).run) (λr=>r) x).symm)
noncomputable def kc5:List (Nat×Sum):=[(22,Rb2),(45,ha8),(57,Aa3)]
theorem ac5:k9 prog G kc5:=⟨Eb5,oa2,db7,trivial⟩
noncomputable def qa9(x:V3×List V3):Option (b7×List c8):=let t1:=(Qa3 (hC tV (λk=>(tV).row (gL tV (x.1::x.2) k)),tC tV (List.length x.2) (λk=>(tV).row (gL tV (x.1::x.2) k))));let t2:=(ua0 (hC tV (λk=>(tV).row (gL tV (x.1::x.2) k)),tC tV (List.length x.2) (λk=>(tV).row (gL tV (x.1::x.2) k))));let t3:=(V5 ⟨t2.ns0,t2.eh0,rt tP t1.1⟩);(sl (okL tV (List.length x.2+1) (λk=>(tV).row (gL tV (x.1::x.2) k))) (sl (Qa4 (hC tV (λk=>(tV).row (gL tV (x.1::x.2) k)),tC tV (List.length x.2) (λk=>(tV).row (gL tV (x.1::x.2) k)))) (sl (t1.2 != 0) (some (.tup [.v (.slice none 0 0),i t1.2],[])) (sl (okL tV (List.length x.2+1) (λk=>(tV).row (gL tV (x.1::x.2) k))) (sl (Nat.beq t2.alt 1) (sl ((cnE tP t1.1)&&true) (sl (Nat.beq t3.alt 1) (some (.tup [.sl 0 0 t3.ns0 0,i 0],[⟨25,3,t3.eh0,true,false,0⟩])) none) none) none) none)) none) none)
noncomputable def vb5(x:V3×List V3):List V3×Int:=W0 (two (r1L tV) r1I) (qa9 x)
noncomputable def vb6(x:V3×List V3):Bool:=okO (two (r1L tV) r1I) (qa9 x)
noncomputable def xc9:Sum:=L9 (bd6 tV) (λx=>.guard (vb6 x) (.ret ((two (r1L tV) r1I).enc (vb5 x),[])))
theorem kc6:i5 prog G 32 xc9:=Ga2 (bd b32 ac5) (two (r1L tV) r1I) (o:=qa9) λx=>C8 (by kernel_rfl)
end Go.Ev.Ce
namespace Go.Ev.L
open Go Go.Ev
noncomputable def ze6:Cod Unit where
 enc _:=.v (.slice none 0 0)
 dec x:=match x with
  |.v (.slice none 0 0)=>some ()
  |_=>none
 grd _:=true
 ok x a hx _:=by
  split at hx
  ·exact .refl _
  ·cases hx
noncomputable def cE0:Cod (Addr×Nat) where
 enc z:=.v (.slice (some z.1) 0 z.2)
 dec x:=match x with
  |.v (.slice (some a) 0 c)=>some (a,c)
  |_=>none
 grd _:=true
 ok x a hx _:=by
  split at hx
  ·cases hx;exact .refl _
  ·cases hx
section
variable{α:Type}{t:Ty α}{P:Program}{G:Nat->List Value}{f:FuncId}
theorem zb9{β:Type}{c:Cod β}{k k':β->DT (b7×List c8)}(h:i5 P G f (L9 c k))(hk:∀a r,(k' a).run=some r->(k a).run=some r):i5 P G f (L9 c k'):=h.le λargs blks r hr=>by
 unfold L9 at hr ⊢
 split at hr
 ·obtain⟨a,h1,hr⟩:=I0 hr;obtain⟨g,hr⟩:=DT.run_guard_some hr;simp only[h1,onO,g];exact hk a r hr
 ·cases hr
theorem Sd6{k:List α->DT (b7×List c8)}(hA:i5 P G f (L9 (bd6 t) λz=>k (z.1::z.2)))(hN:i5 P G f (L9 ze6 λ_=>k []))(hE:i5 P G f (L9 cE0 λ_=>k [])):i5 P G f (L9 (ya3 t) k):=by
 intro args blks r out he W ρ F w args' hH hlen hargs hG;unfold L9 at he
 split at he
 ·rename_i x;obtain⟨a,h1,he⟩:=I0 he;obtain⟨g1,hk⟩:=DT.run_guard_some he;have nilCase:∀v',args'[0]?=some v'->v'=.slice none 0 0->a=[]->Ta1 P f/\Calls P f args'.toArray w λe w'=>∃r',e=.returned r'/\H9 W ρ [] F w r out r' w':=λv' hv e ha=>by
   subst ha;refine hN [.v (.slice none 0 0)] [] r out ?_ W ρ F w args' hH hlen (λi x' y' hx hy=>?_) hG
   ·exact hk
   ·match i with
    |0=>cases hx;rw[hv] at hy;cases hy;rw[e];exact .val (.cell (.v _))
    |i+1=>cases hx
  have emptyCase:∀v' ad c,args'[0]?=some v'->v'=.slice (some ad) 0 c->a=[]->Ta1 P f/\Calls P f args'.toArray w λe w'=>∃r',e=.returned r'/\H9 W ρ [] F w r out r' w':=λv' ad c hv e ha=>by
   subst ha;refine hE [.v (.slice (some ad) 0 c)] [] r out ?_ W ρ F w args' hH hlen (λi x' y' hx hy=>?_) hG
   ·exact hk
   ·match i with
    |0=>cases hx;rw[hv] at hy;cases hy;rw[e];exact .val (.cell (.v _))
    |i+1=>cases hx
  obtain⟨v',hv⟩:∃v',args'[0]?=some v':=by
   cases args' with
   |nil=>simp at hlen
   |cons v' r'=>exact⟨v',rfl⟩
  cases x with
  |tree e n get =>
   have hb:Nat.beq e t.es=true/\a=lsL t n get:=by
    have h1:(Bool.rec none (some (lsL t n get)) (Nat.beq e t.es):Option (List α))=some a:=h1;cases hb:Nat.beq e t.es with
    |false=>rw[hb] at h1;cases h1
    |true =>
     rw[hb] at h1;have h1:some (lsL t n get)=some a:=h1;injection h1 with h1;exact⟨rfl,h1.symm⟩
   cases n with
   |zero =>
    have ha:a=[]:=hb.2;have hm:=ka4 (hargs 0 _ v' rfl hv);cases hm with
    |tree _ _ _ ad cap cs hs hcap hes hF hw hr=>exact emptyCase _ ad cap hv rfl ha
    |nil=>exact nilCase _ hv rfl ha
   |succ m =>
    have ha:a=hC t get::tC t m get:=hb.2.trans (bd5 t m get);subst ha;refine hA [.tree e (m+1) get] [] r out ?_ W ρ F w args' hH hlen hargs hG;have hc:(bd6 t).dec (.tree e (m+1) get)=some (hC t get,tC t m get):=by
     show (Bool.rec none (some (hC t get,tC t m get)) (Nat.beq e t.es):Option (α×List α))=_;rw[hb.1]
    have hg:(bd6 t).grd (.tree e (m+1) get)=true:=g1;simp only[L9,hc,onO,hg];exact hk
  |v q =>
   have hq:=Y3 (hargs 0 _ v' rfl hv);unfold ya3 at h1
   simp only at h1
   split at h1
   ·rename_i heq;cases heq
   ·rename_i heq;injection heq with heq;injection h1 with h1;exact nilCase v' hv (hq.trans heq) h1.symm
   ·rename_i ad c heq;injection heq with heq;injection h1 with h1;exact emptyCase v' _ _ hv (hq.trans heq) h1.symm
   ·cases h1
  |_=>cases h1
 ·cases he
end
end Go.Ev.L
namespace Go.Ev.Ce
open Go Go.Ev Go.Ev.L Go.Proofs
set_option maxRecDepth 100000
noncomputable def yc0:List (Nat×Sum):=[(44,Qa0),(45,ha8),(46,ha6)]
theorem kc7:k9 prog G yc0:=⟨db3,oa2,ka9,trivial⟩
noncomputable def db8(x:Unit):Option (b7×List c8):=let t1:=(ta5 []);(sl (ta6 []) (sl (t1 != 0) (some (.tup [.v (.slice none 0 0),i t1],[])) none) none)
noncomputable def Eb7(x:Unit):List Pln×Int:=W0 (two (r1L tP) r1I) (db8 x)
noncomputable def Eb8(x:Unit):Bool:=okO (two (r1L tP) r1I) (db8 x)
noncomputable def Eb9:Sum:=L9 ze6 (λx=>.guard (Eb8 x) (.ret ((two (r1L tP) r1I).enc (Eb7 x),[])))
theorem vb7:i5 prog G 22 Eb9:=Ga2 (bd b22 kc7) (two (r1L tP) r1I) (o:=db8) λx=>Lc0 .p [] (by kernel_rfl) .nil (by kernel_rfl)
noncomputable def ac6:List (Nat×Sum):=[(22,Eb9),(45,ha8)]
theorem Rb5:k9 prog G ac6:=⟨vb7,oa2,trivial⟩
noncomputable def Na6(x:Unit):Option (b7×List c8):=let t1:=(Eb7 ());(sl (Eb8 ()) (sl (t1.2 != 0) (some (.tup [.v (.slice none 0 0),i t1.2],[])) none) none)
noncomputable def kc8(x:Unit):List V3×Int:=W0 (two (r1L tV) r1I) (Na6 x)
noncomputable def kc9(x:Unit):Bool:=okO (two (r1L tV) r1I) (Na6 x)
noncomputable def lc0:Sum:=L9 ze6 (λx=>.guard (kc9 x) (.ret ((two (r1L tV) r1I).enc (kc8 x),[])))
theorem ac7:i5 prog G 32 lc0:=Ga2 (bd b32 Rb5) (two (r1L tV) r1I) (o:=Na6) λx=>C8 (by kernel_rfl)
noncomputable def yc1:List (Nat×Sum):=[(46,ha6)]
theorem lc1:k9 prog G yc1:=⟨ka9,trivial⟩
noncomputable def db9(x:Addr×Nat):Option (b7×List c8):=none
noncomputable def Fb0(x:Addr×Nat):List Pln×Int:=W0 (two (r1L tP) r1I) (db9 x)
noncomputable def Fb1(x:Addr×Nat):Bool:=okO (two (r1L tP) r1I) (db9 x)
noncomputable def Fb2:Sum:=L9 cE0 (λx=>.guard (Fb1 x) (.ret ((two (r1L tP) r1I).enc (Fb0 x),[])))
theorem vb8:i5 prog G 22 Fb2:=Ga2 (bd b22 lc1) (two (r1L tP) r1I) (o:=db9) λx=>Lc0 .p [] (by kernel_rfl) .nil (by kernel_rfl)
noncomputable def ac8:List (Nat×Sum):=[(22,Fb2),(45,ha8)]
theorem Rb6:k9 prog G ac8:=⟨vb8,oa2,trivial⟩
noncomputable def Na7(x:Addr×Nat):Option (b7×List c8):=let t1:=(Fb0 x);(sl (Fb1 x) (sl (t1.2 != 0) (some (.tup [.v (.slice none 0 0),i t1.2],[])) none) none)
noncomputable def lc2(x:Addr×Nat):List V3×Int:=W0 (two (r1L tV) r1I) (Na7 x)
noncomputable def lc3(x:Addr×Nat):Bool:=okO (two (r1L tV) r1I) (Na7 x)
noncomputable def lc4:Sum:=L9 cE0 (λx=>.guard (lc3 x) (.ret ((two (r1L tV) r1I).enc (lc2 x),[])))
theorem ac9:i5 prog G 32 lc4:=Ga2 (bd b32 Rb6) (two (r1L tV) r1I) (o:=Na7) λx=>C8 (by kernel_rfl)
noncomputable def yc2:List (Nat×Sum):=[(44,Qa0),(46,ha6)]
theorem lc5:k9 prog G yc2:=⟨db3,ka9,trivial⟩
noncomputable def wa0(x:List V3):Option (b7×List c8):=let t1:=(ta5 (rt tV x));(sl (okE tV x) (sl (ta6 (rt tV x)) (sl (t1 != 0) (some (.tup [.v (.slice none 0 0),i t1],[])) none) none) none)
noncomputable def Ja5(x:List V3):List Pln×Int:=W0 (two (r1L tP) r1I) (wa0 x)
noncomputable def Ja6(x:List V3):Bool:=okO (two (r1L tP) r1I) (wa0 x)
noncomputable def Fb3:Sum:=L9 (ya3 tV) (λx=>.guard (Ja6 x) (.ret ((two (r1L tP) r1I).enc (Ja5 x),[])))
theorem vb9:i5 prog G 22 Fb3:=Ga2 (bd b22 lc5) (two (r1L tP) r1I) (o:=wa0) λx=>Lc0 .p [] (by kernel_rfl) .nil (by kernel_rfl)
noncomputable def bc0:List (Nat×Sum):=[(22,Fb3)]
theorem Rb7:k9 prog G bc0:=⟨vb9,trivial⟩
noncomputable def la8(x:List V3):Option (b7×List c8):=let t1:=(Ja5 (rt tV x));(sl (okE tV x) (sl (Ja6 (rt tV x)) (sl (t1.2 != 0) (some (.tup [.v (.slice none 0 0),i t1.2],[])) none) none) none)
noncomputable def Na8(x:List V3):List V3×Int:=W0 (two (r1L tV) r1I) (la8 x)
noncomputable def Na9(x:List V3):Bool:=okO (two (r1L tV) r1I) (la8 x)
noncomputable def lc6:Sum:=L9 (ya3 tV) (λx=>.guard (Na9 x) (.ret ((two (r1L tV) r1I).enc (Na8 x),[])))
theorem bc3:i5 prog G 32 lc6:=Ga2 (bd b32 Rb7) (two (r1L tV) r1I) (o:=la8) λx=>C8 (by kernel_rfl)
noncomputable def rm(p:Pln)(x:Pt):Int:=W (p.b*x.pw-(p.n.x*x.px+p.n.y*x.py+p.n.z*x.pz))
structure Bd(p:Pln):Prop where
 x1:-4608<=p.n.x
 x2:p.n.x<=4608
 y1:-4608<=p.n.y
 y2:p.n.y<=4608
 z1:-4608<=p.n.z
 z2:p.n.z<=4608
 b1:-2097152<=p.b
 b2:p.b<=2097152
def mv(p q r:Pln):V3 :=
 ⟨(c7 q.n r.n).x*p.b+(c7 r.n p.n).x*q.b+(c7 p.n q.n).x*r.b,
  (c7 q.n r.n).y*p.b+(c7 r.n p.n).y*q.b+(c7 p.n q.n).y*r.b,
  (c7 q.n r.n).z*p.b+(c7 r.n p.n).z*q.b+(c7 p.n q.n).z*r.b⟩
def gc(v:V3)(w:Int):Int:=(Nat.gcd (Nat.gcd v.x.natAbs v.y.natAbs) (Nat.gcd v.z.natAbs w.natAbs):Nat)
def mpt(p q r:Pln):Pt×Bool :=
 if mw p q r=0 then (⟨0,0,0,0⟩,false)
 else if mw p q r<0 then (⟨Int.tdiv (-(mv p q r).x) (gc (mv p q r) (mw p q r)),Int.tdiv (-(mv p q r).y) (gc (mv p q r) (mw p q r)),Int.tdiv (-(mv p q r).z) (gc (mv p q r) (mw p q r)),Int.tdiv (-(mw p q r)) (gc (mv p q r) (mw p q r))⟩,true)
 else (⟨Int.tdiv (mv p q r).x (gc (mv p q r) (mw p q r)),Int.tdiv (mv p q r).y (gc (mv p q r) (mw p q r)),Int.tdiv (mv p q r).z (gc (mv p q r) (mw p q r)),Int.tdiv (mw p q r) (gc (mv p q r) (mw p q r))⟩,true)
def Sm(n:Int)(x:Int):Prop:=-n<=x/\x<=n
theorem wb0{a b:V3}(ha:Sm 4608 a.x/\Sm 4608 a.y/\Sm 4608 a.z)(hb:Sm 4608 b.x/\Sm 4608 b.y/\Sm 4608 b.z):Sm 42467328 (c7 a b).x/\Sm 42467328 (c7 a b).y/\Sm 42467328 (c7 a b).z:=by
 obtain⟨⟨a1,a2⟩,⟨a3,a4⟩,a5,a6⟩:=ha;obtain⟨⟨b1,b2⟩,⟨b3,b4⟩,b5,b6⟩:=hb;have h1:=mb a3 a4 b5 b6;have h2:=mb a5 a6 b3 b4;have h3:=mb a5 a6 b1 b2;have h4:=mb a1 a2 b5 b6;have h5:=mb a1 a2 b3 b4;have h6:=mb a3 a4 b1 b2;unfold Sm c7
 simp only
 omega
theorem Bd.n{p:Pln}(h:Bd p):Sm 4608 p.n.x/\Sm 4608 p.n.y/\Sm 4608 p.n.z:=⟨⟨h.x1,h.x2⟩,⟨h.y1,h.y2⟩,h.z1,h.z2⟩
theorem Je6{p q r:Pln}(hp:Bd p)(hq:Bd q)(hr:Bd r):Sm 600000000000 (mw p q r):=by
 obtain⟨⟨c1,c2⟩,⟨c3,c4⟩,c5,c6⟩:=wb0 hq.n hr.n;have h1:=mb hp.x1 hp.x2 c1 c2;have h2:=mb hp.y1 hp.y2 c3 c4;have h3:=mb hp.z1 hp.z2 c5 c6;unfold Sm mw dot;omega
theorem Je7{p q r:Pln}(hp:Bd p)(hq:Bd q)(hr:Bd r):Sm 300000000000000 (mv p q r).x/\Sm 300000000000000 (mv p q r).y/\Sm 300000000000000 (mv p q r).z:=by
 obtain⟨⟨c1,c2⟩,⟨c3,c4⟩,c5,c6⟩:=wb0 hq.n hr.n;obtain⟨⟨d1,d2⟩,⟨d3,d4⟩,d5,d6⟩:=wb0 hr.n hp.n;obtain⟨⟨e1,e2⟩,⟨e3,e4⟩,e5,e6⟩:=wb0 hp.n hq.n;have a1:=mb c1 c2 hp.b1 hp.b2;have a2:=mb c3 c4 hp.b1 hp.b2;have a3:=mb c5 c6 hp.b1 hp.b2;have b1:=mb d1 d2 hq.b1 hq.b2;have b2:=mb d3 d4 hq.b1 hq.b2;have b3:=mb d5 d6 hq.b1 hq.b2;have f1:=mb e1 e2 hr.b1 hr.b2;have f2:=mb e3 e4 hr.b1 hr.b2;have f3:=mb e5 e6 hr.b1 hr.b2;unfold Sm mv
 simp only
 omega
theorem je4(a b:V3):B4 a b=⟨W (c7 a b).x,W (c7 a b).y,W (c7 a b).z⟩:=by
 unfold B4 c7;simp only[Tc4,qd9]
theorem je5(a b:V3):Ka6 a b=⟨W (c7 a b).x,W (c7 a b).y,W (c7 a b).z⟩:=by
 unfold Ka6 c7;simp only[Tc4,qd9]
theorem rd0{v:V3}{w:Int}(h:w≠0):0<gc v w:=by
 unfold gc
 have:0<Nat.gcd v.z.natAbs w.natAbs:=Qix _ (by omega)
 have:=Qix (Nat.gcd v.x.natAbs v.y.natAbs) this
 omega
theorem Je8{v:V3}{w:Int}(h:w≠0):gc v w<=w.natAbs:=by
 unfold gc;have h1:Nat.gcd v.z.natAbs w.natAbs<=w.natAbs:=Nat.gcd_le_right _ (by omega)
 have h2:0<Nat.gcd v.z.natAbs w.natAbs:=Qix _ (by omega)
 have h3:=Nat.gcd_le_right (m:=Nat.gcd v.x.natAbs v.y.natAbs) (n:=Nat.gcd v.z.natAbs w.natAbs) h2;omega
theorem qb0{x:Int}(h:Sm 1000000000000000000 x):W x=x:=I6 (by have:=h.1;omega) (by have:=h.2;omega)
theorem Sm.mono{n m x:Int}(h:Sm n x)(hn:n<=m):Sm m x:=⟨by have:=h.1;omega,by have:=h.2;omega⟩
theorem ea3{n x g:Int}(h:Sm n x)(hg:0<g):Sm n (Int.tdiv x g):=by
 have h1:(Int.tdiv x g).natAbs<=x.natAbs:=by rw[Int.natAbs_tdiv];exact Nat.div_le_self _ _
 have:=h.1;have:=h.2
 constructor<;>omega
theorem rd1{p q r:Pln}(hp:Bd p)(hq:Bd q)(hr:Bd r)(h:(mpt p q r).2=true):0<(mpt p q r).1.pw/\Sm 300000000000000 (mpt p q r).1.px/\Sm 300000000000000 (mpt p q r).1.py/\Sm 300000000000000 (mpt p q r).1.pz/\(mpt p q r).1.pw<=600000000000:=by
 have hw:=Je6 hp hq hr;obtain⟨v1,v2,v3⟩:=Je7 hp hq hr;have neg:∀{n x:Int},Sm n x->Sm n (-x):=λh=>⟨by have:=h.2;omega,by have:=h.1;omega⟩
 have pos:∀{x:Int},0<x->x.natAbs=(mw p q r).natAbs->0<Int.tdiv x (gc (mv p q r) (mw p q r)):=λ{x} hx he=>by
  have h0:mw p q r≠0:=by omega
  have h1:=rd0 (v:=mv p q r) h0;have h2:=Je8 (v:=mv p q r) h0;rw[Int.tdiv_eq_ediv_of_nonneg (by omega)]
  exact Int.ediv_pos_of_pos_of_dvd hx (by omega) (by
   rw[<- Qiu,he];exact Qim.2 (Qin (Qij _ _) (Qij _ _)))
 unfold mpt at h ⊢;by_cases h0:mw p q r=0
 ·rw[if_pos h0] at h;cases h
 ·rw[if_neg h0];have hg:=rd0 (v:=mv p q r) h0;by_cases h1:mw p q r<0
  ·rw[if_pos h1];exact⟨pos (by omega) (by omega),ea3 (neg v1) hg,ea3 (neg v2) hg,ea3 (neg v3) hg,(ea3 (neg hw) hg).2⟩
  ·rw[if_neg h1];exact⟨pos (by omega) rfl,ea3 v1 hg,ea3 v2 hg,ea3 v3 hg,(ea3 hw hg).2⟩
noncomputable def inn(l:List Pln)(x:Pt):Bool:=l.all λp=>!decide (rm p x<0)
def eqX(x q:Pt):Bool:=q.px==x.px&&(q.py==x.py&&(q.pz==x.pz&&(q.pw==x.pw&&true)))
theorem yd1(x q:Pt):eqX x q=true↔q=x:=by
 unfold eqX;simp only[Qig,Qid,beq_iff_eq];exact⟨λ⟨h1,h2,h3,h4⟩=>by cases q;cases x;simp_all,λh=>by subst h;exact⟨rfl,rfl,rfl,rfl⟩⟩
def je6(l:List Pt)(x:Pt):Bool:=l.any (eqX x)
theorem Sd7(l:List Pt)(x:Pt):je6 l x=true↔x∈l:=by
 unfold je6;rw[Qik];exact⟨λ⟨q,h,e⟩=>(yd1 x q).1 e ▸ h,λh=>⟨x,h,(yd1 x x).2 rfl⟩⟩
def smb(n x:Int):Bool:=!decide (x < -n)&&!decide (x>n)
theorem mb3(n x:Int):smb n x=true↔Sm n x:=by unfold smb Sm;simp only[Qid,Qiaa,decide_eq_false_iff_not];omega
theorem yc3(n:Int)(l:List Int)(hn:0<=n/\n<=1000000000)(hl:l.length<=1000000000):pa3 n l=some (b (l.all (smb n)),[]):=by
 have hW:W (0-n)=-n:=by rw[I6 (by omega) (by omega)];omega
 have h:=Tc5 (step:=da6 ⟨n,l,(l.length:Int)⟩) (mk:=λj=>(⟨(j:Int)⟩:G8)) (c:=λx=>!smb n x) (u:=1) (fin:=2) tI l hl
  (λj hj=>by
   simp only[da6,Z9,Int.toNat_natCast,D2 hj (by omega),hW]
   rw[bt (xc5 hj),bt (i9 hj)];unfold smb;cases decide (gL tI l j < -n)<;>cases decide (gL tI l j>n)<;>rfl)
  (by simp only[da6,Z9];rw[bf (Qb9 (Qiw _))]) 0 (Nat.zero_le _)
 rw[Qiam] at h;unfold pa3;simp only[q9,m9];rw[show (⟨0⟩:G8)=⟨((0:Nat):Int)⟩ from rfl,h]
 have e:(l.any λx=>!smb n x)=!l.all (smb n):=by rw[List.not_all_eq_any_not]
 rw[e];cases l.all (smb n)<;>rfl
theorem bc4(n:Int)(l:List Int)(hn:0<=n/\n<=1000000000)(hl:l.length<=1000000000):ha4 n l=l.all (smb n):=by unfold ha4;rw[yc3 n l hn hl];rfl
theorem bc5(n:Int)(l:List Int)(hn:0<=n/\n<=1000000000)(hl:l.length<=1000000000):ha5 n l=true:=by unfold ha5;rw[yc3 n l hn hl];rfl
theorem fd2{n:Int}(h:Sm 1000000000000000000 n):ta1 n=(n.natAbs:Int):=by
 unfold ta1;obtain⟨h1,h2⟩:=h;rw[I6 (by omega) (by omega)]
 split<;>omega
theorem Rb8{n:Int}(h:Sm 1000000000000000000 n):oa8 n=some (i (n.natAbs:Int),[]):=by
 unfold oa8;obtain⟨h1,h2⟩:=h;rw[I6 (by omega) (by omega)]
 by_cases h:n<0
 ·rw[bt (decide_eq_true h)];congr 3;omega
 ·rw[bf (decide_eq_false h)];congr 3;omega
theorem wb1{n:Int}(h:Sm 1000000000000000000 n):ga9 n=(n.natAbs:Int):=by unfold ga9;rw[Rb8 h];rfl
theorem wb2{n:Int}(h:Sm 1000000000000000000 n):ha0 n=true:=by unfold ha0;rw[Rb8 h];rfl
def g3(v:V3):Int:=(Nat.gcd (Nat.gcd v.x.natAbs v.y.natAbs) v.z.natAbs:Nat)
theorem Sd8(g n:Nat):eu (g:Int) (n:Int)=(Nat.gcd g n:Nat):=by rw[ze0 (by omega) (by omega)];rfl
theorem Gc1(P:T7)(g n:Nat)(hn:n<=1000000000000000000):lp (Q5 P) ⟨(g:Int),(n:Int)⟩=(1,⟨(Nat.gcd g n:Nat),0⟩):=by
 have:=fc8 (step:=Q5 P) (mk:=λg n=>(⟨g,n⟩:J3)) (λg n h=>by
  have h0:n≠0:=by omega
  simp[Q5,X0,Ib3,h,h0]) (λg=>by simp[Q5,X0,Ib3]) (g:Int) (n:Int) (by omega) (by omega) (by omega)
 rw[this,Sd8]
theorem yc4(l:List Int)(hl:l.length<=1000000000)(hb:∀x∈l,Sm 1000000000000000000 x):ka6 l=some (i (l.foldl (λg x=>Nat.gcd g x.natAbs) 0:Nat),[]):=by
 have h := je1 (step := aa0 ⟨(l.length : Int)⟩) (mk := fun j (a : Nat) => (⟨(a : Int), l, (j : Int)⟩ : D4)) (f := fun g x => Nat.gcd g x.natAbs) (fin := 2) tI l (fun _ _ => True) hl (fun j a hj _ => ⟨by
   have hm:=hb _ (db4 tI hj);have hne:(gL tI l j==(-9223372036854775808:Int))=false:=by
    have:=hm.1
    rw[beq_eq_false_iff_ne];omega
   have hs:(gL tI l j).natAbs<=1000000000000000000:=by obtain⟨h1,h2⟩:=hm;omega
   simp only[aa0,X1,Int.toNat_natCast,q9,m9,fd2 hm,Gc1 _ _ _ hs,D2 hj (by omega)]
   rw[bt (xc5 hj),bt (i9 hj),bf hne]
   rfl,trivial⟩) (λa _=>by simp only[aa0,X1];rw[bf (Qb9 (Qiw _))]) 0 (Nat.zero_le _) 0 trivial
 have h:=h.1;rw[Qiam] at h;unfold ka6;simp only[q9,m9];rw[show (⟨0,l,0⟩:D4)=⟨((0:Nat):Int),l,((0:Nat):Int)⟩ from rfl,h]
 rfl
def okp(p:Pln):Bool:=[p.n.x,p.n.y,p.n.z].all (smb 4608)&&(g3 p.n==1&&[p.b].all (smb 2097152))
theorem ze7(p:Pln):Bd p↔[p.n.x,p.n.y,p.n.z].all (smb 4608)=true/\[p.b].all (smb 2097152)=true:=by
 simp only[List.all_cons,List.all_nil,Qig,Qid,mb3,Sm];exact⟨λh=>⟨⟨⟨h.x1,h.x2⟩,⟨h.y1,h.y2⟩,h.z1,h.z2⟩,h.b1,h.b2⟩,λ⟨⟨⟨a,b⟩,⟨c,d⟩,e,f⟩,g,h⟩=>⟨a,b,c,d,e,f,g,h⟩⟩
theorem Jb9{p:Pln}(h:okp p=true):Bd p:=by
 unfold okp at h;rw[Qid,Qid] at h;exact (ze7 p).2 ⟨h.1,h.2.2⟩
theorem sm3{v:V3}(h:[v.x,v.y,v.z].all (smb 4608)=true):Sm 4608 v.x/\Sm 4608 v.y/\Sm 4608 v.z:=by
 simpa only[List.all_cons,List.all_nil,Qig,Qid,mb3] using h
theorem fd3(p:Pln):ua8 p=some (b (okp p),[]):=by
 unfold ua8 okp;have l3:[p.n.x,p.n.y,p.n.z].length<=1000000000:=by simp
 have l1:[p.b].length<=1000000000:=by simp
 simp only[bc4 4608 _ (by omega) l3,bc5 4608 _ (by omega) l3,bc4 2097152 _ (by omega) l1,bc5 2097152 _ (by omega) l1]
 cases hw:[p.n.x,p.n.y,p.n.z].all (smb 4608) with
 |false=>rfl
 |true =>
  obtain⟨h1,h2,h3⟩:=sm3 hw;have hd:=yc4 [p.n.x,p.n.y,p.n.z] l3 (by
   intro x hx;simp only[Qia,Qiab,or_false] at hx
   rcases hx with rfl|rfl|rfl
   ·exact h1.mono (by omega)
   ·exact h2.mono (by omega)
   ·exact h3.mono (by omega))
  have hg:([p.n.x,p.n.y,p.n.z].foldl (λg x=>Nat.gcd g x.natAbs) 0:Nat)=Nat.gcd (Nat.gcd p.n.x.natAbs p.n.y.natAbs) p.n.z.natAbs:=by
   simp only[List.foldl_cons,List.foldl_nil,Nat.gcd_zero_left]
  have hp:W4 [p.n.x,p.n.y,p.n.z]=g3 p.n:=by unfold W4;rw[hd,hg];rfl
  have hgd:W5 [p.n.x,p.n.y,p.n.z]=true:=by unfold W5;rw[hd];rfl
  rw[hp,hgd];cases g3 p.n==1<;>rfl
theorem je7(p:Pln):Ia7 p=okp p:=by unfold Ia7;rw[fd3 p];rfl
theorem je8(p:Pln):Ia8 p=true:=by unfold Ia8;rw[fd3 p];rfl
theorem bc6(P:da5)(g n:Nat)(hn:n<=1000000000000000000):lp (Y5 P) ⟨(g:Int),(n:Int)⟩=(1,⟨(Nat.gcd g n:Nat),0⟩):=by
 have:=fc8 (step:=Y5 P) (mk:=λg n=>(⟨g,n⟩:M4)) (λg n h=>by
  have h0:n≠0:=by omega
  simp[Y5,oa9,Ib3,h,h0]) (λg=>by simp[Y5,oa9,Ib3]) (g:Int) (n:Int) (by omega) (by omega) (by omega)
 rw[this,Sd8]
theorem Tc7 {v : V3} (h1 : Sm 1000000000000000000 v.x) (h2 : Sm 1000000000000000000 v.y) (h3 : Sm 1000000000000000000 v.z) :
  Ua3 v=if g3 v=0 then some (.tup [.agg (tV.row ⟨0,0,0⟩),i 0],[]) else some (.tup [.agg (tV.row ⟨W (Int.tdiv v.x (g3 v)),W (Int.tdiv v.y (g3 v)),W (Int.tdiv v.z (g3 v))⟩),i (g3 v)],[]):=by
 have ne:∀{x:Int},Sm 1000000000000000000 x->(x==(-9223372036854775808:Int))=false:=λ{x} h=>by
  have:=h.1
  rw[beq_eq_false_iff_ne];omega
 have bd:∀{x:Int},Sm 1000000000000000000 x->x.natAbs<=1000000000000000000:=λ{x} h=>by obtain⟨h1,h2⟩:=h;omega
 have l1:=bc6 ⟨0,v.x,v.y,v.z,v.x,v.y,v.z⟩ 0 v.x.natAbs (bd h1);rw[Nat.gcd_zero_left] at l1;have l2:=bc6 ⟨1,v.x,v.y,v.z,v.x,v.y,v.z⟩ v.x.natAbs v.y.natAbs (bd h2);have l3:=bc6 ⟨2,v.x,v.y,v.z,v.x,v.y,v.z⟩ (Nat.gcd v.x.natAbs v.y.natAbs) v.z.natAbs (bd h3);unfold Ua3;simp only[wb1 h1,wb1 h2,wb1 h3,wb2 h1,wb2 h2,wb2 h3];rw[show (⟨0,(v.x.natAbs:Int)⟩:M4)=⟨((0:Nat):Int),(v.x.natAbs:Int)⟩ from rfl]
 simp only[l1,l2,l3,ne h1,ne h2,ne h3];rw[show ((Nat.gcd (Nat.gcd v.x.natAbs v.y.natAbs) v.z.natAbs:Nat):Int)=g3 v from rfl]
 by_cases h:g3 v=0
 ·rw[if_pos h,show (g3 v==0)=true from by rw[h];rfl];rfl
 ·rw[if_neg h,show (g3 v==0)=false from by rw[beq_eq_false_iff_ne];exact h];rfl
theorem yc5{v:V3}(h1:Sm 1000000000000000000 v.x)(h2:Sm 1000000000000000000 v.y)(h3:Sm 1000000000000000000 v.z):(ya6 v).2=g3 v:=by
 unfold ya6;rw[Tc7 h1 h2 h3];split
 ·rename_i h;rw[h];rfl
 ·rfl
theorem ze8{v:V3}(h1:Sm 1000000000000000000 v.x)(h2:Sm 1000000000000000000 v.y)(h3:Sm 1000000000000000000 v.z)(h:g3 v≠0):ya6 v=(⟨W (Int.tdiv v.x (g3 v)),W (Int.tdiv v.y (g3 v)),W (Int.tdiv v.z (g3 v))⟩,g3 v):=by
 unfold ya6;rw[Tc7 h1 h2 h3,if_neg h];rfl
theorem Sd9{v:V3}(h1:Sm 1000000000000000000 v.x)(h2:Sm 1000000000000000000 v.y)(h3:Sm 1000000000000000000 v.z):Ua4 v=true:=by
 unfold Ua4;rw[Tc7 h1 h2 h3]
 split<;>rfl
theorem Lc5(p:Pln):Ka7 p=some (b (okp p),[]):=by
 unfold Ka7 okp;cases hw:[p.n.x,p.n.y,p.n.z].all (smb 4608) with
 |false =>
  simp only[List.all_cons,List.all_nil,Qig,smb] at hw;cases h1:decide (p.n.x < -4608)<;>cases h2:decide (p.n.x>4608)<;>cases h3:decide (p.n.y < -4608)<;>cases h4:decide (p.n.y>4608)<;>cases h5:decide (p.n.z < -4608)<;>cases h6:decide (p.n.z>4608)<;>simp only[h1,h2,h3,h4,h5,h6] at hw ⊢<;>first | rfl | cases hw
 |true =>
  obtain⟨h1,h2,h3⟩:=sm3 hw;rw[bf (decide_eq_false (by have:=h1.1;omega)),bf (decide_eq_false (by have:=h1.2;omega)),bf (decide_eq_false (by have:=h2.1;omega)),bf (decide_eq_false (by have:=h2.2;omega)),bf (decide_eq_false (by have:=h3.1;omega)),bf (decide_eq_false (by have:=h3.2;omega))]
  have k1:=h1.mono (m:=1000000000000000000) (by omega)
  have k2:=h2.mono (m:=1000000000000000000) (by omega)
  have k3:=h3.mono (m:=1000000000000000000) (by omega)
  rw[bt (Sd9 k1 k2 k3),yc5 k1 k2 k3];cases g3 p.n==1 with
  |false=>rfl
  |true =>
   simp only[List.all_cons,List.all_nil,Qig,smb,Bool.true_and];rw[y7];by_cases ha:p.b < -2097152
   ·rw[bf (decide_eq_false (by omega)),show decide (p.b < -2097152)=true from decide_eq_true ha];rfl
   ·rw[bt (decide_eq_true (by omega)),show decide (p.b < -2097152)=false from decide_eq_false ha]
    congr 3;by_cases hc:p.b<=2097152
    ·rw[decide_eq_true hc,decide_eq_false (by omega)];rfl
    ·rw[decide_eq_false hc,decide_eq_true (by omega)];rfl
theorem Td0(p:Pln):Za8 p=okp p:=by unfold Za8;rw[Lc5 p];rfl
theorem fd4(p:Pln):Za9 p=true:=by unfold Za9;rw[Lc5 p];rfl
def chk(l:List Pln):Int:=if (l.length:Int)>48 then 2 else if l.all okp then 0 else 12
theorem yc6{l:List Pln}:chk l=0↔l.length<=48/\∀p∈l,okp p=true:=by
 unfold chk;by_cases hn:(l.length:Int)>48
 ·rw[if_pos hn];exact⟨λh=>absurd h (by decide),λh=>by omega⟩
 ·rw[if_neg hn];cases h:l.all okp with
  |true=>exact⟨λ_=>⟨by omega,Qio.1 h⟩,λ_=>rfl⟩
  |false=>exact⟨λh=>absurd h (by decide),λh'=>by rw[Qio.2 h'.2] at h;cases h⟩
theorem btD{p:Prop}{inst:Decidable p}(h:p){α:Type}(t e:α):sl (@decide p inst) t e=t:=bt (decide_eq_true h) t e
theorem bfD{p:Prop}{inst:Decidable p}(h:¬ p){α:Type}(t e:α):sl (@decide p inst) t e=e:=bf (decide_eq_false h) t e
theorem r7{j n:Nat}(h:j<n):(j:Int)<(n:Int):=Int.ofNat_lt.2 h
theorem A7{j n:Nat}(h:¬ j<n):¬ (j:Int)<(n:Int):=λh'=>h (Int.ofNat_lt.1 h')
noncomputable def Rb9(r:List Pln)(p q:Pln)(out:List Pt)(s:Pln):List Pt :=
 if (mpt p q s).2&&(!je6 out (mpt p q s).1&&inn r (mpt p q s).1) then out++[(mpt p q s).1] else out
noncomputable def Id0(r:List Pln)(p q:Pln)(l:List Pln)(out:List Pt):List Pt:=l.foldl (Rb9 r p q) out
noncomputable def fd5(r:List Pln)(p:Pln):List Pln->List Pt->List Pt
 |[],out=>out
 |q::l,out=>fd5 r p l (Id0 r p q l out)
noncomputable def rd2(r:List Pln):List Pln->List Pt->List Pt
 |[],out=>out
 |p::l,out=>rd2 r l (fd5 r p l out)
noncomputable def cor(r:List Pln):List Pt:=rd2 r r []
def Bds(r:List Pln):Prop:=∀p∈r,Bd p
noncomputable def ph(out:List Pt):Nat:=match out with
 |[]=>0
 |_::_=>1
theorem yd2{α:Type}(t:Ty α)(l:List α)(n k:Nat):gL t (l.drop n) k=gL t l (n+k):=by simp[gL,Qiah,List.getElem?_drop]
theorem Lc6{ρ:Type}(R:RR ρ){x:b7×List c8}{r:ρ}(h:R.rd x=some r):W0 R (some x)=r:=by
 show Option.rec (motive:=λ_=>ρ) R.d (λx=>x) (R.rd x)=r
 rw[h]
theorem fd6{ρ:Type}(R:RR ρ){x:b7×List c8}{r:ρ}(h:R.rd x=some r):okO R (some x)=true:=by
 show Option.rec (motive:=λ_=>Bool) false (λ_=>true) (R.rd x)=true
 rw[h]
@[reducible] noncomputable def flK:List (Nat×CK):=[(0,.int .i64),(1,.int .i64),(2,.int .i64),(3,.int .i64)]
theorem ze9(s:Pln):((Nat.ble 4 (len (tP.row s)))&&(na9 [CK.int .i64,CK.int .i64,CK.int .i64,CK.int .i64] (tP.row s)))=true:=rfl
noncomputable def ws:List Pln:=[⟨⟨1,0,0⟩,24⟩,⟨⟨-1,0,0⟩,24⟩,⟨⟨0,1,0⟩,24⟩,⟨⟨0,-1,0⟩,24⟩,⟨⟨0,0,1⟩,24⟩,⟨⟨0,0,-1⟩,24⟩]
theorem Je9:Bds ws:=by
 intro p hp
 have:okp p=true:=by
  have h:ws.all okp=true:=by decide
  exact Qio.1 h p hp
 exact Jb9 this
noncomputable def pos(X:List Pt)(p:Pln):Bool:=X.any λx=>decide (rm p x>0)
noncomputable def je9(r:List Pln):Bool:=r.all (pos (cor r))
theorem ke0{c:List Pln}(h:(chk c==0)=true):Bds (c++ws)/\(c++ws).length<=200:=by
 rw[beq_iff_eq,yc6] at h;refine⟨λp hp=>?_,by rw[List.length_append,show ws.length=6 from rfl];omega⟩
 rcases List.mem_append.1 hp with hp|hp
 ·exact Jb9 (h.2 p hp)
 ·exact Je9 p hp
noncomputable def pts(c:List Pln):List Pt:=if chk c==0 then cor (c++ws) else []
noncomputable def ful(c:List Pln):Bool:=(chk c==0)&&je9 (c++ws)
theorem fd7{Q:Pt->Prop}(r:List Pln)(p q:Pln):∀(l:List Pln) (out:List Pt),(∀s∈l,(mpt p q s).2=true->inn r (mpt p q s).1=true->Q (mpt p q s).1)->(∀x∈out,Q x)->∀x∈Id0 r p q l out,Q x
 |[],out,_,h=>h
 |s::l,out,hs,h=>fd7 r p q l (Rb9 r p q out s) (λt ht=>hs t (Qib _ ht)) λx hx=>by
  unfold Rb9 at hx
  split at hx
  ·rename_i hc;rw[Qid,Qid] at hc
   rcases List.mem_append.1 hx with hx|hx
   ·exact h x hx
   ·rw[List.mem_singleton] at hx;subst hx;exact hs s Qic hc.1 hc.2.2
  ·exact h x hx
theorem fd8{Q:Pt->Prop}(r:List Pln)(p:Pln):∀(l:List Pln) (out:List Pt),(∀q∈l,∀s∈l,(mpt p q s).2=true->inn r (mpt p q s).1=true->Q (mpt p q s).1)->(∀x∈out,Q x)->∀x∈fd5 r p l out,Q x
 |[],out,_,h=>h
 |q::l,out,hs,h=>fd8 r p l _ (λa ha t ht=>hs a (Qib _ ha) t (Qib _ ht)) (fd7 r p q l out (λt ht=>hs q Qic t (Qib _ ht)) h)
theorem fd9{Q:Pt->Prop}(r:List Pln):∀(l:List Pln) (out:List Pt),(∀p∈l,∀q∈l,∀s∈l,(mpt p q s).2=true->inn r (mpt p q s).1=true->Q (mpt p q s).1)->(∀x∈out,Q x)->∀x∈rd2 r l out,Q x
 |[],out,_,h=>h
 |p::l,out,hs,h=>fd9 r l _ (λa ha c hc t ht=>hs a (Qib _ ha) c (Qib _ hc) t (Qib _ ht)) (fd8 r p l out (λc hc t ht=>hs p Qic c (Qib _ hc) t (Qib _ ht)) h)
theorem yd3{Q:Pt->Prop}{r:List Pln}(hs:∀p∈r,∀q∈r,∀s∈r,(mpt p q s).2=true->inn r (mpt p q s).1=true->Q (mpt p q s).1):∀x∈cor r,Q x :=
 fd9 r r [] hs λx hx=>by cases hx
structure Okx(x:Pt):Prop where
 w1:0<x.pw
 w2:x.pw<=600000000000
 c1:Sm 300000000000000 x.px
 c2:Sm 300000000000000 x.py
 c3:Sm 300000000000000 x.pz
theorem Tc8{r:List Pln}(hb:Bds r):∀x∈cor r,Okx x:=yd3 λp hp q hq s hs h _=>by
 obtain⟨h1,h2,h3,h4,h5⟩:=rd1 (hb p hp) (hb q hq) (hb s hs) h;exact⟨h1,h5,h2,h3,h4⟩
theorem gd0{x y:Int}(hy:0<y):Int.tmod x y+y*Int.tdiv x y=x/\-y<Int.tmod x y/\Int.tmod x y<y:=by
 refine⟨Int.tmod_add_mul_tdiv x y,?_,Int.tmod_lt_of_pos x hy⟩
 have:=Int.lt_tmod_of_pos x hy
 omega
theorem Td1(x:Int){y:Int}(hy:0<y)(hy2:y<=4000000000000000000):fb6 x y=some (i (x % y),[]):=by
 have hz:(y==0)=false:=by rw[beq_eq_false_iff_ne];omega
 obtain⟨h1,h2,h3⟩:=gd0 (x:=x) hy;unfold fb6;rw[bfD (by omega),bf hz,bf hz,I6 (by omega) (by omega),Int.tmod_eq_emod_of_nonneg (by omega)]
 congr 3;rw[Int.add_emod_right]
 conv=>rhs;rw[<- h1]
 rw[Int.add_mul_emod_self_left]
theorem re9(x:Int){y:Int}(hy:0<y)(hy2:y<=4000000000000000000):Sa1 x y=x % y:=by unfold Sa1;rw[Td1 x hy hy2];rfl
theorem se0(x:Int){y:Int}(hy:0<y)(hy2:y<=4000000000000000000):Sa2 x y=true:=by unfold Sa2;rw[Td1 x hy hy2];rfl
theorem Sm.neg{n x:Int}(h:Sm n x):Sm n (-x):=⟨by have:=h.2;omega,by have:=h.1;omega⟩
def Nx{σ:Type}(x:Stp σ)(E:Nat->Prop)(N:σ->Prop):Prop:=(∃t,x=.exit t/\E t)\/∃s,x=.next s/\N s
theorem Nx.sl{σ:Type}{c:Bool}{t e:Stp σ}{E:Nat->Prop}{N:σ->Prop}(h1:c=true->Nx t E N)(h2:c=false->Nx e E N):Nx (sl c t e) E N:=by cases c;exact h2 rfl;exact h1 rfl
theorem Nx.ex{σ:Type}{t:Nat}{E:Nat->Prop}{N:σ->Prop}(h:E t):Nx (.exit t) E N:=.inl ⟨t,rfl,h⟩
theorem Nx.nx{σ:Type}{s:σ}{E:Nat->Prop}{N:σ->Prop}(h:N s):Nx (.next s) E N:=.inr ⟨s,rfl,h⟩
theorem P6 {σ τ : Type} {step : σ → Stp σ} {mk : Nat → τ → σ} (n : Nat) (I : Nat → τ → Prop) (E : Nat → σ → Prop) (hn : n ≤ 1000000000)
  (h:∀j a,j<n->I j a->Nx (step (mk j a)) (λt=>E t (mk j a)) (λs=>∃a',s=mk (j+1) a'/\I (j+1) a'))
  (hf:∀j a,n<=j->I j a->∃t,step (mk j a)=.exit t/\E t (mk j a)) (j0:Nat) (a:τ) (hi:I j0 a):∃t s,lp step (mk j0 a)=(t,s)/\E t s:=by
 have key:=Zb3 (step:=step) (I:=λm s=>∃j a,m=n-j/\s=mk j a/\I j a) (Q:=E) (λm s ⟨j,a,hm,hs,ha⟩=>by
  subst hs;by_cases hlt:j<n
  ·rcases h j a hlt ha with h1|⟨s',h1,a',h2,h3⟩
   ·exact .inl h1
   ·subst h2;exact .inr ⟨_,n-(j+1),by omega,h1,j+1,a',rfl,rfl,h3⟩
  ·exact .inl (hf j a (by omega) ha)) (n-j0) (mk j0 a) (by omega) ⟨j0,a,rfl,rfl,hi⟩
 exact⟨_,_,rfl,key⟩
def Rd{ρ:Type}(R:RR ρ)(o:Option (b7×List c8))(P:ρ->Prop):Prop:=∃x r,o=some x/\R.rd x=some r/\P r
theorem Rd.p{ρ:Type}{R:RR ρ}{o:Option (b7×List c8)}{P:ρ->Prop}(h:Rd R o P):P (W0 R o):=by
 obtain⟨x,r,h1,h2,h3⟩:=h;rw[h1,Lc6 R h2];exact h3
theorem Rd.g{ρ:Type}{R:RR ρ}{o:Option (b7×List c8)}{P:ρ->Prop}(h:Rd R o P):okO R o=true:=by
 obtain⟨x,r,h1,h2,h3⟩:=h;rw[h1];exact fd6 R h2
theorem Rd.sl{ρ:Type}{R:RR ρ}{c:Bool}{t e:Option (b7×List c8)}{P:ρ->Prop}(h1:c=true->Rd R t P)(h2:c=false->Rd R e P):Rd R (sl c t e) P:=by cases c;exact h2 rfl;exact h1 rfl
theorem Ja7 (n : Int) (l : List Int) (j : Int) (h1 : 0 ≤ j) (h2 : j ≤ 1000000) (hn : 0 < n) (hn2 : n ≤ 1000000) :
  ∃v j',z8 ⟨n,l,j⟩=⟨1,v,j'⟩/\0<=v/\v<n/\j<=j'/\j'<=j+1:=by
 unfold z8 ca7
 simp only
 by_cases h:j>=(l.length:Int)
 ·rw[btD h];exact⟨0,j,rfl,by omega,hn,by omega,by omega⟩
 ·rw[bfD h];have hW:W (W (j+1)-1)=j:=by rw[Tc4,I6 (by omega) (by omega)];omega
  have hW2:W (j+1)=j+1:=I6 (by omega) (by omega)
  have hin:inB j l.length=true:=by rw[ie9];exact decide_eq_true (by omega)
  rw[hW,hW2,hin,se0 _ hn (by omega),re9 _ hn (by omega)]
  exact⟨_,_,rfl,Int.emod_nonneg _ (by omega),Int.emod_lt_of_pos _ hn,by omega,by omega⟩
def inV(v:V3):Bool:=smb 24 v.x&&(smb 24 v.y&&smb 24 v.z)
theorem ja6(v:V3):inV v=true↔Sm 24 v.x/\Sm 24 v.y/\Sm 24 v.z:=by unfold inV;rw[Qid,Qid,mb3,mb3,mb3]
theorem Td2(v:V3):ub8 v=some (b (inV v),[]):=by
 unfold ub8 inV smb;cases h1:decide (v.x < -24)<;>cases h2:decide (v.x>24)<;>cases h3:decide (v.y < -24)<;>cases h4:decide (v.y>24)<;>cases h5:decide (v.z < -24)<;>cases h6:decide (v.z>24)<;>rfl
theorem se1(v:V3):Ua9 v=inV v:=by unfold Ua9;rw[Td2];rfl
theorem Td3(v:V3):Va0 v=true:=by unfold Va0;rw[Td2];rfl
def sub(a b:V3):V3:=⟨a.x-b.x,a.y-b.y,a.z-b.z⟩
theorem yd4{a b:V3}(ha:inV a=true)(hb:inV b=true):Ga8 a b=sub a b/\Sm 48 (sub a b).x/\Sm 48 (sub a b).y/\Sm 48 (sub a b).z:=by
 rw[ja6] at ha hb;obtain⟨⟨a1,a2⟩,⟨a3,a4⟩,a5,a6⟩:=ha;obtain⟨⟨b1,b2⟩,⟨b3,b4⟩,b5,b6⟩:=hb;unfold Ga8 sub;rw[I6 (by omega) (by omega),I6 (by omega) (by omega),I6 (by omega) (by omega)]
 exact⟨rfl,⟨by show _<=a.x-b.x;omega,by show a.x-b.x<=_;omega⟩,⟨by show _<=a.y-b.y;omega,by show a.y-b.y<=_;omega⟩,⟨by show _<=a.z-b.z;omega,by show a.z-b.z<=_;omega⟩⟩
theorem eb0 {a b c : V3} (ha : inV a = true) (hb : inV b = true) (hc : inV c = true) :
  Ka6 (Ga8 b a) (Ga8 c a)=c7 (sub b a) (sub c a)/\Sm 4608 (c7 (sub b a) (sub c a)).x/\Sm 4608 (c7 (sub b a) (sub c a)).y/\Sm 4608 (c7 (sub b a) (sub c a)).z:=by
 obtain⟨e1,⟨u1,u2⟩,⟨u3,u4⟩,u5,u6⟩:=yd4 hb ha;obtain⟨e2,⟨v1,v2⟩,⟨v3,v4⟩,v5,v6⟩:=yd4 hc ha;rw[e1,e2,je5];generalize sub b a=p at *
 generalize sub c a=q at *
 have h1:=mb u3 u4 v5 v6;have h2:=mb u5 u6 v3 v4;have h3:=mb u5 u6 v1 v2;have h4:=mb u1 u2 v5 v6;have h5:=mb u1 u2 v3 v4;have h6:=mb u3 u4 v1 v2;have k:Sm 4608 (c7 p q).x/\Sm 4608 (c7 p q).y/\Sm 4608 (c7 p q).z:=by unfold Sm c7;simp only;omega
 obtain⟨k1,k2,k3⟩:=k;rw[qb0 (k1.mono (by omega)),qb0 (k2.mono (by omega)),qb0 (k3.mono (by omega))]
 exact⟨rfl,k1,k2,k3⟩
def B9(a b c:V3):Pln×Bool :=
 if inV a&&(inV b&&inV c) then
  if g3 (c7 (sub b a) (sub c a))=0 then (⟨⟨0,0,0⟩,0⟩,false)
  else (⟨⟨Int.tdiv (c7 (sub b a) (sub c a)).x (g3 (c7 (sub b a) (sub c a))),Int.tdiv (c7 (sub b a) (sub c a)).y (g3 (c7 (sub b a) (sub c a))),Int.tdiv (c7 (sub b a) (sub c a)).z (g3 (c7 (sub b a) (sub c a)))⟩,
   dot ⟨Int.tdiv (c7 (sub b a) (sub c a)).x (g3 (c7 (sub b a) (sub c a))),Int.tdiv (c7 (sub b a) (sub c a)).y (g3 (c7 (sub b a) (sub c a))),Int.tdiv (c7 (sub b a) (sub c a)).z (g3 (c7 (sub b a) (sub c a)))⟩ a⟩,true)
 else (⟨⟨0,0,0⟩,0⟩,false)
theorem Ab0(v:V3):0<=g3 v:=by unfold g3;omega
theorem yc7(a c d:V3):va0 a c d=some (.tup [.agg (tP.row (B9 a c d).1),b (B9 a c d).2],[]):=by
 unfold va0 B9;simp only[se1,Td3];cases ha:inV a with
 |false=>rfl
 |true =>
  cases hc:inV c with
  |false=>rfl
  |true =>
   cases hd:inV d with
   |false=>rfl
   |true =>
    obtain⟨e,k1,k2,k3⟩:=eb0 ha hc hd;rw[e];generalize c7 (sub c a) (sub d a)=n at *
    have m1:=k1.mono (m:=1000000000000000000) (by omega)
    have m2:=k2.mono (m:=1000000000000000000) (by omega)
    have m3:=k3.mono (m:=1000000000000000000) (by omega)
    rw[Sd9 m1 m2 m3,yc5 m1 m2 m3];by_cases h0:g3 n=0
    ·rw[show (g3 n==0)=true from by rw[h0];rfl]
     simp only[Qip,if_true,h0];rfl
    ·have hp:=Ab0 n;have q1:=ea3 (g:=g3 n) k1 (by omega)
     have q2:=ea3 (g:=g3 n) k2 (by omega)
     have q3:=ea3 (g:=g3 n) k3 (by omega)
     rw[show (g3 n==0)=false from by rw[beq_eq_false_iff_ne];exact h0,ze8 m1 m2 m3 h0]
     simp only[Qip,if_true,h0,if_false];rw[qb0 (q1.mono (by omega)),qb0 (q2.mono (by omega)),qb0 (q3.mono (by omega))]
     have hdot:Ga3 ⟨Int.tdiv n.x (g3 n),Int.tdiv n.y (g3 n),Int.tdiv n.z (g3 n)⟩ a=dot ⟨Int.tdiv n.x (g3 n),Int.tdiv n.y (g3 n),Int.tdiv n.z (g3 n)⟩ a:=by
      unfold Ga3;simp only[Jb5,Zb2];obtain⟨⟨a1,a2⟩,⟨a3,a4⟩,a5,a6⟩:=(ja6 a).1 ha;have r1:=mb q1.1 q1.2 a1 a2;have r2:=mb q2.1 q2.2 a3 a4;have r3:=mb q3.1 q3.2 a5 a6;rw[I6 (by omega) (by omega)]
      rfl
     rw[hdot];rfl
theorem Id1(a b c:V3):Ia9 a b c=B9 a b c:=by unfold Ia9;rw[yc7];rfl
theorem Lc7(a b c:V3):Ja0 a b c=true:=by unfold Ja0;rw[yc7];rfl
theorem ke1(p:Pln)(v:V3):Rd (one r1I) (ya7 p v) (λ_=>True):=by
 unfold ya7;simp only[fd4,Td3,y7];exact Rd.sl (λ_=>⟨_,_,rfl,rfl,trivial⟩) λ_=>Rd.sl (λ_=>⟨_,_,rfl,rfl,trivial⟩) λ_=>Rd.sl (λ_=>⟨_,_,rfl,rfl,trivial⟩) λ_=>Rd.sl (λ_=>⟨_,_,rfl,rfl,trivial⟩) λ_=>⟨_,_,rfl,rfl,trivial⟩
theorem Td4(p:Pln)(v:V3):Jb2 p v=true:=(ke1 p v).g
theorem Ke0(P:ja0)(hl:P.j5.length<=1000000000):∃t s,lp (y6 P) ⟨0⟩=(t,s)/\(t=1\/t=2\/t=3):=by
 obtain⟨l,x1,x2,x3,x4,x5,x6,x7,x8⟩:=P;refine P6 (step:=y6 ⟨l,x1,x2,x3,x4,x5,x6,x7,x8⟩) (mk:=λj (_:Unit)=>(⟨(j:Int)⟩:X4)) l.length (λ_ _=>True) (λt _=>t=1\/t=2\/t=3) hl (λj a hj _=>?_) (λj a hj _=>?_) 0 () trivial
 ·simp only[y6,T1,Td4,Int.toNat_natCast,D2 hj (show l.length<=4611686018427387904 from Nat.le_trans hl (by omega))]
  rw[btD (r7 hj),bt (i9 hj),y7];exact Nx.sl (λ_=>Nx.sl (λ_=>.ex (by simp)) λ_=>.nx ⟨(),rfl,trivial⟩) λ_=>.ex (by simp)
 ·simp only[y6,T1];rw[bfD (by omega)]
  exact⟨_,rfl,by simp⟩
theorem Ke1(l:List V3)(hl:l.length<=1000000000)(a c:Nat)(ha:a<l.length)(hc:c<a):∃t s,lp (M1 ⟨(a:Int),(c:Int)⟩) ⟨l,0⟩=(t,s)/\((t=1\/t=2)/\s.j5=l):=by
 refine P6 (step:=M1 ⟨(a:Int),(c:Int)⟩) (mk:=λj (_:Unit)=>(⟨l,(j:Int)⟩:X5)) c (λ_ _=>True) (λt s=>(t=1\/t=2)/\s.j5=l) (by omega) (λj x hj _=>?_) (λj x hj _=>?_) 0 () trivial
 ·simp only[M1,aa1,Lc7,Int.toNat_natCast,q9,m9,D2 hj (show c<=4611686018427387904 by omega)]
  rw[btD (r7 hj),bt (i9 ha),bt (i9 (show c<l.length by omega)),bt (i9 (show j<l.length by omega)),y7]
  generalize hP:ja0.mk _ _ _ _ _ _ _ _ _=P3;obtain⟨t,s,h1,h2⟩:=Ke0 P3 (by subst hP;exact hl)
  rw[h1]
  rcases h2 with rfl|rfl|rfl
  ·exact .ex (by simp)
  ·exact .nx ⟨(),rfl,trivial⟩
  ·exact .nx ⟨(),rfl,trivial⟩
 ·simp only[M1,aa1];rw[bfD (by omega)]
  exact⟨_,rfl,by simp⟩
theorem Ke2(l:List V3)(hl:l.length<=1000000000)(a:Nat)(ha:a<l.length):∃t s,lp (M2 ⟨(a:Int)⟩) ⟨l,0⟩=(t,s)/\((t=1\/t=2)/\s.j5=l):=by
 refine P6 (step:=M2 ⟨(a:Int)⟩) (mk:=λj (_:Unit)=>(⟨l,(j:Int)⟩:X6)) a (λ_ _=>True) (λt s=>(t=1\/t=2)/\s.j5=l) (by omega) (λj x hj _=>?_) (λj x hj _=>?_) 0 () trivial
 ·simp only[M2,aa2,q9,m9,D2 hj (show a<=4611686018427387904 by omega)]
  obtain⟨t,s,h1,h2,h3⟩:=Ke1 l hl a j ha hj;rw[btD (r7 hj),h1]
  rcases h2 with rfl|rfl
  ·exact .ex (by simp)
  ·exact .nx ⟨(),by rw[h3],trivial⟩
 ·simp only[M2,aa2];rw[bfD (by omega)]
  exact⟨_,rfl,by simp⟩
theorem Za0(l:List V3)(hl:l.length<=1000000000):Rd (one r1B) (ya8 l) (λ_=>True):=by
 have key:∃t s,lp (M3 ⟨⟩) ⟨l,0⟩=(t,s)/\(t=1\/t=2):=by
  refine P6 (step:=M3 ⟨⟩) (mk:=λj (_:Unit)=>(⟨l,(j:Int)⟩:X7)) l.length (λ_ _=>True) (λt s=>t=1\/t=2) hl (λj x hj _=>?_) (λj x hj _=>?_) 0 () trivial
  ·simp only[M3,aa3,q9,m9,D2 hj (show l.length<=4611686018427387904 by omega)]
   obtain⟨t,s,h1,h2,h3⟩:=Ke2 l hl j hj;rw[btD (r7 hj),h1]
   rcases h2 with rfl|rfl
   ·exact .ex (by simp)
   ·exact .nx ⟨(),by rw[h3],trivial⟩
  ·simp only[M3,aa3];rw[bfD (by omega)]
   exact⟨_,rfl,by simp⟩
 obtain⟨t,s,h1,h2⟩:=key;unfold ya8;simp only[q9,m9];rw[h1]
 rcases h2 with rfl|rfl<;>exact⟨_,_,rfl,rfl,trivial⟩
theorem Td5(l:List V3)(hl:l.length<=1000000000):Ga9 l=true:=(Za0 l hl).g
structure Fc(ph:Nat)(out:List Pln)(m:Nat):Prop where
 h:(ph=0/\out=[])\/ph=1
 l:out.length<=m
theorem Fc.more{ph m m':Nat}{out:List Pln}(h:Fc ph out m)(hm:m<=m'):Fc ph out m':=⟨h.h,Nat.le_trans h.l hm⟩
def phV(out:List V3):Nat:=match out with
 |[]=>0
 |_::_=>1
theorem Tc9(out:List V3)(x:V3):phV (out++[x])=1:=by cases out<;>rfl
theorem Sb0(l:List V3)(x1 x2 x3:Int):app (bL tV l) [[i x1,i x2,i x3]]=bL tV (l++[⟨x1,x2,x3⟩]):=cb1 tV l [⟨x1,x2,x3⟩]
theorem ke2{l:List V3}{m:Nat}(h:m<l.length):(((Nat.blt (0+m) (len (bL tV l)))&&(Nat.ble (0+3) (len (i7 (bL tV l) (0+m)))))&&(na9 [CK.int .i64,CK.int .i64,CK.int .i64] (i6 (i7 (bL tV l) (0+m)) 0)))=true:=by
 rw[Qiaj,O4 tV h,Ba7,show Nat.blt m l.length=true from by rw[Nat.blt_eq];exact h]
 rfl
theorem se2{l:List V3}{m:Nat}(h:m<l.length):(((Nat.blt (0+m) (len (bL tV l)))&&(Nat.ble (2+1) (len (i7 (bL tV l) (0+m)))))&&(na9 [CK.int .i64] (i6 (i7 (bL tV l) (0+m)) 2)))=true:=by
 rw[Qiaj,O4 tV h,Ba7,show Nat.blt m l.length=true from by rw[Nat.blt_eq];exact h]
 rfl
theorem Td6{n:Nat}{l:List V3}(hn:l.length=n)(h:n<=1000000000):(Nat.beq n (len (bL tV l))&&Nat.ble ((n+1)*24) room)=true:=by
 subst hn;rw[Ba7,Qiy,Bool.true_and,Nat.ble_eq];unfold room;omega
theorem ke3 (x : List Int) (N : Nat) (h4 : 4 ≤ N) (h8 : N ≤ 8) (j0 : Int) (hj0 : 0 ≤ j0 ∧ j0 ≤ 10) :
  ∃idx out,lp (ca8 ⟨(N:Int)⟩) ⟨0,0,x,j0,0,[]⟩=(2,⟨1,(N:Int),x,idx,N,bL tV out⟩)/\out.length=N:=by
 have key:=P6 (step:=ca8 ⟨(N:Int)⟩) (mk:=λj (a:Int×List V3)=>(⟨phV a.2,(j:Int),x,a.1,a.2.length,bL tV a.2⟩:o9)) N
  (λj a=>a.2.length=j/\0<=a.1/\a.1<=10+4*j/\j<=N) (λt s=>t=2/\∃idx out,s=⟨1,(N:Int),x,idx,N,bL tV out⟩/\out.length=N) (by omega) (λj a hj ha=>?_) (λj a hj ha=>?_) 0 (j0,[]) ⟨rfl,hj0.1,by omega,by omega⟩
 ·obtain⟨t,s,e1,rfl,idx,out,e2,e3⟩:=key;exact⟨idx,out,by rw[<- e2];exact e1,e3⟩
 ·obtain⟨at0,out⟩:=a;obtain⟨ho,ha1,ha2,_⟩:=ha
  simp only at ho ha1 ha2
  have hn:=D2 hj (show N<=4611686018427387904 by omega)
  obtain⟨v1,j1,d1,_,_,c1,b1⟩:=Ja7 17 x at0 ha1 (by omega) (by omega) (by omega)
  obtain⟨v2,j2,d2,_,_,c2,b2⟩:=Ja7 17 x j1 (by omega) (by omega) (by omega) (by omega)
  obtain⟨v3,j3,d3,_,_,c3,b3⟩:=Ja7 17 x j2 (by omega) (by omega) (by omega) (by omega)
  obtain⟨v4,j4,d4,_,_,c4,b4⟩:=Ja7 6 x j3 (by omega) (by omega) (by omega) (by omega)
  have leaf : ∀ (E : Nat → Prop) (x1 x2 x3 : Int), Nx (.next (⟨1, ((j + 1 : Nat) : Int), x, j4, j + 1, bL tV (out ++ [⟨x1, x2, x3⟩])⟩ : o9)) E
    (λs=>∃a':Int×List V3,s=⟨phV a'.2,((j+1:Nat):Int),x,a'.1,a'.2.length,bL tV a'.2⟩/\a'.2.length=j+1/\0<=a'.1/\a'.1<=10+4*((j+1:Nat):Int)/\j+1<=N):=λE x1 x2 x3=>by
   have hl:(out++[(⟨x1,x2,x3⟩:V3)]).length=j+1:=by simp[ho]
   exact .nx ⟨(j4,out++[⟨x1,x2,x3⟩]),by simp only[Tc9,hl],hl,by show 0<=j4;omega,by show j4<=_;omega,by omega⟩
  cases out with
  |nil =>
   have hj0':j=0:=by simpa using ho.symm
   subst hj0';show Nx (Q6 Stp.next Stp.exit Stp.fail _ _) _ _;simp only[Q6,q9,m9,d1,d2,d3,d4,hn];rw[btD (r7 hj)];have f1:decide (((0:Nat):Int)>1)=false:=rfl;have f2:decide (((0:Nat):Int)>0)=false:=rfl;have f3:decide (((0:Nat):Int)>2)=false:=rfl;have lf:∀(E:Nat->Prop) (x1 x2 x3:Int),Nx (.next (⟨1,((0+1:Nat):Int),x,j4,1,[[i x1,i x2,i x3]]⟩:o9)) E _:=leaf;simp only[f1,f2,f3,Ta7,Qiy,Qig,y7];refine Nx.sl (λ_=>?_) (λ_=>?_)<;>refine Nx.sl (λ_=>?_) (λ_=>?_)
   all_goals first
    |exact lf _ _ _ _
    |(refine Nx.sl (λ_=>?_) (λ_=>?_)<;>exact lf _ _ _ _)
  |cons o os =>
   have h1:1<=j:=by simp only[List.length_cons] at ho;omega
   generalize hO:o::os=O at *
   have hph:phV O=1:=by subst hO;rfl
   have w1:W ((j:Int)-1)=((j-1:Nat):Int):=by rw[I6 (by omega) (by omega)];omega
   have i1:inB ((j-1:Nat):Int) j=true:=i9 (by omega)
   have r1:=ke2 (l:=O) (m:=j-1) (by omega)
   have r1':=se2 (l:=O) (m:=j-1) (by omega)
   have rr:=Td6 ho (by omega)
   have f2:∀{inst:Decidable ((j:Int)>0)},@decide ((j:Int)>0) inst=true:=decide_eq_true (by omega)
   show Nx (sel (Nat.beq (phV O) 1) (o5 Stp.next Stp.exit Stp.fail _ _) _) _ _;rw[hph];show Nx (o5 Stp.next Stp.exit Stp.fail _ _) _ _;by_cases h2:2<=j
   ·have w2:W ((j:Int)-2)=((j-2:Nat):Int):=by rw[I6 (by omega) (by omega)];omega
    have i2:inB ((j-2:Nat):Int) j=true:=i9 (by omega)
    have r2:=ke2 (l:=O) (m:=j-2) (by omega)
    simp only[o5,q9,m9,d1,d2,d3,d4,hn,ho,w1,w2,i1,i2,Int.toNat_natCast,r1,r1',r2,rr,Sb0];rw[btD (r7 hj)];simp only[Qiy,Qig,y7]
    repeat' (first | exact leaf _ _ _ _ | refine Nx.sl (λ_=>?_) (λ_=>?_))
   ·have hj1:j=1:=by omega
    subst hj1;simp only[o5,q9,m9,d1,d2,d3,d4,hn,ho,w1,i1,Int.toNat_natCast,r1,r1',rr,Sb0];have f1:decide (((1:Nat):Int)>1)=false:=rfl;rw[btD (r7 hj)];simp only[f1,Ta7,Qiy,Qig,y7]
    repeat' (first | exact leaf _ _ _ _ | refine Nx.sl (λ_=>?_) (λ_=>?_))
 ·obtain⟨at0,out⟩:=a;obtain⟨ho,ha1,ha2,hjN⟩:=ha
  simp only at ho ha1 ha2
  have hj':j=N:=by omega
  subst hj';cases out with
  |nil=>simp only[List.length_nil] at ho;omega
  |cons o os =>
   refine⟨2,?_,rfl,at0,o::os,by rw[ho];rfl,ho⟩
   show o5 Stp.next Stp.exit Stp.fail _ _=_;simp only[o5];rw[bfD (by omega)]
theorem Uc0{l:List V3}{n:Nat}{r:List (List b7)}{P:List V3->Prop}(hn:n=l.length)(hr:r=bL tV l)(h:P l):Rd (one (r1L tV)) (some (.sl 0 0 n 0,[⟨25,3,r,true,false,0⟩])) P:=by
 subst hn hr;refine⟨_,l,rfl,?_,h⟩;show Bool.rec (motive:=λ_=>Option (List V3)) none (some (slR tV (bL tV l) 0 l.length)) (Bool.and true (okS tV (bL tV l) 0 l.length))=_
 rw[Ib4,Wb4];rfl
theorem Lc8(x:List Int):Rd (one (r1L tV)) (ja1 x) (λr=>4<=r.length/\r.length<=8):=by
 obtain⟨v,j,e1,a1,b1,c1,d1⟩:=Ja7 5 x 0 (by omega) (by omega) (by omega) (by omega)
 have hN:W (4+v)=(((4+v).toNat:Nat):Int):=by rw[I6 (by omega) (by omega)];omega
 obtain⟨idx,out,e2,e3⟩:=ke3 x (4+v).toNat (by omega) (by omega) j (by omega)
 unfold ja1;simp only[q9,m9,e1,hN,e2];have h4:4<=(4+v).toNat:=by omega
 have h8:(4+v).toNat<=8:=by omega
 generalize (4+v).toNat=N at *
 have s1:lsL tV N (λk=>i7 (bL tV out) (0+k))=out:=by rw[<- e3];exact Ib4 tV out
 have s2:okL tV N (λk=>i7 (bL tV out) (0+k))=true:=by rw[<- e3];exact Wb4 tV out
 have gf:Ga9 out=true:=Td5 out (by omega)
 rw[s1,s2,gf];simp only[Qiy,Qig,y7,show Nat.beq 2 1=false from rfl,Ta7]
 refine Rd.sl (λ_=>?_) λ_=>Uc0 e3.symm rfl ⟨by omega,by omega⟩
 have i0:inB 0 N=true:=i9 (j:=0) (by omega)
 have i1:inB 1 N=true:=i9 (j:=1) (by omega)
 have i2:inB 2 N=true:=i9 (j:=2) (by omega)
 have i3:inB 3 N=true:=i9 (j:=3) (by omega)
 have sp:∀(v:V3) (x1 x2 x3:Int),P1 (tV.row v) 0 [i x1,i x2,i x3]=tV.row ⟨x1,x2,x3⟩:=λ_ _ _ _=>rfl
 have rl:∀v:V3,Nat.ble (0+3) (len (tV.row v))=true:=λ_=>rfl
 have ck:∀v:V3,na9 [CK.int .i64,CK.int .i64,CK.int .i64] (i6 (tV.row v) 0)=true:=λ_=>rfl
 have gr:∀(l:List V3) (k:Nat),l.length=N->k<4->i7 (bL tV l) k=tV.row (gL tV l k):=λl k hl hk=>O4 tV (by omega)
 have bl:∀(l:List V3) (k:Nat),l.length=N->k<4->Nat.blt k (len (bL tV l))=true:=λl k hl hk=>by rw[Ba7,Nat.blt_eq];omega
 have ls:∀(l:List V3) (k:Nat) (v:V3),l.length=N->(l.set k v).length=N:=λl k v hl=>by rw[Qial];exact hl
 rw[gr out 0 e3 (by omega),gr out 1 e3 (by omega)]
 simp only[sp,Ka5];rw[gr _ 2 (ls out 1 _ e3) (by omega)]
 simp only[sp,Ka5];rw[gr _ 3 (ls _ 2 _ (ls out 1 _ e3)) (by omega)]
 simp only[sp,Ka5,rl,ck,i0,i1,i2,i3,bl out 0 e3 (by omega),bl out 1 e3 (by omega),bl _ 2 (ls out 1 _ e3) (by omega),bl _ 3 (ls _ 2 _ (ls out 1 _ e3)) (by omega),Qig,y7]
 exact Uc0 (by simp only[Qial];omega) rfl (by simp only[Qial];omega)
theorem Td7(x:List Int):Pa0 x=true:=(Lc8 x).g
theorem gd1(x:List Int):4<=(r4 x).length/\(r4 x).length<=8:=(Lc8 x).p
theorem Ae0{α:Type}(t:Ty α)(k:Nat)(l:List α):(one (r1L t)).rd (.sl 0 0 l.length 0,[⟨k,t.es,bL t l,true,false,0⟩])=some l:=by
 show Bool.rec (motive:=λ_=>Option (List α)) none (some (slR t (bL t l) 0 l.length)) (Bool.and (Nat.beq t.es t.es) (okS t (bL t l) 0 l.length))=_
 rw[Ib4,Wb4,Qiy];rfl
theorem bc7(v:V3):pa4 v=inV v/\pa5 v=true:=by
 have h3:[v.x,v.y,v.z].length<=1000000000:=by simp
 have:Ua8 v=some (b (inV v),[]):=by
  unfold Ua8 inV;simp only[bc4 24 _ (by omega) h3,bc5 24 _ (by omega) h3,y7]
  simp only[List.all_cons,List.all_nil,Qig]
 unfold pa4 pa5;rw[this];exact⟨rfl,rfl⟩
noncomputable def has(c:List Pln)(v:V3):Bool:=(chk c==0)&&(inV v&&inn c ⟨v.x,v.y,v.z,1⟩)
noncomputable def apart(a c:List Pln):Bool:=!((chk a==0)&&(chk c==0))||!je9 (a++c++ws)
noncomputable def Id2(a c:List Pln):Bool:=ful a&&((chk c==0)&&(pts a).all (inn c))
noncomputable def onc(X:List Pt)(p:Pln):Nat:=X.countP λx=>rm p x==0
noncomputable def keep(X:List Pt)(p:Pln):Bool:=!decide ((onc X p:Int)<3)
theorem Sb1{α:Type}(c:α->Bool):∀l:List α,(l.take (l.findIdx c)).filter (λx=>!c x)=l.take (l.findIdx c)
 |[]=>rfl
 |x::l=>by
  rw[List.findIdx_cons];cases h:c x with
  |true=>rfl
  |false =>
   simp only[cond_false,List.take_succ_cons,List.filter_cons,h,Bool.not_false,if_true];rw[Sb1 c l]
theorem rd3{α:Type}(l:List α)(j:Nat)(h:j<l.length):l.take (j+1)=l.take j++[l[j]]:=by rw[List.take_succ_eq_append_getElem h]
theorem mb4{α:Type}(t:Ty α){l:List α}{j:Nat}(h:j<l.length):l.take (j+1)=l.take j++[gL t l j]:=by rw[rd3 l j h,pb0 t h]
theorem bc8{α:Type}(t:Ty α){l r:List α}{j:Nat}(h:l.drop j=r.drop j):gL t l j=gL t r j:=by
 have h1:=yd2 t l j 0;have h2:=yd2 t r j 0;rw[Nat.add_zero] at h1 h2;rw[<- h1,<- h2,h]
theorem Sb2{α:Type}{l r:List α}{j:Nat}(h:l.drop j=r.drop j)(k:Nat):l.drop (j+k)=r.drop (j+k):=by rw[<- List.drop_drop,<- List.drop_drop,h]
structure Del(l:List Pln)(f:Pln->Bool)(cur:List Pln)(m j:Nat):Prop where
 len:cur.length=l.length
 t:cur.take m=(l.take j).filter f
 d:cur.drop j=l.drop j
 le:m<=j
 lm:m<=l.length
theorem ke4(l:List Pln)(n:Nat):i6 (bL tP l) n=bL tP (l.drop n):=by unfold bL;rw[E7,n4,n4,List.map_drop]
def eqP(x y:Pln):Bool:=x.n.x==y.n.x&&(x.n.y==y.n.y&&(x.n.z==y.n.z&&(x.b==y.b&&true)))
theorem Sb3(x y:Pln):eqP x y=true↔x=y:=by
 unfold eqP;simp only[Qig,Qid,beq_iff_eq];refine⟨λ⟨h1,h2,h3,h4⟩=>?_,λh=>by subst h;exact⟨rfl,rfl,rfl,rfl⟩⟩
 obtain⟨⟨x1,x2,x3⟩,x4⟩:=x;obtain⟨⟨y1,y2,y3⟩,y4⟩:=y
 simp only at h1 h2 h3 h4
 subst h1 h2 h3 h4;rfl
def ddF:Pln->List Pln->List Pln
 |_,[]=>[]
 |a,x::l=>if eqP x a then ddF x l else x::ddF x l
def dd:List Pln->List Pln
 |[]=>[]
 |x::l=>x::ddF x l
structure Cmp(l:List Pln)(n:Nat)(cur:List Pln)(m j:Nat)(R:List Pln):Prop where
 len:cur.length=l.length
 t:cur.take m++ddF (gL tP l (j-1)) ((l.take n).drop j)=R
 d:cur.drop (j-1)=l.drop (j-1)
 le:m+1<=j
theorem Td8(l:List Pln)(n:Nat)(hn:n<=l.length):slR tP (bL tP l) 0 n=l.take n:=Wb3 tP (by rw[List.length_take];omega) λk hk=>by
 rw[Qiaj,O4 tP (by omega)]
 congr 1;simp[gL,Qiah,List.getElem?_take,hk]
theorem Td9(l:List Pln)(n:Nat)(hn:n<=l.length):okS tP (bL tP l) 0 n=true:=cb0 tP (f:=λk=>gL tP l k) λk hk=>by rw[Qiaj,O4 tP (by omega)]
end Go.Ev.Ce
namespace Go.Ev.Ce
open Go Go.Ev Go.Ev.L Go.Proofs Go.Sort
theorem yc8(l:List Pln):List.Perm (Db6 l) l:=List.mergeSort_perm l _
theorem Id3(x y z:Pln)(h1:(!ltOf cb4 y x)=true)(h2:(!ltOf cb4 z y)=true):(!ltOf cb4 z x)=true:=by
 simp only[Qiaa,Ga6,decide_eq_false_iff_not] at *
 unfold LtP at *
 omega
theorem Id4(x y:Pln):((!ltOf cb4 y x)||!ltOf cb4 x y)=true:=by
 simp only[Bool.or_eq_true,Qiaa,Ga6,decide_eq_false_iff_not];unfold LtP;omega
theorem Uc1(l:List Pln):(Db6 l).Pairwise λx y=>(!ltOf cb4 y x)=true:=List.pairwise_mergeSort Id3 Id4 l
instance:DecidableEq Pln:=λx y=>decidable_of_iff _ (Sb3 x y)
def PC:List Pt:=[⟨0,0,0,1⟩,⟨0,0,1,4⟩,⟨0,1,0,3⟩,⟨1,0,0,2⟩]
end Go.Ev.Ce
namespace Go.Ev.Ce
open Go Go.Ev Go.Ev.L Go.Proofs
set_option maxRecDepth 100000
structure Cb1 where
structure wb3 where
structure wb4 where
structure Cb2 where
 alt:Nat
structure bc9 where
structure Sb4 where
structure Sb5 where
structure cc2 where
 alt:Nat
structure Gc2 where
structure Gc3 where
 alt:Nat
def La5(l:List Pln):Prop:=l.Pairwise LtP
theorem Lc9{x y z:Pln}(h1:LtP x y)(h2:LtP y z):LtP x z:=by unfold LtP at *;omega
theorem oc9(x:Pln):¬ LtP x x:=by unfold LtP;omega
theorem yd5(x y:Pln):LtP x y\/x=y\/LtP y x:=by
 by_cases h1:LtP x y
 ·exact .inl h1
 ·by_cases h2:LtP y x
  ·exact .inr (.inr h2)
  ·refine .inr (.inl ?_);unfold LtP at h1 h2;have e1:x.n.x=y.n.x:=by omega
   have e2:x.n.y=y.n.y:=by omega
   have e3:x.n.z=y.n.z:=by omega
   have e4:x.b=y.b:=by omega
   cases x with | mk n b=>cases y with | mk m c=>cases n;cases m;simp_all
theorem cc3:∀{l r:List Pln},La5 l->La5 r->(∀p,p∈l↔p∈r)->l=r
 |[],[],_,_,_=>rfl
 |[],b::r,_,_,h=>by have:=(h b).2 Qic;cases this
 |a::l,[],_,_,h=>by have:=(h a).1 Qic;cases this
 |a::l,b::r,hl,hr,h=>by
  obtain⟨hl1,hl2⟩:=Qis.1 hl;obtain⟨hr1,hr2⟩:=Qis.1 hr;have hab:a=b:=by
   rcases Qia.1 ((h a).1 Qic) with e|h1
   ·exact e
   ·rcases Qia.1 ((h b).2 Qic) with e|h2
    ·exact e.symm
    ·exact absurd (Lc9 (hr1 a h1) (hl1 b h2)) (oc9 b)
  subst hab;rw[cc3 hl2 hr2 λp=>?_]
  constructor
  ·intro hp
   rcases Qia.1 ((h p).1 (Qib _ hp)) with e|h1
   ·subst e;exact absurd (hl1 p hp) (oc9 p)
   ·exact h1
  ·intro hp
   rcases Qia.1 ((h p).2 (Qib _ hp)) with e|h1
   ·subst e;exact absurd (hr1 p hp) (oc9 p)
   ·exact h1
def Uc2:List Pln->Pln->List Pln
 |[],y=>[y]
 |a::l,y=>if cb4 a y<0 then a::Uc2 l y else if eqP a y then a::l else y::a::l
theorem wb5(y p:Pln):∀x,p∈Uc2 x y↔p=y\/p∈x
 |[]=>by simp[Uc2]
 |a::l=>by
  unfold Uc2;have ih:=wb5 y p l;split
  ·simp only[Qia,ih];constructor
   ·rintro (h|h|h)
    ·exact .inr (.inl h)
    ·exact .inl h
    ·exact .inr (.inr h)
   ·rintro (h|h|h)
    ·exact .inr (.inl h)
    ·exact .inl h
    ·exact .inr (.inr h)
  ·split
   ·rename_i h;rw[Sb3] at h;subst h;simp only[Qia];constructor
    ·exact λh=>.inr h
    ·rintro (h|h)
     ·exact .inl h
     ·exact h
   ·simp only[Qia]
theorem Sb6(y:Pln):∀{x},La5 x->La5 (Uc2 x y)
 |[],_=>List.pairwise_singleton _ _
 |a::l,h=>by
  obtain⟨h1,h2⟩:=Qis.1 h;unfold Uc2;split
  ·rename_i hc;rw[Sc8] at hc;refine Qis.2 ⟨λp hp=>?_,Sb6 y h2⟩
   rcases (wb5 y p l).1 hp with e|hp
   ·subst e;exact hc
   ·exact h1 p hp
  ·rename_i hc;rw[Sc8] at hc;split
   ·exact h
   ·rename_i hne;have hlt:LtP y a:=by
     rcases yd5 y a with h|h|h
     ·exact h
     ·exact absurd ((Sb3 _ _).2 h.symm) hne
     ·exact absurd h hc
    refine Qis.2 ⟨λp hp=>?_,h⟩
    rcases Qia.1 hp with e|hp
    ·subst e;exact hlt
    ·exact Lc9 hlt (h1 p hp)
theorem yd6{σ:Type}{step:σ->Stp σ}{s:σ}{t:Nat}(h:step s=.exit t):lp step s=(t,s):=by rw[Nd9];exact tc0 h
theorem Id5:Db6 []=[]:=List.eq_nil_of_length_eq_zero (zb8 [])
end Go.Ev.Ce
namespace Go.Ev.Ce
def rmZ(p:Pln)(x:Pt):Int:=p.b*x.pw-(p.n.x*x.px+p.n.y*x.py+p.n.z*x.pz)
structure Inr(r:List Pln)(x:Pt):Prop where
 w:0<x.pw
 h:∀p∈r,0<=rmZ p x
def N8(p:Pln):Pln:=⟨⟨-p.n.x,-p.n.y,-p.n.z⟩,-p.b⟩
theorem Wa9(p:Pln)(x:Pt):rmZ (N8 p) x=-rmZ p x:=by unfold rmZ N8;grind
structure Cn(r:List Pln)(x:Pt):Prop extends Inr r x where
 c:∃p q s,p∈r/\q∈r/\s∈r/\mw p q s≠0/\rmZ p x=0/\rmZ q x=0/\rmZ s x=0
def Bdd(r:List Pln):Prop:=∀d:V3,d≠⟨0,0,0⟩->∃p∈r,0<dot p.n d
def go(x:Pt)(q:Pln)(d:V3):Pt:=⟨x.px*dot q.n d+rmZ q x*d.x,x.py*dot q.n d+rmZ q x*d.y,x.pz*dot q.n d+rmZ q x*d.z,x.pw*dot q.n d⟩
theorem gd2(p q:Pln)(x:Pt)(d:V3):rmZ p (go x q d)=dot q.n d*rmZ p x-rmZ q x*dot p.n d:=by simp only[rmZ,go,dot];grind
theorem Ja8{a b c:Int}(hc:0<c)(h:a*c<=b*c):a<=b:=Int.le_of_mul_le_mul_right h hc
theorem first(x:Pt)(d:V3):∀r:List Pln,(∀p∈r,0<=rmZ p x)->(∃p∈r,0<dot p.n d)->∃q∈r,0<dot q.n d/\∀p∈r,0<dot p.n d->rmZ q x*dot p.n d<=rmZ p x*dot q.n d
 |[],_,h=>by obtain⟨p,hp,_⟩:=h;cases hp
 |a::r,hx,h=>by
  by_cases hr:∃p∈r,0<dot p.n d
  ·obtain⟨q,hq,h1,h2⟩:=first x d r (λp hp=>hx p (Qib _ hp)) hr
   by_cases ha:0<dot a.n d
   ·by_cases hc:rmZ q x*dot a.n d<=rmZ a x*dot q.n d
    ·refine⟨q,Qib _ hq,h1,λp hp h3=>?_⟩
     rcases Qia.1 hp with rfl|hp
     ·exact hc
     ·exact h2 p hp h3
    ·refine⟨a,Qic,ha,λp hp h3=>?_⟩
     rcases Qia.1 hp with rfl|hp
     ·exact Int.le_refl _
     ·have h4:=h2 p hp h3;have h5:rmZ a x*dot q.n d<rmZ q x*dot a.n d:=by omega
      have h6:=Qit h4 (Qie ha);have h7:=Int.mul_lt_mul_of_pos_right h5 h3;have e1:rmZ q x*dot p.n d*dot a.n d=rmZ q x*dot a.n d*dot p.n d:=by grind
      have e2:rmZ a x*dot q.n d*dot p.n d=rmZ a x*dot p.n d*dot q.n d:=by grind
      have e3:rmZ p x*dot q.n d*dot a.n d=rmZ p x*dot a.n d*dot q.n d:=by grind
      refine Ja8 h1 ?_;omega
   ·refine⟨q,Qib _ hq,h1,λp hp h3=>?_⟩
    rcases Qia.1 hp with rfl|hp
    ·exact absurd h3 ha
    ·exact h2 p hp h3
  ·have ha : 0 < dot a.n d := by
    obtain⟨p,hp,h3⟩:=h
    rcases Qia.1 hp with rfl|hp
    ·exact h3
    ·exact absurd ⟨p,hp,h3⟩ hr
   refine⟨a,Qic,ha,λp hp h3=>?_⟩
   rcases Qia.1 hp with rfl|hp
   ·exact Int.le_refl _
   ·exact absurd ⟨p,hp,h3⟩ hr
theorem step{r:List Pln}{x:Pt}(hx:Inr r x)(d:V3)(h:∃p∈r,0<dot p.n d):∃q∈r,0<dot q.n d/\Inr r (go x q d):=by
 obtain⟨q,hq,h1,h2⟩:=first x d r hx.h h;refine⟨q,hq,h1,⟨Qir hx.w h1,λp hp=>?_⟩⟩
 rw[gd2];have h3:=hx.h p hp;have h4:=hx.h q hq;by_cases h5:0<dot p.n d
 ·have:=h2 p hp h5
  have e:rmZ p x*dot q.n d=dot q.n d*rmZ p x:=Int.mul_comm _ _;omega
 ·have h6:=Qih (Qie h1) h3;have h7:rmZ q x*dot p.n d<=0:=Int.mul_nonpos_of_nonneg_of_nonpos h4 (by omega)
  omega
theorem Ud0{h q:Pln}{x:Pt}{d:V3}(h1:0<=rmZ q x)(h2:0<=dot h.n d):rmZ h (go x q d)*x.pw<=rmZ h x*(go x q d).pw\/x.pw<=0:=by
 rcases Int.lt_or_le 0 x.pw with hw|hw
 ·left;rw[gd2]
  have:=Qih h1 h2
  have h3:=Qih this (Qie hw);have e:rmZ h x*(go x q d).pw=dot q.n d*rmZ h x*x.pw:=by unfold go;grind
  have e2:(dot q.n d*rmZ h x-rmZ q x*dot h.n d)*x.pw=dot q.n d*rmZ h x*x.pw-rmZ q x*dot h.n d*x.pw:=by grind
  omega
 ·exact .inr hw
def neg(d:V3):V3:=⟨-d.x,-d.y,-d.z⟩
theorem pc0(a d:V3):dot a (neg d)=-dot a d:=by unfold dot neg;grind
theorem Uc3{d:V3}(h:d≠⟨0,0,0⟩):neg d≠⟨0,0,0⟩:=λh'=>h (by
 cases d;unfold neg at h';simp only[V3.mk.injEq] at h' ⊢;omega)
theorem turn(h:Pln){d:V3}(hd:d≠⟨0,0,0⟩):∃e,e≠(⟨0,0,0⟩:V3)/\0<=dot h.n e/\∀a,dot a d=0->dot a e=0:=by
 by_cases h1:0<=dot h.n d
 ·exact⟨d,hd,h1,λ_ h=>h⟩
 ·exact⟨neg d,Uc3 hd,by rw[pc0];omega,λa h=>by rw[pc0,h];rfl⟩
theorem perp{n:V3}(hn:n≠⟨0,0,0⟩):∃d,d≠(⟨0,0,0⟩:V3)/\dot n d=0:=by
 by_cases h:n.x=0/\n.y=0
 ·exact⟨⟨1,0,0⟩,by simp,by unfold dot;simp[h.1]⟩
 ·refine⟨⟨n.y,-n.x,0⟩,λh'=>h ?_,by unfold dot;grind⟩
  simp only[V3.mk.injEq] at h';omega
theorem V3.ext'{a b:V3}(h1:a.x=b.x)(h2:a.y=b.y)(h3:a.z=b.z):a=b:=by cases a;cases b;simp_all
theorem gd3{m n d:V3}(hm:m≠⟨0,0,0⟩)(h1:dot m d=0)(h2:dot n d≠0):c7 m n≠⟨0,0,0⟩:=λh=>by
 unfold c7 at h;simp only[V3.mk.injEq] at h;obtain⟨c1,c2,c3⟩:=h;unfold dot at h1 h2;have e1:m.x*(n.x*d.x+n.y*d.y+n.z*d.z)=0:=by grind
 have e2:m.y*(n.x*d.x+n.y*d.y+n.z*d.z)=0:=by grind
 have e3:m.z*(n.x*d.x+n.y*d.y+n.z*d.z)=0:=by grind
 have k:∀{a:Int},a*(n.x*d.x+n.y*d.y+n.z*d.z)=0->a=0:=λh=>(Qif.1 h).resolve_right h2
 exact hm (V3.ext' (k e1) (k e2) (k e3))
theorem gc0(a b:V3):dot a (c7 a b)=0:=by unfold dot c7;grind
theorem gc1(a b:V3):dot b (c7 a b)=0:=by unfold dot c7;grind
theorem Ud1{p q:Pln}{x:Pt}{d:V3}(h:rmZ p x=0)(h':dot p.n d=0):rmZ p (go x q d)=0:=by rw[gd2,h,h'];simp
theorem Ud2(q:Pln)(x:Pt)(d:V3):rmZ q (go x q d)=0:=by rw[gd2];grind
theorem Ke3{q:Pln}{d:V3}(h:0<dot q.n d):q.n≠⟨0,0,0⟩:=λh'=>by rw[h'] at h;unfold dot at h;simp at h
theorem se3{a b c u v w:Int}(hu:0<u)(hv:0<v)(hw:0<w)(h1:a*v<=b*u)(h2:b*w<=c*v):a*w<=c*u:=by
 have h3:=Qit h1 (Qie hw);have h4:=Qit h2 (Qie hu);have e1:a*v*w=a*w*v:=by grind
 have e2:b*u*w=b*w*u:=by grind
 have e3:c*v*u=c*u*v:=by grind
 exact Ja8 hv (by omega)
theorem rd4{r:List Pln}(hb:Bdd r)(h:Pln){x:Pt}(hx:Inr r x):∃v,Cn r v/\rmZ h v*x.pw<=rmZ h x*v.pw:=by
 obtain⟨d0,n0,p0,_⟩:=turn h (d:=⟨1,0,0⟩) (by simp)
 obtain⟨q1,m1,k1,i1⟩:=step hx d0 (hb d0 n0);have l1:=(Ud0 (h:=h) (x:=x) (hx.h q1 m1) p0).resolve_right (by have:=hx.w;omega)
 obtain⟨e1,ne1,he1⟩:=perp (Ke3 k1);obtain⟨d1,n1,p1,z1⟩:=turn h ne1;obtain⟨q2,m2,k2,i2⟩:=step i1 d1 (hb d1 n1);have l2:=(Ud0 (h:=h) (x:=go x q1 d0) (i1.h q2 m2) p1).resolve_right (by have:=i1.w;omega)
 have hc:=gd3 (Ke3 k1) (z1 _ he1) (n:=q2.n) (by omega)
 obtain⟨d2,n2,p2,z2⟩:=turn h hc;obtain⟨q3,m3,k3,i3⟩:=step i2 d2 (hb d2 n2);have l3:=(Ud0 (h:=h) (x:=go (go x q1 d0) q2 d1) (i2.h q3 m3) p2).resolve_right (by have:=i2.w;omega)
 have a1:rmZ q1 (go (go x q1 d0) q2 d1)=0:=Ud1 (Ud2 _ _ _) (z1 _ he1);refine⟨_,⟨i3,q3,q1,q2,m3,m1,m2,λh0=>?_,Ud2 _ _ _,Ud1 a1 (z2 _ (gc0 _ _)),Ud1 (Ud2 _ _ _) (z2 _ (gc1 _ _))⟩,?_⟩
 ·have:dot q3.n d2=0:=z2 _ h0
  omega
 ·exact se3 i3.w i2.w hx.w l3 (se3 i2.w i1.w hx.w l2 l1)
theorem da2{r:List Pln}(hb:Bdd r){h:Pln}(hv:∀v,Cn r v->0<=rmZ h v){x:Pt}(hx:Inr r x):0<=rmZ h x:=by
 obtain⟨v,h1,h2⟩:=rd4 hb h hx;have h3:=Qih (hv v h1) (Qie hx.w);exact Ja8 h1.w (by rw[Qiz];omega)
def mid(x y:Pt):Pt:=⟨x.px*y.pw+y.px*x.pw,x.py*y.pw+y.py*x.pw,x.pz*y.pw+y.pz*x.pw,2*(x.pw*y.pw)⟩
theorem Ud3(p:Pln)(x y:Pt):rmZ p (mid x y)=rmZ p x*y.pw+rmZ p y*x.pw:=by unfold rmZ mid;grind
theorem Inr.mid{r:List Pln}{x y:Pt}(hx:Inr r x)(hy:Inr r y):Inr r (mid x y):=⟨by unfold Ce.mid;exact Qir (by decide) (Qir hx.w hy.w),λp hp=>by
 rw[Ud3];exact Int.add_nonneg (Qih (hx.h p hp) (Qie hy.w)) (Qih (hy.h p hp) (Qie hx.w))⟩
def Ud4(r:List Pln):Prop:=∃x:Pt,0<x.pw/\∀p∈r,0<rmZ p x
theorem yd7{r:List Pln}:∀(l:List Pln),(∀p∈l,p∈r)->(∃x,Inr r x)->(∀p∈l,∃v,Inr r v/\0<rmZ p v)->∃x,Inr r x/\∀p∈l,0<rmZ p x
 |[],_,h,_=>by obtain⟨x,h⟩:=h;exact⟨x,h,λp hp=>by cases hp⟩
 |a::l,hl,h,hv=>by
  obtain⟨x,h1,h2⟩:=yd7 l (λp hp=>hl p (Qib _ hp)) h (λp hp=>hv p (Qib _ hp))
  obtain⟨y,h3,h4⟩:=hv a Qic;refine⟨mid x y,h1.mid h3,λp hp=>?_⟩
  rw[Ud3]
  rcases Qia.1 hp with rfl|hp
  ·have:=Qih (h1.h p (hl p Qic)) (Qie h3.w)
   have:=Qir h4 h1.w
   omega
  ·have:=Qir (h2 p hp) h3.w
   have:=Qih (h3.h p (hl p (Qib _ hp))) (Qie h1.w)
   omega
theorem Ud5{r:List Pln}(hb:Bdd r)(h0:r≠[]):Ud4 r↔∀p∈r,∃v,Cn r v/\0<rmZ p v:=by
 constructor
 ·intro ⟨x,hw,hx⟩ p hp;by_cases h:∃v,Cn r v/\0<rmZ p v
  ·exact h
  ·have hx':Inr r x:=⟨hw,λq hq=>Qie (hx q hq)⟩
   have:=da2 hb (h:=N8 p) (λv hv=>by
    rw[Wa9]
    have:¬ 0<rmZ p v:=λh'=>h ⟨v,hv,h'⟩
    omega) hx'
   rw[Wa9] at this
   have:=hx p hp
   omega
 ·intro h;obtain⟨p,hp⟩:=List.exists_mem_of_ne_nil r h0;obtain⟨v,hv,_⟩:=h p hp;obtain⟨x,h1,h2⟩:=yd7 r (λ_ h=>h) ⟨v,hv.toInr⟩ λp hp=>by
   obtain⟨v,hv,h⟩:=h p hp;exact⟨v,hv.toInr,h⟩
  exact⟨x,h1.w,h2⟩
structure Eqv(x v:Pt):Prop where
 e1:x.px*v.pw=v.px*x.pw
 e2:x.py*v.pw=v.py*x.pw
 e3:x.pz*v.pw=v.pz*x.pw
theorem Eqv.rm{x v:Pt}(h:Eqv x v)(p:Pln):rmZ p x*v.pw=rmZ p v*x.pw:=by
 obtain⟨e1,e2,e3⟩:=h;unfold rmZ
 grind
theorem Eqv.inr{r:List Pln}{x v:Pt}(h:Eqv x v)(hw:0<x.pw)(hv:Inr r v):Inr r x:=⟨hw,λp hp=>by
 have:=h.rm p
 have h2:=Qih (hv.h p hp) (Qie hw);exact Ja8 hv.w (by rw[Qiz];omega)⟩
end Go.Ev.Ce
namespace Go.Ev.Ce
open Go Go.Ev Go.Ev.L Go.Proofs
theorem ke5{p:Pln}{x:Pt}(hp:Bd p)(hx:Okx x):rm p x=rmZ p x:=by
 unfold rm rmZ;obtain⟨w1,w2,⟨a1,a2⟩,⟨a3,a4⟩,a5,a6⟩:=hx;have h0:=mb hp.b1 hp.b2 (show -600000000000<=x.pw by omega) w2
 have h1:=mb hp.x1 hp.x2 a1 a2;have h2:=mb hp.y1 hp.y2 a3 a4;have h3:=mb hp.z1 hp.z2 a5 a6;exact I6 (by omega) (by omega)
theorem yd8{r:List Pln}(hb:Bds r){x:Pt}(hx:Okx x):inn r x=true↔Inr r x:=by
 unfold inn;rw[Qio];constructor
 ·intro h;refine⟨hx.w1,λp hp=>?_⟩
  have:=h p hp
  rw[ke5 (hb p hp) hx] at this;simpa using this
 ·intro h p hp;rw[ke5 (hb p hp) hx];simpa using h.h p hp
theorem se4{p q s:Pln}(h:(mpt p q s).2=true):mw p q s≠0/\∃k:Int,k≠0/\k*(mpt p q s).1.px=(mv p q s).x/\k*(mpt p q s).1.py=(mv p q s).y/\k*(mpt p q s).1.pz=(mv p q s).z/\k*(mpt p q s).1.pw=mw p q s:=by
 unfold mpt at h ⊢;by_cases h0:mw p q s=0
 ·rw[if_pos h0] at h;cases h
 refine⟨h0,?_⟩;have hg:=rd0 (v:=mv p q s) h0;have dv:∀{x:Int},(gc (mv p q s) (mw p q s))∣x->gc (mv p q s) (mw p q s)*Int.tdiv x (gc (mv p q s) (mw p q s))=x:=λh=>Qiv h
 have d1:gc (mv p q s) (mw p q s)∣(mv p q s).x:=by
  rw[<- Qiu];exact Qim.2 (Qin (Qil _ _) (Qil _ _))
 have d2:gc (mv p q s) (mw p q s)∣(mv p q s).y:=by
  rw[<- Qiu];exact Qim.2 (Qin (Qil _ _) (Qij _ _))
 have d3:gc (mv p q s) (mw p q s)∣(mv p q s).z:=by
  rw[<- Qiu];exact Qim.2 (Qin (Qij _ _) (Qil _ _))
 have d4:gc (mv p q s) (mw p q s)∣mw p q s:=by
  rw[<- Qiu];exact Qim.2 (Qin (Qij _ _) (Qij _ _))
 rw[if_neg h0];by_cases h1:mw p q s<0
 ·rw[if_pos h1];have e:∀{x:Int},(gc (mv p q s) (mw p q s))∣x->-(gc (mv p q s) (mw p q s))*Int.tdiv (-x) (gc (mv p q s) (mw p q s))=x:=λ{x} h=>by
   rw[Int.neg_mul,dv ((Int.dvd_neg).2 h),Int.neg_neg]
  exact⟨-(gc (mv p q s) (mw p q s)),by omega,e d1,e d2,e d3,e d4⟩
 ·rw[if_neg h1];exact⟨gc (mv p q s) (mw p q s),by omega,dv d1,dv d2,dv d3,dv d4⟩
theorem Ud6{p q s:Pln}(h:(mpt p q s).2=true):rmZ p (mpt p q s).1=0/\rmZ q (mpt p q s).1=0/\rmZ s (mpt p q s).1=0:=by
 obtain⟨_,k,hk,e1,e2,e3,e4⟩:=se4 h;generalize (mpt p q s).1=x at *
 have f:∀a:Pln,a.b*mw p q s-(a.n.x*(mv p q s).x+a.n.y*(mv p q s).y+a.n.z*(mv p q s).z)=0->rmZ a x=0:=λa ha=>by
  rw[<- e1,<- e2,<- e3,<- e4] at ha
  have:k*rmZ a x=0:=by rw[<- ha];unfold rmZ;grind
  exact (Qif.1 this).resolve_left hk
 refine⟨f p ?_,f q ?_,f s ?_⟩<;>(simp only[mw,mv,dot,c7];grind)
theorem ke6{p q s:Pln}(h:mw p q s≠0):(mpt p q s).2=true:=by
 unfold mpt;rw[if_neg h]
 split<;>rfl
theorem Ud7{p q s:Pln}{x:Pt}(h1:rmZ p x=0)(h2:rmZ q x=0)(h3:rmZ s x=0):mw p q s*x.px=(mv p q s).x*x.pw/\mw p q s*x.py=(mv p q s).y*x.pw/\mw p q s*x.pz=(mv p q s).z*x.pw:=by
 have i1:(mv p q s).x*x.pw-mw p q s*x.px=(c7 q.n s.n).x*rmZ p x+(c7 s.n p.n).x*rmZ q x+(c7 p.n q.n).x*rmZ s x:=by simp only[mw,mv,dot,c7,rmZ];grind
 have i2:(mv p q s).y*x.pw-mw p q s*x.py=(c7 q.n s.n).y*rmZ p x+(c7 s.n p.n).y*rmZ q x+(c7 p.n q.n).y*rmZ s x:=by simp only[mw,mv,dot,c7,rmZ];grind
 have i3:(mv p q s).z*x.pw-mw p q s*x.pz=(c7 q.n s.n).z*rmZ p x+(c7 s.n p.n).z*rmZ q x+(c7 p.n q.n).z*rmZ s x:=by simp only[mw,mv,dot,c7,rmZ];grind
 rw[h1,h2,h3] at i1 i2 i3;simp only[Qiak,Int.add_zero] at i1 i2 i3;omega
theorem Ae1{p q s:Pln}{x v:Pt}(h:mw p q s≠0)(h1:rmZ p x=0)(h2:rmZ q x=0)(h3:rmZ s x=0)(k1:rmZ p v=0)(k2:rmZ q v=0)(k3:rmZ s v=0):Eqv x v:=by
 obtain⟨a1,a2,a3⟩:=Ud7 h1 h2 h3;obtain⟨c1,c2,c3⟩:=Ud7 k1 k2 k3;have f:∀{a c m:Int},mw p q s*a=m*x.pw->mw p q s*c=m*v.pw->a*v.pw=c*x.pw:=λ{a c m} ha hc=>by
  have:mw p q s*(a*v.pw-c*x.pw)=0:=by grind
  have:=(Qif.1 this).resolve_left h
  omega
 exact⟨f a1 c1,f a2 c2,f a3 c3⟩
theorem Id6{r:List Pln}{p q:Pln}{out:List Pt}{s:Pln}{x:Pt}(h:x∈out):x∈Rb9 r p q out s:=by
 unfold Rb9;split
 ·exact Qiac _ h
 ·exact h
theorem yc9{r:List Pln}{p q:Pln}{x:Pt}:∀{l:List Pln} {out:List Pt},x∈out->x∈Id0 r p q l out
 |[],_,h=>h
 |s::l,out,h=>yc9 (l:=l) (out:=Rb9 r p q out s) (Id6 h)
theorem Sb7{r:List Pln}{p:Pln}{x:Pt}:∀{l:List Pln} {out:List Pt},x∈out->x∈fd5 r p l out
 |[],_,h=>h
 |_::l,_,h=>Sb7 (l:=l) (yc9 h)
theorem gd4{r:List Pln}{x:Pt}:∀{l:List Pln} {out:List Pt},x∈out->x∈rd2 r l out
 |[],_,h=>h
 |_::l,_,h=>gd4 (l:=l) (Sb7 h)
theorem Id7{r:List Pln}{p q:Pln}{out:List Pt}{s:Pln}(h1:(mpt p q s).2=true)(h2:inn r (mpt p q s).1=true):(mpt p q s).1∈Rb9 r p q out s:=by
 unfold Rb9;rw[h1,h2];cases h:je6 out (mpt p q s).1 with
 |true=>simpa using (Sd7 _ _).1 h
 |false=>simp
theorem zc0{r:List Pln}{p q s:Pln}(h1:(mpt p q s).2=true)(h2:inn r (mpt p q s).1=true):∀{l:List Pln} {out:List Pt},s∈l->(mpt p q s).1∈Id0 r p q l out
 |[],_,h=>by cases h
 |t::l,out,h=>by
  show _∈Id0 r p q l (Rb9 r p q out t)
  rcases Qia.1 h with rfl|h
  ·exact yc9 (Id7 h1 h2)
  ·exact zc0 h1 h2 h
structure Hit(r:List Pln)(Q:Pt->Prop)(p q s:Pln):Prop where
 h1:(mpt p q s).2=true
 h2:inn r (mpt p q s).1=true
 h3:Q (mpt p q s).1
theorem gd5{r:List Pln}{Q:Pt->Prop}{p q s:Pln}(hq:Hit r Q p q s)(hs:Hit r Q p s q)(hne:q≠s):∀{l:List Pln} {out:List Pt},q∈l->s∈l->∃x∈fd5 r p l out,Q x
 |[],_,h,_=>by cases h
 |t::l,out,hql,hsl=>by
  show ∃x∈fd5 r p l (Id0 r p t l out),Q x
  rcases Qia.1 hql with rfl|h1
  ·have h2:=(Qia.1 hsl).resolve_left λh=>hne h.symm
   exact⟨_,Sb7 (zc0 hq.h1 hq.h2 h2),hq.h3⟩
  ·rcases Qia.1 hsl with rfl|h2
   ·exact⟨_,Sb7 (zc0 hs.h1 hs.h2 h1),hs.h3⟩
   ·exact gd5 hq hs hne (l:=l) h1 h2
theorem gd6 {r : List Pln} {Q : Pt → Prop} {p q s : Pln} (H : ∀ a c d, (a = p ∨ a = q ∨ a = s) → (c = p ∨ c = q ∨ c = s) → (d = p ∨ d = q ∨ d = s) → a ≠ c → c ≠ d → a ≠ d → Hit r Q a c d) (h1 : p ≠ q) (h2 : q ≠ s) (h3 : p ≠ s) :
  ∀{l:List Pln} {out:List Pt},p∈l->q∈l->s∈l->∃x∈rd2 r l out,Q x
 |[],_,h,_,_=>by cases h
 |t::l,out,hp,hq,hs=>by
  have fin:∀{a c d:Pln} {out:List Pt},(a=p\/a=q\/a=s)->(c=p\/c=q\/c=s)->(d=p\/d=q\/d=s)->a≠c->c≠d->a≠d->c∈l->d∈l->∃x∈rd2 r l (fd5 r a l out),Q x:=λha hc hd n1 n2 n3 m1 m2=>by
   obtain⟨x,hx,hQ⟩:=gd5 (H _ _ _ ha hc hd n1 n2 n3) (H _ _ _ ha hd hc n3 n2.symm n1) n2 (out:=_) m1 m2;exact⟨x,gd4 hx,hQ⟩
  show ∃x∈rd2 r l (fd5 r t l out),Q x
  rcases Qia.1 hp with rfl|hp'
  ·exact fin (.inl rfl) (.inr (.inl rfl)) (.inr (.inr rfl)) h1 h2 h3 ((Qia.1 hq).resolve_left (Ne.symm h1)) ((Qia.1 hs).resolve_left (Ne.symm h3))
  ·rcases Qia.1 hq with rfl|hq'
   ·exact fin (.inr (.inl rfl)) (.inl rfl) (.inr (.inr rfl)) (Ne.symm h1) h3 h2 hp' ((Qia.1 hs).resolve_left (Ne.symm h2))
   ·rcases Qia.1 hs with rfl|hs'
    ·exact fin (.inr (.inr rfl)) (.inl rfl) (.inr (.inl rfl)) (Ne.symm h3) h1 (Ne.symm h2) hp' hq'
    ·exact gd6 H h1 h2 h3 hp' hq' hs'
theorem Ke4{p q s:Pln}(h:mw p q s≠0):p≠q/\q≠s/\p≠s:=by
 refine⟨λe=>h ?_,λe=>h ?_,λe=>h ?_⟩<;>(subst e;simp only[mw,dot,c7];grind)
theorem Ae2{r:List Pln}(hb:Bds r):∀x∈cor r,Cn r x:=yd3 λp hp q hq s hs h hi=>by
 obtain⟨w1,w2,w3,w4,w5⟩:=rd1 (hb p hp) (hb q hq) (hb s hs) h;obtain⟨e1,e2,e3⟩:=Ud6 h;exact⟨(yd8 hb ⟨w1,w5,w2,w3,w4⟩).1 hi,p,q,s,hp,hq,hs,(se4 h).1,e1,e2,e3⟩
theorem Ae3{r:List Pln}(hb:Bds r){v:Pt}(hv:Cn r v):∃x∈cor r,Eqv x v:=by
 obtain⟨p,q,s,hp,hq,hs,hw,e1,e2,e3⟩:=hv.c;obtain⟨n1,n2,n3⟩:=Ke4 hw;refine gd6 (λa c d ha hc hd m1 m2 m3=>?_) n1 n2 n3 hp hq hs
 have hm:∀{a},(a=p\/a=q\/a=s)->a∈r/\rmZ a v=0:=λh=>by
  rcases h with rfl|rfl|rfl
  ·exact⟨hp,e1⟩
  ·exact⟨hq,e2⟩
  ·exact⟨hs,e3⟩
 have hw':mw a c d≠0:=by
  have k:mw a c d=mw p q s\/mw a c d=-mw p q s:=by
   rcases ha with rfl|rfl|rfl<;>rcases hc with rfl|rfl|rfl<;>rcases hd with rfl|rfl|rfl<;>first|exact absurd rfl m1|exact absurd rfl m2|exact absurd rfl m3|exact .inl rfl|(left;simp only[mw,dot,c7];grind;done)|(right;simp only[mw,dot,c7];grind;done)
  rcases k with k|k<;>omega
 have h:=ke6 hw';obtain⟨w1,w2,w3,w4,w5⟩:=rd1 (hb a (hm ha).1) (hb c (hm hc).1) (hb d (hm hd).1) h;obtain⟨f1,f2,f3⟩:=Ud6 h;have he:=Ae1 hw' f1 f2 f3 (hm ha).2 (hm hc).2 (hm hd).2;exact⟨h,(yd8 hb ⟨w1,w5,w2,w3,w4⟩).2 (he.inr w1 hv.toInr),he⟩
theorem rd5(c:List Pln):Bdd (c++ws):=λd hd=>by
 have k:∀{n:V3} {m:Int},(⟨n,m⟩:Pln)∈ws->0<dot n d->∃p∈c++ws,0<dot p.n d:=λh h'=>⟨_,List.mem_append_right _ h,h'⟩
 by_cases h1:0<d.x
 ·exact k (n:=⟨1,0,0⟩) (m:=24) (by simp[ws]) (by unfold dot;simp;omega)
 by_cases h2:d.x<0
 ·exact k (n:=⟨-1,0,0⟩) (m:=24) (by simp[ws]) (by unfold dot;simp;omega)
 by_cases h3:0<d.y
 ·exact k (n:=⟨0,1,0⟩) (m:=24) (by simp[ws]) (by unfold dot;simp;omega)
 by_cases h4:d.y<0
 ·exact k (n:=⟨0,-1,0⟩) (m:=24) (by simp[ws]) (by unfold dot;simp;omega)
 by_cases h5:0<d.z
 ·exact k (n:=⟨0,0,1⟩) (m:=24) (by simp[ws]) (by unfold dot;simp;omega)
 by_cases h6:d.z<0
 ·exact k (n:=⟨0,0,-1⟩) (m:=24) (by simp[ws]) (by unfold dot;simp;omega)
 exact absurd (V3.ext' (by show d.x=0;omega) (by show d.y=0;omega) (by show d.z=0;omega)) hd
theorem yd9{r:List Pln}(hb:Bds r){p:Pln}(hp:Bd p):pos (cor r) p=true↔∃v,Cn r v/\0<rmZ p v:=by
 unfold pos;rw[Qik];constructor
 ·rintro⟨x,hx,h⟩;rw[ke5 hp (Tc8 hb x hx)] at h;exact⟨x,Ae2 hb x hx,by simpa using h⟩
 ·rintro⟨v,hv,h⟩;obtain⟨x,hx,he⟩:=Ae3 hb hv;refine⟨x,hx,?_⟩;rw[ke5 hp (Tc8 hb x hx)];have h1:=he.rm p;have h2:=Qir h (Tc8 hb x hx).w1
  have:0<rmZ p x:=Int.lt_of_mul_lt_mul_right (by rw[Qiz];omega:0*v.pw<rmZ p x*v.pw) (Qie hv.w)
  simpa using this
theorem Id8{r:List Pln}(hb:Bds r)(hd:Bdd r)(h0:r≠[]):je9 r=true↔Ud4 r:=by
 rw[Ud5 hd h0];unfold je9;rw[Qio];exact⟨λh p hp=>(yd9 hb (hb p hp)).1 (h p hp),λh p hp=>(yd9 hb (hb p hp)).2 (h p hp)⟩
end Go.Ev.Ce
namespace Go.Ev.Ce
def dv(z v:Pt):V3:=⟨v.px*z.pw-z.px*v.pw,v.py*z.pw-z.py*v.pw,v.pz*z.pw-z.pz*v.pw⟩
def thr(n:V3)(z:Pt):Pln:=⟨⟨z.pw*n.x,z.pw*n.y,z.pw*n.z⟩,n.x*z.px+n.y*z.py+n.z*z.pz⟩
theorem Ud8(n:V3)(z x:Pt):rmZ (thr n z) x=-dot n (dv z x):=by simp only[rmZ,thr,dot,dv];grind
theorem Ud9{p:Pln}{z v:Pt}(hz:rmZ p z≠0)(hv:rmZ p v=0)(hw:0<v.pw):dv z v≠⟨0,0,0⟩:=λh=>by
 unfold dv at h;simp only[V3.mk.injEq] at h;obtain⟨e1,e2,e3⟩:=h
 have:rmZ p z*v.pw=rmZ p v*z.pw:=by unfold rmZ;grind
 rw[hv,Qiz] at this;exact (Qif.1 this).elim hz (by omega)
theorem Ae4{p:Pln}{z:Pt}(hz:rmZ p z≠0):∀l:List Pt,l.length<=2->(∀v∈l,rmZ p v=0/\0<v.pw)->∃n,n≠(⟨0,0,0⟩:V3)/\∀v∈l,dot n (dv z v)=0
 |[],_,_=>⟨⟨1,0,0⟩,by simp,λv h=>by cases h⟩
 |[v],_,h=>by
  obtain⟨h1,h2⟩:=h v (by simp)
  obtain⟨d,hd,he⟩:=perp (Ud9 hz h1 h2);exact⟨d,hd,λu hu=>by rw[List.mem_singleton.1 hu,<- he];unfold dot;grind⟩
 |[v,u],_,h=>by
  obtain⟨h1,h2⟩:=h v (by simp)
  by_cases hc:c7 (dv z v) (dv z u)=⟨0,0,0⟩
  ·obtain⟨d,hd,he⟩:=perp (Ud9 hz h1 h2);have hu:dot (dv z u) d=0:=by
    by_cases h0:dot (dv z u) d=0
    ·exact h0
    ·exact absurd hc (gd3 (Ud9 hz h1 h2) he h0)
   refine⟨d,hd,λx hx=>?_⟩
   simp only[Qia,Qiab,or_false] at hx
   rcases hx with rfl|rfl
   ·rw[<- he];unfold dot;grind
   ·rw[<- hu];unfold dot;grind
  ·refine⟨_,hc,λx hx=>?_⟩
   simp only[Qia,Qiab,or_false] at hx
   rcases hx with rfl|rfl
   ·rw[<- gc0 (dv z x) (dv z u)];unfold dot;grind
   ·rw[<- gc1 (dv z v) (dv z x)];unfold dot;grind
 |_::_::_::_,h,_=>by simp at h
def Ae5(p:Pln)(z v:Pt):Pt:=⟨rmZ p v*z.px-rmZ p z*v.px,rmZ p v*z.py-rmZ p z*v.py,rmZ p v*z.pz-rmZ p z*v.pz,rmZ p v*z.pw-rmZ p z*v.pw⟩
theorem Uc4(p q:Pln)(z v:Pt):rmZ q (Ae5 p z v)=rmZ p v*rmZ q z-rmZ p z*rmZ q v:=by
 generalize ha:rmZ p v=a;generalize hb:rmZ p z=c;simp only[rmZ,Ae5] at *
 rw[ha,hb]
 grind
theorem Vd0{r:List Pln}(hb:Bdd r)(hB:Ud4 r){h:Pln}(hn:h.n≠⟨0,0,0⟩):¬ ∀x,Inr r x->rmZ h x=0:=λH=>by
 obtain⟨x,hw,hx⟩:=hB;have hi:Inr r x:=⟨hw,λp hp=>Qie (hx p hp)⟩
 obtain⟨q,hq,h1,h2⟩:=step hi h.n (hb h.n hn);have h3:=H _ h2;rw[gd2,H _ hi] at h3;have h4:=hx q hq;have h5:0<dot h.n h.n:=by
  have k:∀a:Int,a≠0->0<a*a:=λa ha=>by
   rcases Int.lt_or_gt_of_ne ha with h|h
   ·exact Int.mul_pos_of_neg_of_neg h h
   ·exact Qir h h
  have k0:∀a:Int,0<=a*a:=λa=>by
   by_cases h:a=0
   ·subst h;decide
   ·exact Qie (k a h)
  have a1:=k0 h.n.x;have a2:=k0 h.n.y;have a3:=k0 h.n.z;unfold dot;by_cases c1:h.n.x=0
  ·by_cases c2:h.n.y=0
   ·have:=k h.n.z (λc3=>hn (V3.ext' c1 c2 c3));omega
   ·have:=k _ c2;omega
  ·have:=k _ c1;omega
 have:=Qir h4 h5
 omega
theorem Ke5 {r r' : List Pln} {p : Pln} (hb : Bdd r) (hB : Ud4 r) (hp : p ∈ r) (hr : ∀ q ∈ r, q ∈ r' ∨ q = p)
  (l:List Pt) (hl:l.length<=2) (hl0:∀v∈l,rmZ p v=0/\0<v.pw) (hc:∀v,Cn r v->rmZ p v=0->∃x∈l,Eqv x v) {z:Pt} (hz:Inr r' z):Inr r z:=by
 by_cases h0:0<=rmZ p z
 ·exact⟨hz.w,λq hq=>(hr q hq).elim (hz.h q) λe=>e ▸ h0⟩
 exfalso;have hneg:rmZ p z<0:=by omega
 obtain⟨n,hn,hv⟩:=Ae4 (p:=p) (z:=z) (by omega) l hl hl0
 have hn':(thr n z).n≠⟨0,0,0⟩:=λe=>hn (by
  unfold thr at e;simp only[V3.mk.injEq] at e;have k:∀{a:Int},z.pw*a=0->a=0:=λh=>(Qif.1 h).resolve_left (by have:=hz.w;omega)
  exact V3.ext' (k e.1) (k e.2.1) (k e.2.2))
 -- the face lies in that plane
 have hface:∀u,Inr r u->rmZ p u=0->rmZ (thr n z) u=0:=λu hu hu0=>by
  have hbd:Bdd (N8 p::r):=λd hd=>by
   obtain⟨q,hq,h⟩:=hb d hd;exact⟨q,Qib _ hq,h⟩
  have hiu:Inr (N8 p::r) u:=⟨hu.w,λq hq=>by
   rcases Qia.1 hq with rfl|hq
   ·rw[Wa9,hu0];decide
   ·exact hu.h q hq⟩
  have hvx:∀v,Cn (N8 p::r) v->rmZ (thr n z) v=0:=λv hcv=>by
   have hir:Inr r v:=⟨hcv.w,λq hq=>hcv.h q (Qib _ hq)⟩
   have hp0:rmZ p v=0:=by
    have h1:=hcv.h (N8 p) Qic;rw[Wa9] at h1;have h2:=hir.h p hp;omega
   obtain⟨a,c,d,ha,hc',hd,hw,e1,e2,e3⟩:=hcv.c
   -- a plane that is turned round gives the same rd4
   have fl:∀{a c d:Pln},mw (N8 a) c d=-mw a c d/\mw c (N8 a) d=-mw c a d/\mw c d (N8 a)=-mw c d a:=λ{a c d}=>by
    refine⟨?_,?_,?_⟩<;>(simp only[mw,dot,c7,N8];grind)
   have hr0:∀{a:Pln},rmZ (N8 a) v=0->rmZ a v=0:=λh=>by rw[Wa9] at h;omega
   have hcn:Cn r v:=by
    refine⟨hir,?_⟩
    rcases Qia.1 ha with rfl|ha<;>rcases Qia.1 hc' with rfl|hc'<;>rcases Qia.1 hd with rfl|hd
    ·exact absurd (by simp only[mw,dot,c7];grind) hw
    ·exact absurd (by simp only[mw,dot,c7];grind) hw
    ·exact absurd (by simp only[mw,dot,c7];grind) hw
    ·exact⟨p,c,d,hp,hc',hd,by have:=(fl (a:=p) (c:=c) (d:=d)).1;omega,hp0,e2,e3⟩
    ·exact absurd (by simp only[mw,dot,c7];grind) hw
    ·exact⟨a,p,d,ha,hp,hd,by have:=(fl (a:=p) (c:=a) (d:=d)).2.1;omega,e1,hp0,e3⟩
    ·exact⟨a,c,p,ha,hc',hp,by have:=(fl (a:=p) (c:=a) (d:=c)).2.2;omega,e1,e2,hp0⟩
    ·exact⟨a,c,d,ha,hc',hd,hw,e1,e2,e3⟩
   obtain⟨x,hx,he⟩:=hc v hcn hp0;have h1:=he.rm (thr n z);rw[Ud8 n z x,hv x hx] at h1;have h1:rmZ (thr n z) v*x.pw=0:=by omega
   exact (Qif.1 h1).resolve_right (by have:=(hl0 x hx).2;omega)
  have a1:=da2 hbd (h:=thr n z) (λv hv=>by rw[hvx v hv];decide) hiu
  have a2:=da2 hbd (h:=N8 (thr n z)) (λv hv=>by rw[Wa9,hvx v hv];decide) hiu
  rw[Wa9] at a2;omega
 -- so do all vertices
 have hall:∀v,Inr r v->rmZ (thr n z) v=0:=λv hi=>by
  by_cases hv0:rmZ p v=0
  ·exact hface v hi hv0
  have hvp:0<rmZ p v:=by have:=hi.h p hp;omega
  have hu:Inr r (Ae5 p z v):=by
   have w1:=Qir hvp hz.w;have w2:rmZ p z*v.pw<0:=Int.mul_neg_of_neg_of_pos hneg hi.w;refine⟨by show 0<rmZ p v*z.pw-rmZ p z*v.pw;omega,λq hq=>?_⟩
   rw[Uc4]
   rcases hr q hq with h|rfl
   ·have b1:=Qih (Qie hvp) (hz.h q h);have b2:rmZ p z*rmZ q v<=0:=Int.mul_nonpos_of_nonpos_of_nonneg (Qie hneg) (hi.h q hq);omega
   ·have:=Int.mul_comm (rmZ q v) (rmZ q z);omega
  have h1:=hface _ hu (by rw[Uc4];have:=Int.mul_comm (rmZ p v) (rmZ p z);omega)
  rw[Uc4] at h1;have h2:rmZ (thr n z) z=0:=by rw[Ud8];simp only[dot,dv];grind
  rw[h2] at h1;have h1:rmZ p z*rmZ (thr n z) v=0:=by omega
  exact (Qif.1 h1).resolve_left (by omega)
 exact Vd0 hb hB hn' hall
end Go.Ev.Ce
namespace Go.Ev.Ce
open Go Go.Ev Go.Ev.L Go.Proofs
def phP(out:List Pln):Nat:=match out with
 |[]=>0
 |_::_=>1
def O6(p:Pln)(v:V3):Int:=if okp p&&inV v then (if dot p.n v-p.b<0 then -1 else if dot p.n v-p.b>0 then 1 else 0) else 0
theorem Vd1{p:Pln}{v:V3}(hp:Bd p)(hv:inV v=true):Sm 331776 (dot p.n v):=by
 obtain⟨⟨a1,a2⟩,⟨a3,a4⟩,a5,a6⟩:=(ja6 v).1 hv;have r1:=mb hp.x1 hp.x2 a1 a2;have r2:=mb hp.y1 hp.y2 a3 a4;have r3:=mb hp.z1 hp.z2 a5 a6;unfold Sm dot;omega
theorem ke7(p:Pln)(v:V3):ya7 p v=some (i (O6 p v),[]):=by
 unfold ya7 O6;simp only[Td0,fd4,se1,Td3];cases hp:okp p with
 |false=>rfl
 |true =>
  cases hv:inV v with
  |false=>rfl
  |true =>
   have hb:=Jb9 hp;have hd:=Vd1 hb hv;have e:Ga3 p.n v=dot p.n v:=by
    unfold Ga3;simp only[Jb5,Zb2];exact qb0 (hd.mono (by omega))
   have e2:W (dot p.n v-p.b)=dot p.n v-p.b:=I6 (by have:=hd.1;have:=hb.b2;omega) (by have:=hd.2;have:=hb.b1;omega)
   rw[e,e2];by_cases h1:dot p.n v-p.b<0
   ·simp only[Qip,if_true,h1,decide_true];rfl
   ·by_cases h2:dot p.n v-p.b>0
    ·simp only[Qip,if_true,h1,h2,decide_true,decide_false,if_false];rfl
    ·simp only[Qip,if_true,h1,h2,decide_false,if_false];rfl
theorem Ae6(p:Pln)(v:V3):lb7 p v=O6 p v:=by unfold lb7;rw[ke7];rfl
theorem zc1{p:Pln}{v:V3}(hp:okp p=true)(hv:inV v=true):O6 p v>0↔dot p.n v>p.b:=by
 unfold O6;rw[hp,hv];simp only[Qip,if_true];split
 ·omega
 ·split<;>omega
theorem ib2{p:Pln}{v:V3}(hp:okp p=true)(hv:inV v=true):O6 p v=0↔dot p.n v=p.b:=by
 unfold O6;rw[hp,hv];simp only[Qip,if_true];split
 ·omega
 ·split<;>omega
theorem Ae7(v:V3):g3 v∣v.x/\g3 v∣v.y/\g3 v∣v.z:=by
 unfold g3;refine⟨?_,?_,?_⟩<;>rw[<- Qiu]<;>apply Qim.2
 ·exact Qin (Qil _ _) (Qil _ _)
 ·exact Qin (Qil _ _) (Qij _ _)
 ·exact Qij _ _
theorem Ae8(v:V3)(h:g3 v≠0):g3 ⟨Int.tdiv v.x (g3 v),Int.tdiv v.y (g3 v),Int.tdiv v.z (g3 v)⟩=1:=by
 generalize hg:g3 v=g at *
 have h0:0<=g:=hg ▸ Ab0 v;obtain⟨n,rfl⟩:∃n:Nat,g=n:=⟨g.toNat,by omega⟩
 have hn:0<n:=by omega
 have hgn:Nat.gcd (Nat.gcd v.x.natAbs v.y.natAbs) v.z.natAbs=n:=by unfold g3 at hg;omega
 have d1:n∣Nat.gcd v.x.natAbs v.y.natAbs:=hgn ▸ Qil _ _;have d3:n∣v.z.natAbs:=hgn ▸ Qij _ _;have d4:n∣v.x.natAbs:=Qin d1 (Qil _ _);have d5:n∣v.y.natAbs:=Qin d1 (Qij _ _);unfold g3;simp only[Int.natAbs_tdiv,Int.natAbs_natCast];show ((Nat.gcd (Nat.gcd (v.x.natAbs / n) (v.y.natAbs / n)) (v.z.natAbs / n):Nat):Int)=1;rw[Nat.gcd_div d4 d5,Nat.gcd_div d1 d3,hgn,Nat.div_self hn];rfl
structure Thr(a b c:V3)(p:Pln):Prop where
 ok:okp p=true
 k:∃g:Int,0<g/\g*p.n.x=(c7 (sub b a) (sub c a)).x/\g*p.n.y=(c7 (sub b a) (sub c a)).y/\g*p.n.z=(c7 (sub b a) (sub c a)).z
 o:p.b=dot p.n a
theorem ba6{a b c:V3}(h:(B9 a b c).2=true):(inV a=true/\inV b=true/\inV c=true)/\Thr a b c (B9 a b c).1:=by
 unfold B9 at h ⊢;cases ha:inV a with
 |false=>rw[ha] at h;cases h
 |true =>
  cases hb:inV b with
  |false=>rw[ha,hb] at h;cases h
  |true =>
   cases hc:inV c with
   |false=>rw[ha,hb,hc] at h;cases h
   |true =>
    rw[ha,hb,hc] at h;simp only[Qip,if_true] at h ⊢;obtain⟨_,k1,k2,k3⟩:=eb0 ha hb hc;generalize hn:c7 (sub b a) (sub c a)=n at *
    by_cases h0:g3 n=0
    ·rw[if_pos h0] at h;cases h
    ·rw[if_neg h0];have hp:=Ab0 n;obtain⟨d1,d2,d3⟩:=Ae7 n;have q1:=ea3 (g:=g3 n) k1 (by omega)
     have q2:=ea3 (g:=g3 n) k2 (by omega)
     have q3:=ea3 (g:=g3 n) k3 (by omega)
     refine⟨⟨trivial,trivial,trivial⟩,⟨?_,⟨g3 n,by omega,by rw[hn];exact Qiv d1,by rw[hn];exact Qiv d2,by rw[hn];exact Qiv d3⟩,rfl⟩⟩
     obtain⟨⟨a1,a2⟩,⟨a3,a4⟩,a5,a6⟩:=(ja6 a).1 ha;have r1:=mb q1.1 q1.2 a1 a2;have r2:=mb q2.1 q2.2 a3 a4;have r3:=mb q3.1 q3.2 a5 a6;unfold okp;rw[Ae8 n h0];simp only[List.all_cons,List.all_nil,Qig,Qid,mb3,beq_self_eq_true,true_and,and_true];refine⟨⟨q1,q2,q3⟩,?_⟩;unfold Sm dot
     simp only
     omega
theorem ke8(a b c:V3):Bd (B9 a b c).1:=by
 cases h:(B9 a b c).2 with
 |true=>exact Jb9 (ba6 h).2.ok
 |false =>
  have:(B9 a b c).1=⟨⟨0,0,0⟩,0⟩:=by
   unfold B9 at h ⊢;split
   ·rename_i hc;rw[if_pos hc] at h;split
    ·rfl
    ·rename_i h0;rw[if_neg h0] at h;cases h
   ·rfl
  rw[this]
  constructor<;>simp
theorem wb6{p:Pln}(h:okp p=true):okp (N8 p)=true:=by
 unfold okp N8 g3 at *
 simp only[List.all_cons,List.all_nil,Qig,Qid,mb3,Int.natAbs_neg] at h ⊢;obtain⟨⟨h1,h2,h3⟩,h4,h5⟩:=h;exact⟨⟨h1.neg,h2.neg,h3.neg⟩,h4,h5.neg⟩
noncomputable def Id9(l:List V3)(p:Pln):Bool:=l.any λv=>O6 p v != 0
noncomputable def nf(l:List V3)(a c k:Nat):Bool:=(B9 (gL tV l a) (gL tV l c) (gL tV l k)).2&&Id9 l (B9 (gL tV l a) (gL tV l c) (gL tV l k)).1
noncomputable def nf2(l:List V3)(a c:Nat):Bool:=(List.range c).any (nf l a c)
noncomputable def nf1(l:List V3)(a:Nat):Bool:=(List.range a).any (nf2 l a)
noncomputable def nf0(l:List V3):Bool:=(List.range l.length).any (nf1 l)
theorem zc2 {σ : Type} {step : σ → Stp σ} {mk : Nat → σ} (n : Nat) (c : Nat → Bool) (u fin : Nat) (hn : n ≤ 1000000000) (h : ∀ j, j < n → step (mk j) = sl (c j) (.exit u) (.next (mk (j + 1)))) (hf : step (mk n) = .exit fin) :
  ∃j,lp step (mk 0)=(if (List.range n).any c then u else fin,mk j):=by
 have key:=P6 (step:=step) (mk:=λj (_:Unit)=>mk j) n (λj _=>j<=n/\∀i,i<j->c i=false) (λt s=>t=(if (List.range n).any c then u else fin)/\∃j,s=mk j) hn
  (λj _ hj hi=>by
   rw[h j hj];refine Nx.sl (λhc=>.ex ⟨?_,j,rfl⟩) (λhc=>.nx ⟨(),rfl,by omega,λi hi'=>?_⟩)
   ·rw[if_pos (Qik.2 ⟨j,Qian.2 hj,hc⟩)]
   ·by_cases e:i=j
    ·rw[e];exact hc
    ·exact hi.2 i (by omega))
  (λj _ hj hi=>by
   have e:j=n:=by omega
   subst e;refine⟨fin,hf,?_,j,rfl⟩;rw[if_neg λhh=>?_]
   obtain⟨i,hi1,hi2⟩:=Qik.1 hh;rw[hi.2 i (Qian.1 hi1)] at hi2;cases hi2) 0 () ⟨by omega,by omega⟩
 obtain⟨t,s,h1,rfl,j,rfl⟩:=key;exact⟨j,h1⟩
theorem Vd2(l:List V3)(x1 x2 x3:Int)(okb:Bool)(p:Pln)(hl:l.length<=1000000000):∃t s,lp (y6 ⟨l,x1,x2,x3,okb,p.n.x,p.n.y,p.n.z,p.b⟩) ⟨0⟩=(t,s)/\(((okb&&Id9 l p)=true/\t=1)\/((okb&&Id9 l p)=false/\(t=2\/t=3))):=by
 cases okb with
 |false =>
  cases l with
  |nil =>
   refine⟨3,⟨0⟩,?_,.inr ⟨rfl,.inr rfl⟩⟩;exact yd6 (step:=y6 ⟨[],x1,x2,x3,false,p.n.x,p.n.y,p.n.z,p.b⟩) rfl
  |cons v l =>
   refine⟨2,⟨0⟩,?_,.inr ⟨rfl,.inl rfl⟩⟩;refine yd6 (step:=y6 ⟨v::l,x1,x2,x3,false,p.n.x,p.n.y,p.n.z,p.b⟩) ?_;simp only[y6,T1];rw[btD (by simp only[List.length_cons];omega)]
   rfl
 |true =>
  have h:=Tc5 (step:=y6 ⟨l,x1,x2,x3,true,p.n.x,p.n.y,p.n.z,p.b⟩) (mk:=λj=>(⟨(j:Int)⟩:X4)) (c:=λv=>O6 p v != 0) (u:=1) (fin:=3) tV l hl
   (λj hj=>by
    simp only[y6,T1,Td4,Ae6,Int.toNat_natCast,D2 hj (show l.length<=4611686018427387904 by omega)]
    rw[btD (r7 hj),bt (i9 hj)]
    rfl)
   (by simp only[y6,T1];rw[bfD (A7 (Qiw _))]) 0 (Nat.zero_le _)
  rw[Qiam] at h;have h:(lp (y6 ⟨l,x1,x2,x3,true,p.n.x,p.n.y,p.n.z,p.b⟩) ⟨0⟩).1=_:=h;cases hlp:lp (y6 ⟨l,x1,x2,x3,true,p.n.x,p.n.y,p.n.z,p.b⟩) ⟨0⟩ with
  |mk t s =>
  rw[hlp] at h;refine⟨t,s,rfl,?_⟩
  simp only at h
  rw[h];unfold Id9;cases hh:l.any λv=>O6 p v != 0 with
  |true=>exact .inl ⟨rfl,rfl⟩
  |false=>exact .inr ⟨rfl,.inr rfl⟩
theorem Vd3(l:List V3)(hl:l.length<=1000000000)(a c:Nat)(ha:a<l.length)(hc:c<a):∃j,lp (M1 ⟨(a:Int),(c:Int)⟩) ⟨l,0⟩=(if nf2 l a c then 1 else 2,⟨l,((j:Nat):Int)⟩) :=
 zc2 (step:=M1 ⟨(a:Int),(c:Int)⟩) (mk:=λj=>(⟨l,(j:Int)⟩:X5)) c (nf l a c) 1 2 (by omega)
  (λj hj=>by
   simp only[M1,aa1,Id1,Lc7,Int.toNat_natCast,q9,m9,D2 hj (show c<=4611686018427387904 by omega)]
   rw[btD (r7 hj),bt (i9 ha),bt (i9 (show c<l.length by omega)),bt (i9 (show j<l.length by omega)),y7]
   obtain⟨t,s,h1,h2⟩:=Vd2 l (a:Int) (c:Int) (j:Int) (B9 (gL tV l a) (gL tV l c) (gL tV l j)).2 (B9 (gL tV l a) (gL tV l c) (gL tV l j)).1 hl;rw[h1];unfold nf
   rcases h2 with⟨e,rfl⟩|⟨e,rfl|rfl⟩<;>rw[e]<;>rfl)
  (by simp only[M1,aa1];rw[bfD (A7 (Qiw _))])
theorem Vd4(l:List V3)(hl:l.length<=1000000000)(a:Nat)(ha:a<l.length):∃j,lp (M2 ⟨(a:Int)⟩) ⟨l,0⟩=(if nf1 l a then 1 else 2,⟨l,((j:Nat):Int)⟩) :=
 zc2 (step:=M2 ⟨(a:Int)⟩) (mk:=λj=>(⟨l,(j:Int)⟩:X6)) a (nf2 l a) 1 2 (by omega)
  (λj hj=>by
   obtain⟨j',h1⟩:=Vd3 l hl a j ha hj;simp only[M2,aa2,q9,m9,D2 hj (show a<=4611686018427387904 by omega)]
   rw[btD (r7 hj),h1];cases nf2 l a j<;>rfl)
  (by simp only[M2,aa2];rw[bfD (A7 (Qiw _))])
theorem ke9(l:List V3)(hl:l.length<=1000000000):ya8 l=some (b (!nf0 l),[]):=by
 obtain⟨j,h⟩:=zc2 (step:=M3 ⟨⟩) (mk:=λj=>(⟨l,(j:Int)⟩:X7)) l.length (nf1 l) 1 2 hl
  (λj hj=>by
   obtain⟨j',h1⟩:=Vd4 l hl j hj;simp only[M3,aa3,q9,m9,D2 hj (show l.length<=4611686018427387904 by omega)]
   rw[btD (r7 hj),h1];cases nf1 l j<;>rfl)
  (by simp only[M3,aa3];rw[bfD (A7 (Qiw _))])
 have h:lp (M3 ⟨⟩) ⟨l,0⟩=(if nf0 l then 1 else 2,⟨l,((j:Nat):Int)⟩):=h
 unfold ya8;simp only[q9,m9];rw[h];cases nf0 l<;>rfl
theorem Ae9(l:List V3)(hl:l.length<=1000000000):Va1 l=!nf0 l:=by unfold Va1;rw[ke9 l hl];rfl
def hold(p:Pln)(l:List V3):Bool:=!l.any λv=>decide (O6 p v>0)
noncomputable def gd7 (l:List V3) (a c:Nat) (out:List Pln) (k:Nat):List Pln :=
  if (B9 (gL tV l a) (gL tV l c) (gL tV l k)).2 then
    (if hold (N8 (B9 (gL tV l a) (gL tV l c) (gL tV l k)).1) l then Uc2 (if hold (B9 (gL tV l a) (gL tV l c) (gL tV l k)).1 l then Uc2 out (B9 (gL tV l a) (gL tV l c) (gL tV l k)).1 else out) (N8 (B9 (gL tV l a) (gL tV l c) (gL tV l k)).1)
     else (if hold (B9 (gL tV l a) (gL tV l c) (gL tV l k)).1 l then Uc2 out (B9 (gL tV l a) (gL tV l c) (gL tV l k)).1 else out))
  else out
noncomputable def F2(l:List V3)(a:Nat)(out:List Pln)(c:Nat):List Pln:=(List.range c).foldl (gd7 l a c) out
noncomputable def F1(l:List V3)(out:List Pln)(a:Nat):List Pln:=(List.range a).foldl (F2 l a) out
noncomputable def F0(l:List V3):List Pln:=(List.range l.length).foldl (F1 l) []
theorem G9 {τ:Type} (f:τ→Nat→τ) (a:τ) (n:Nat):(List.range (n+1)).foldl f a=f ((List.range n).foldl f a) n:=by
  rw[List.range_succ,List.foldl_append];rfl
theorem zc3 {f:List Pln→Nat→List Pln} {m:Nat} (h:∀ o k,(f o k).length≤o.length+m) (o:List Pln):∀ n,((List.range n).foldl f o).length≤o.length+m*n
  |0=>Nat.le_refl _
  | n+1=>by
    rw[G9];have h1:=h ((List.range n).foldl f o) n;have h2:=zc3 h o n;rw[Nat.mul_succ];omega
def Sb8(l:List Pln)(p:Pln):Bool:=l.any λq=>eqP q p
theorem gd8(l:List Pln)(p:Pln):Sb8 l p=true↔p∈l:=by
 unfold Sb8;rw[Qik];exact⟨λ⟨q,h,e⟩=>by rw[Sb3] at e;exact e ▸ h,λh=>⟨p,h,(Sb3 p p).2 rfl⟩⟩
def ipt(v:V3):Pt:=⟨v.x,v.y,v.z,1⟩
theorem Be0{v:V3}(h:inV v=true):∀p∈ws,0<=rmZ p (ipt v):=by
 obtain⟨⟨a1,a2⟩,⟨a3,a4⟩,a5,a6⟩:=(ja6 v).1 h;intro p hp;simp only[ws,Qia,Qiab,or_false] at hp
 rcases hp with rfl|rfl|rfl|rfl|rfl|rfl<;>simp only[rmZ,ipt]<;>omega
theorem Kb0{p:Pln}(h:okp p=true):g3 p.n=1:=by
 unfold okp at h;simp only[Qid,beq_iff_eq] at h;exact h.2.1
theorem Xa0{p:Pln}(h:okp p=true):p.n≠⟨0,0,0⟩:=λe=>by
 have:=Kb0 h
 rw[e] at this
 revert this
 decide
theorem rd6(c:Int)(n:V3):g3 ⟨c*n.x,c*n.y,c*n.z⟩=c.natAbs*g3 n:=by
 unfold g3;simp only[Int.natAbs_mul,Nat.gcd_mul_left];rw[Int.natCast_mul]
theorem Sb9{m n:V3}(hm:g3 m=1)(hn:g3 n=1)(h:c7 m n=⟨0,0,0⟩):n=m\/n=neg m:=by
 unfold c7 at h;simp only[V3.mk.injEq] at h;obtain⟨c1,c2,c3⟩:=h;have k:∀{c d:Int},c*m.x=d*n.x->c*m.y=d*n.y->c*m.z=d*n.z->c.natAbs=d.natAbs:=λ{c d} e1 e2 e3=>by
  have a1:=rd6 c m;have a2:=rd6 d n;rw[e1,e2,e3,a2,hm,hn] at a1;omega
 have ax:=k (c:=n.x) (d:=m.x) (by grind) (by grind) (by grind)
 have ay:=k (c:=n.y) (d:=m.y) (by grind) (by grind) (by grind)
 have az:=k (c:=n.z) (d:=m.z) (by grind) (by grind) (by grind)
 have sg:∀{a c:Int},a.natAbs=c.natAbs->a=c\/a=-c:=λh=>by omega
 -- the sign of one component that is not zero is that of all
 have go:∀{s u t v:Int},u≠0->s*v=u*t->s=u->t=v:=λ{s u t v} hu h e=>by
  subst e;exact (Qiai hu h).symm
 have gn:∀{s u t v:Int},u≠0->s*v=u*t->s=-u->t=-v:=λ{s u t v} hu h e=>by
  subst e
  have:u*t=u*(-v):=by rw[<- h];grind
  exact Qiai hu this
 by_cases hx:m.x=0
 ·have hx':n.x=0:=by omega
  by_cases hy:m.y=0
  ·have hy':n.y=0:=by omega
   rcases sg az with e|e
   ·exact .inl (V3.ext' (by omega) (by omega) e)
   ·exact .inr (V3.ext' (by show n.x=-m.x;omega) (by show n.y=-m.y;omega) e)
  ·rcases sg ay with e|e
   ·exact .inl (V3.ext' (by omega) e (go hy (by grind) e))
   ·exact .inr (V3.ext' (by show n.x=-m.x;omega) e (gn hy (by grind) e))
 ·rcases sg ax with e|e
  ·exact .inl (V3.ext' e (go hx (by grind) e) (go hx (by grind) e))
  ·exact .inr (V3.ext' e (gn hx (by grind) e) (gn hx (by grind) e))
structure Se4(l:List V3):Prop where
 h:∃a c k v,a∈l/\c∈l/\k∈l/\v∈l/\dot (c7 (sub c a) (sub k a)) (sub v a)≠0
theorem gLm{l:List V3}{j:Nat}(h:j<l.length):gL tV l j∈l:=db4 tV h
theorem Se5{l:List V3}(hf:nf0 l=true):Se4 l:=by
 unfold nf0 at hf;obtain⟨a,ha,hf⟩:=Qik.1 hf;unfold nf1 at hf;obtain⟨c,hc,hf⟩:=Qik.1 hf;unfold nf2 at hf;obtain⟨k,hk,hf⟩:=Qik.1 hf;rw[Qian] at ha hc hk;unfold nf at hf;rw[Qid] at hf;obtain⟨h1,h2⟩:=hf;obtain⟨⟨i1,i2,i3⟩,⟨ok,⟨g,hg,e1,e2,e3⟩,o⟩⟩:=ba6 h1;unfold Id9 at h2;obtain⟨v,hv,h2⟩:=Qik.1 h2;generalize (B9 (gL tV l a) (gL tV l c) (gL tV l k)).1=p at *
 refine⟨_,_,_,v,gLm ha,gLm (show c<l.length by omega),gLm (show k<l.length by omega),hv,λh0=>?_⟩
 have hs:O6 p v≠0:=by simpa using h2
 have hiv:inV v=true:=by
  cases hi:inV v with
  |true=>rfl
  |false=>exact absurd (by unfold O6;rw[ok,hi];rfl) hs
 apply hs;rw[ib2 ok hiv,o]
 have:g*(dot p.n v-dot p.n (gL tV l a))=dot (c7 (sub (gL tV l c) (gL tV l a)) (sub (gL tV l k) (gL tV l a))) (sub v (gL tV l a)):=by
  unfold dot;rw[<- e1,<- e2,<- e3];unfold sub
  grind
 rw[h0] at this
 have:=(Qif.1 this).resolve_left (by omega)
 omega
theorem ib3{p:Pln}{l:List V3}(hp:okp p=true)(hl:l.all inV=true):hold p l=true↔∀v∈l,dot p.n v<=p.b:=by
 unfold hold;rw[Qiaa,<- Bool.not_eq_true,Qik];constructor
 ·intro h v hv;have h1:¬ O6 p v>0:=λh'=>h ⟨v,hv,by simpa using h'⟩
  rw[zc1 hp (Qio.1 hl v hv)] at h1;omega
 ·rintro h ⟨v,hv,h1⟩;have h1:O6 p v>0:=by simpa using h1
  rw[zc1 hp (Qio.1 hl v hv)] at h1
  have:=h v hv
  omega
structure Fct(l:List V3)(p:Pln):Prop where
 ok:okp p=true
 hd:hold p l=true
theorem ib4(p:Pln)(v:V3):dot (N8 p).n v=-dot p.n v:=by unfold dot N8;grind
theorem Jd0 (l : List V3) (a c k : Nat) (out : List Pln) (p : Pln) : p ∈ gd7 l a c out k ↔ p ∈ out ∨ ((B9 (gL tV l a) (gL tV l c) (gL tV l k)).2 = true ∧
  ((p=(B9 (gL tV l a) (gL tV l c) (gL tV l k)).1/\hold p l=true)\/(p=N8 (B9 (gL tV l a) (gL tV l c) (gL tV l k)).1/\hold p l=true))):=by
 unfold gd7;generalize B9 (gL tV l a) (gL tV l c) (gL tV l k)=T;cases h2:T.2 with
 |false=>simp
 |true =>
  simp only[if_true];cases h4:hold (N8 T.1) l with
  |false =>
   simp only[Qiag,if_false];cases h3:hold T.1 l with
   |false =>
    simp only[Qiag,if_false];constructor
    ·exact λh=>.inl h
    ·rintro (h|⟨_,⟨rfl,h⟩|⟨rfl,h⟩⟩)
     ·exact h
     ·rw[h3] at h;cases h
     ·rw[h4] at h;cases h
   |true =>
    simp only[if_true,wb5];constructor
    ·rintro (rfl|h)
     ·exact .inr ⟨trivial,.inl ⟨rfl,h3⟩⟩
     ·exact .inl h
    ·rintro (h|⟨_,⟨rfl,h⟩|⟨rfl,h⟩⟩)
     ·exact .inr h
     ·exact .inl rfl
     ·rw[h4] at h;cases h
  |true =>
   simp only[if_true,wb5];cases h3:hold T.1 l with
   |false =>
    simp only[Qiag,if_false];constructor
    ·rintro (rfl|h)
     ·exact .inr ⟨trivial,.inr ⟨rfl,h4⟩⟩
     ·exact .inl h
    ·rintro (h|⟨_,⟨rfl,h⟩|⟨rfl,h⟩⟩)
     ·exact .inr h
     ·rw[h3] at h;cases h
     ·exact .inl rfl
   |true =>
    simp only[if_true,wb5];constructor
    ·rintro (rfl|rfl|h)
     ·exact .inr ⟨trivial,.inr ⟨rfl,h4⟩⟩
     ·exact .inr ⟨trivial,.inl ⟨rfl,h3⟩⟩
     ·exact .inl h
    ·rintro (h|⟨_,⟨rfl,h⟩|⟨rfl,h⟩⟩)
     ·exact .inr (.inr h)
     ·exact .inr (.inl rfl)
     ·exact .inl rfl
theorem Xa1{f:List Pln->Nat->List Pln}{Q:Nat->Pln->Prop}(h:∀o k p,p∈f o k↔p∈o\/Q k p)(o:List Pln)(p:Pln):∀n,p∈(List.range n).foldl f o↔p∈o\/∃k,k<n/\Q k p
 |0=>by simp
 |n+1=>by
  rw[G9,h,Xa1 h o p n];constructor
  ·rintro ((h|⟨k,hk,h⟩)|h)
   ·exact .inl h
   ·exact .inr ⟨k,by omega,h⟩
   ·exact .inr ⟨n,by omega,h⟩
  ·rintro (h|⟨k,hk,h⟩)
   ·exact .inl (.inl h)
   ·by_cases e:k=n
    ·subst e;exact .inr h
    ·exact .inl (.inr ⟨k,by omega,h⟩)
def Fq (l : List V3) (a c k : Nat) (p : Pln) : Prop := (B9 (gL tV l a) (gL tV l c) (gL tV l k)).2 = true ∧
  ((p=(B9 (gL tV l a) (gL tV l c) (gL tV l k)).1/\hold p l=true)\/(p=N8 (B9 (gL tV l a) (gL tV l c) (gL tV l k)).1/\hold p l=true))
theorem Be1(l:List V3)(a c:Nat)(out:List Pln)(p:Pln):p∈F2 l a out c↔p∈out\/∃k,k<c/\Fq l a c k p:=Xa1 (λo k p=>Jd0 l a c k o p) out p c
theorem Be2(l:List V3)(a:Nat)(out:List Pln)(p:Pln):p∈F1 l out a↔p∈out\/∃c,c<a/\∃k,k<c/\Fq l a c k p:=Xa1 (λo c p=>Be1 l a c o p) out p a
theorem rd7(l:List V3)(p:Pln):p∈F0 l↔∃a,a<l.length/\∃c,c<a/\∃k,k<c/\Fq l a c k p:=by
 have:=Xa1 (λo a p=>Be2 l a o p) [] p l.length
 simpa [F0] using this
theorem Jd1{l:List V3}{a c:Nat}{out:List Pln}{k:Nat}(h:La5 out):La5 (gd7 l a c out k):=by
 unfold gd7;split
 ·split
  ·refine Sb6 _ ?_;split
   ·exact Sb6 _ h
   ·exact h
  ·split
   ·exact Sb6 _ h
   ·exact h
 ·exact h
theorem Tb0{f:List Pln->Nat->List Pln}(h:∀o k,La5 o->La5 (f o k)){o:List Pln}(ho:La5 o):∀n,La5 ((List.range n).foldl f o)
 |0=>ho
 |n+1=>by rw[G9];exact h _ _ (Tb0 h ho n)
theorem Be3{l:List V3}{a c:Nat}{out:List Pln}(h:La5 out):La5 (F2 l a out c):=Tb0 (λ_ _ h=>Jd1 h) h c
theorem Be4{l:List V3}{a:Nat}{out:List Pln}(h:La5 out):La5 (F1 l out a):=Tb0 (λ_ _ h=>Be3 h) h a
theorem cc4(l:List V3):La5 (F0 l):=Tb0 (λ_ _ h=>Be4 h) .nil l.length
theorem cc5{l:List Pln}(h:La5 l):l.Nodup:=List.Pairwise.imp (λ{x y} (h:LtP x y) (e:x=y)=>oc9 y (e ▸ h)) h
theorem Vd5{l:List V3}{p:Pln}(hp:p∈F0 l):Fct l p:=by
 obtain⟨a,ha,c,hc,k,hk,h1,⟨h2,h3⟩|⟨h2,h3⟩⟩:=(rd7 l p).1 hp
 ·exact⟨h2 ▸ (ba6 h1).2.ok,h3⟩
 ·exact⟨h2 ▸ wb6 (ba6 h1).2.ok,h3⟩
structure gd9(c:List Pln):Prop where
 l:c.length<=47
 v:∀p∈c,okp p=true
 f:Ud4 (c++ws)
theorem gd9.chk{c:List Pln}(h:gd9 c):(chk c==0)=true:=by
 rw[beq_iff_eq,yc6];exact⟨by have:=h.l;omega,h.v⟩
theorem gd9.bds{c:List Pln}(h:gd9 c):Bds (c++ws):=(ke0 h.chk).1
theorem gd9.ful{c:List Pln}(h:gd9 c):ful c=true:=by
 unfold Ce.ful;rw[h.chk,(Id8 h.bds (rd5 c) (by simp[ws])).2 h.f]
 rfl
theorem gd9.pts{c:List Pln}(h:gd9 c):pts c=cor (c++ws):=by unfold Ce.pts;rw[if_pos h.chk]
end Go.Ev.Ce
namespace Go.Ev.Ce
def c9(a b:V3):V3:=⟨a.x-b.x,a.y-b.y,a.z-b.z⟩
def N3(u w x:V3):V3:=c7 (c9 w u) (c9 x u)
def qb1:List V3->V3
 |[]=>⟨0,0,0⟩
 |v::l=>⟨v.x+(qb1 l).x,v.y+(qb1 l).y,v.z+(qb1 l).z⟩
def Tb1:List Int->Int
 |[]=>0
 |x::l=>x+Tb1 l
theorem hd4(n:V3):∀l:List V3,dot n (qb1 l)=Tb1 (l.map (dot n))
 |[]=>by simp[qb1,Tb1,dot]
 |v::l=>by
  have:=hd4 n l
  simp only[List.map_cons,Tb1,<- this];simp only[qb1,dot]
  grind
theorem hd5(m s:Int):∀l:List Int,Tb1 (l.map λa=>m*a-s)=m*Tb1 l-s*l.length
 |[]=>by simp[Tb1]
 |a::l=>by
  have:=hd5 m s l
  simp only[List.map_cons,Tb1,this,List.length_cons]
  grind
theorem gc2:∀{l:List Int},(∀a∈l,a<=0)->Tb1 l<=0
 |[],_=>by simp[Tb1]
 |a::l,h=>by
  have:=gc2 (l:=l) λx hx=>h x (Qib _ hx)
  have:=h a Qic
  simp only[Tb1];omega
theorem cc6:∀{l:List Int},(∀a∈l,a<=0)->Tb1 l=0->∀a∈l,a=0
 |[],_,_=>λa ha=>by cases ha
 |a::l,h,h0=>by
  have h1:=gc2 (l:=l) λx hx=>h x (Qib _ hx)
  have h2:=h a Qic;simp only[Tb1] at h0;intro b hb
  rcases Qia.1 hb with rfl|hb
  ·omega
  ·exact cc6 (l:=l) (λx hx=>h x (Qib _ hx)) (by omega) b hb
def Sol(l:List V3):Prop:=∃a c k v,a∈l/\c∈l/\k∈l/\v∈l/\dot (N3 a c k) (c9 v a)≠0
theorem Sol.off{l:List V3}(h:Sol l){n:V3}(hn:n≠⟨0,0,0⟩)(b:Int):∃v∈l,dot n v≠b:=by
 obtain⟨a,c,k,v,ha,hc,hk,hv,hd⟩:=h;by_cases h1:dot n a=b
 ·by_cases h2:dot n c=b
  ·by_cases h3:dot n k=b
   ·by_cases h4:dot n v=b
    ·exfalso;unfold N3 at hd;generalize hD:dot (c7 (c9 c a) (c9 k a)) (c9 v a)=D at *
     have q1:dot n (c9 c a)=0:=by unfold dot c9 at *;grind
     have q2:dot n (c9 k a)=0:=by unfold dot c9 at *;grind
     have q3:dot n (c9 v a)=0:=by unfold dot c9 at *;grind
     generalize c9 c a=p at *
     generalize c9 k a=q at *
     generalize c9 v a=r at *
     have i1:D*n.x=(c7 q r).x*dot n p+(c7 r p).x*dot n q+(c7 p q).x*dot n r:=by rw[<- hD];simp only[dot,c7];grind
     have i2:D*n.y=(c7 q r).y*dot n p+(c7 r p).y*dot n q+(c7 p q).y*dot n r:=by rw[<- hD];simp only[dot,c7];grind
     have i3:D*n.z=(c7 q r).z*dot n p+(c7 r p).z*dot n q+(c7 p q).z*dot n r:=by rw[<- hD];simp only[dot,c7];grind
     rw[q1,q2,q3] at i1 i2 i3;have z:∀{x:Int},D*x=0->x=0:=λh=>(Qif.1 h).resolve_left hd
     exact hn (V3.ext' (z (by omega)) (z (by omega)) (z (by omega)))
    ·exact⟨v,hv,h4⟩
   ·exact⟨k,hk,h3⟩
  ·exact⟨c,hc,h2⟩
 ·exact⟨a,ha,h1⟩
theorem Sol.ne{l:List V3}(h:Sol l):∃v,v∈l:=by obtain⟨a,_,_,_,ha,_⟩:=h;exact⟨a,ha⟩
structure Fac(l:List V3)(n:V3)(b:Int):Prop where
 hd:∀v∈l,dot n v<=b
 on:∃u w x,u∈l/\w∈l/\x∈l/\N3 u w x≠⟨0,0,0⟩/\dot n u=b/\dot n w=b/\dot n x=b
def Be5(l:List V3)(c:List Pln):Prop:=∀n b,n≠⟨0,0,0⟩->Fac l n b->∃s t:Int,0<s/\0<t/\∃q∈c,t*q.n.x=s*n.x/\t*q.n.y=s*n.y/\t*q.n.z=s*n.z/\t*q.b=s*b
def pol(m:Int)(S v:V3):Pln:=⟨⟨m*v.x-S.x,m*v.y-S.y,m*v.z-S.z⟩,1⟩
theorem le0(m:Int)(S v d:V3):dot (pol m S v).n d=m*dot d v-dot d S:=by simp only[dot,pol];grind
theorem hd6(l:List V3)(d:V3):Tb1 (l.map λv=>(l.length:Int)*dot d v-dot d (qb1 l))=0:=by
 have h:=hd5 (l.length:Int) (dot d (qb1 l)) (l.map (dot d));rw[List.map_map] at h;have e:((λa=>(l.length:Int)*a-dot d (qb1 l))∘dot d)=λv=>(l.length:Int)*dot d v-dot d (qb1 l):=rfl
 rw[e] at h;rw[h,<- hd4,List.length_map]
 grind
theorem cc7{a b:V3}(h:dot a b≠0):b≠⟨0,0,0⟩:=λe=>h (by subst e;simp[dot])
theorem zc4{a b:V3}(h:dot a b≠0):a≠⟨0,0,0⟩:=λe=>h (by subst e;simp[dot])
theorem zd0{l:List V3}(h:Sol l):0<(l.length:Int):=by
 obtain⟨v,hv⟩:=h.ne
 have:=List.length_pos_of_mem hv
 omega
theorem le1{l:List V3}(h:Sol l):Bdd (l.map (pol l.length (qb1 l))):=λd hd=>by
 by_cases hh:∃p∈l.map (pol l.length (qb1 l)),0<dot p.n d
 ·exact hh
 exfalso;have hm:=zd0 h;have hall:∀a∈l.map (λv=>(l.length:Int)*dot d v-dot d (qb1 l)),a<=0:=λa ha=>by
  obtain⟨v,hv,rfl⟩:=Qii.1 ha;refine Int.not_lt.1 λh'=>hh ⟨pol l.length (qb1 l) v,Qii.2 ⟨v,hv,rfl⟩,?_⟩
  rw[le0];omega
 have hz:=cc6 hall (hd6 l d);obtain⟨a,ha⟩:=h.ne;obtain⟨v,hv,hne⟩:=h.off hd (dot d a);have e1:=hz _ (Qii.2 ⟨a,ha,rfl⟩);have e2:=hz _ (Qii.2 ⟨v,hv,rfl⟩);apply hne
 have:(l.length:Int)*(dot d v-dot d a)=0:=by grind
 have:=(Qif.1 this).resolve_left (by omega)
 omega
theorem Ab1{l:List V3}(h4:Sol l){c:List Pln}(hc:Be5 l c){x:Pt}(hx:Inr c x){h:Pln}(hh:∀v∈l,dot h.n v<=h.b):0<=rmZ h x:=by
 have hm:=zd0 h4;have hr:=le1 h4;generalize hS:qb1 l=S at hr;generalize hM:(l.length:Int)=m at hr hm
 -- the linear function on the polar
 have hv:∀y,Cn (l.map (pol m S)) y->0<=rmZ ⟨⟨m*x.px-x.pw*S.x,m*x.py-x.pw*S.y,m*x.pz-x.pw*S.z⟩,x.pw⟩ y:=λy hy=>by
  obtain⟨p1,p2,p3,hp1,hp2,hp3,hw,e1,e2,e3⟩:=hy.c;obtain⟨v1,m1,rfl⟩:=Qii.1 hp1;obtain⟨v2,m2,rfl⟩:=Qii.1 hp2;obtain⟨v3,m3,rfl⟩:=Qii.1 hp3;have rp:∀v,rmZ (pol m S v) y=y.pw-(m*dot ⟨y.px,y.py,y.pz⟩ v-dot ⟨y.px,y.py,y.pz⟩ S):=λv=>by simp only[rmZ,pol,dot];grind
  rw[rp] at e1 e2 e3;have hn3:dot (pol m S v1).n (N3 v1 v2 v3)≠0:=λh0=>hw (by
   have:mw (pol m S v1) (pol m S v2) (pol m S v3)=m*m*dot (pol m S v1).n (N3 v1 v2 v3):=by simp only[mw,pol,dot,N3,c7,c9];grind
   rw[this,h0,Qiak])
  have hne:N3 v1 v2 v3≠⟨0,0,0⟩:=cc7 hn3;have hfac:Fac l ⟨m*y.px,m*y.py,m*y.pz⟩ (y.pw+dot ⟨y.px,y.py,y.pz⟩ S):=by
   have ed:∀v,dot ⟨m*y.px,m*y.py,m*y.pz⟩ v=m*dot ⟨y.px,y.py,y.pz⟩ v:=λv=>by simp only[dot];grind
   refine⟨λv hv=>?_,v1,v2,v3,m1,m2,m3,hne,?_,?_,?_⟩
   ·have:=hy.h (pol m S v) (Qii.2 ⟨v,hv,rfl⟩)
    rw[rp] at this;rw[ed];omega
   ·rw[ed];omega
   ·rw[ed];omega
   ·rw[ed];omega
  have hyn:(⟨m*y.px,m*y.py,m*y.pz⟩:V3)≠⟨0,0,0⟩:=λe=>by
   have k:∀{a:Int},m*a=0->a=0:=λh=>(Qif.1 h).resolve_left (by omega)
   simp only[V3.mk.injEq] at e;have a1:=k e.1;have a2:=k e.2.1;have a3:=k e.2.2;rw[a1,a2,a3] at e1;have hw:=hy.w;simp only[dot] at e1;simp only[Qiz,Int.add_zero,Qiak,Int.sub_zero] at e1;omega
  obtain⟨s,t,hs,ht,q,hq,f1,f2,f3,f4⟩:=hc _ _ hyn hfac;have hxq:=hx.h q hq;have e:t*rmZ q x=s*rmZ ⟨⟨m*x.px-x.pw*S.x,m*x.py-x.pw*S.y,m*x.pz-x.pw*S.z⟩,x.pw⟩ y:=by
   have:t*rmZ q x=(t*q.b)*x.pw-((t*q.n.x)*x.px+(t*q.n.y)*x.py+(t*q.n.z)*x.pz):=by simp only[rmZ];grind
   rw[this,f1,f2,f3,f4];simp only[rmZ,dot];grind
  have h1:=Qih (Qie ht) hxq;rw[e] at h1;exact Qiad h1 hs
 by_cases hn:h.n=⟨0,0,0⟩
 ·obtain⟨v,hv⟩:=h4.ne;have h1:=hh v hv;have e:rmZ h x=h.b*x.pw:=by simp only[rmZ,hn];grind
  rw[e];rw[hn] at h1;simp only[dot,Qiz,Int.add_zero] at h1;exact Qih h1 (Qie hx.w)
 ·-- the polar point of h
  have hall:∀a∈l.map (λv=>(l.length:Int)*dot h.n v-dot h.n (qb1 l)),a<=(l.length:Int)*h.b-dot h.n (qb1 l):=λa ha=>by
   obtain⟨v,hv,rfl⟩:=Qii.1 ha
   have:=Qiae (hh v hv) (show 0<=(l.length:Int) by omega)
   omega
  have hpos:0<m*h.b-dot h.n S:=by
   rw[<- hM,<- hS];by_cases h0:0<(l.length:Int)*h.b-dot h.n (qb1 l)
   ·exact h0
   exfalso;have hz:=cc6 (λa ha=>by have:=hall a ha;omega) (hd6 l h.n)
   obtain⟨v,hv,hne⟩:=h4.off hn h.b;have e1:=hz _ (Qii.2 ⟨v,hv,rfl⟩);have h2:=hh v hv
   have:(l.length:Int)*dot h.n v<(l.length:Int)*h.b:=Int.mul_lt_mul_of_pos_left (by omega) (by omega)
   omega
  have hy:Inr (l.map (pol m S)) ⟨h.n.x,h.n.y,h.n.z,m*h.b-dot h.n S⟩:=⟨hpos,λp hp=>by
   obtain⟨v,hv,rfl⟩:=Qii.1 hp;have e:rmZ (pol m S v) ⟨h.n.x,h.n.y,h.n.z,m*h.b-dot h.n S⟩=m*(h.b-dot h.n v):=by simp only[rmZ,pol,dot];grind
   rw[e];exact Qih (by omega) (by have:=hh v hv;omega)⟩
  have h1:=da2 hr hv hy;have e:rmZ ⟨⟨m*x.px-x.pw*S.x,m*x.py-x.pw*S.y,m*x.pz-x.pw*S.z⟩,x.pw⟩ ⟨h.n.x,h.n.y,h.n.z,m*h.b-dot h.n S⟩=m*rmZ h x:=by simp only[rmZ,dot];grind
  rw[e] at h1;exact Qiad h1 hm
theorem mb5(own:List V3):(∃a c k,a∈own/\c∈own/\k∈own/\dot a (c7 c k)≠0)\/∃d,d≠(⟨0,0,0⟩:V3)/\∀n∈own,dot n d=0:=by
 by_cases h1:∃a∈own,a≠⟨0,0,0⟩
 ·obtain⟨a,ha,hne⟩:=h1;by_cases h2:∃c∈own,c7 a c≠⟨0,0,0⟩
  ·obtain⟨c,hc,hx⟩:=h2;by_cases h3:∃k∈own,dot k (c7 a c)≠0
   ·obtain⟨k,hk,h⟩:=h3;exact .inl ⟨k,a,c,hk,ha,hc,h⟩
   ·exact .inr ⟨c7 a c,hx,λn hn=>Qiq λh=>h3 ⟨n,hn,h⟩⟩
  ·obtain⟨d,hd,h0⟩:=perp hne;refine .inr ⟨d,hd,λn hn=>?_⟩
   have hc:c7 a n=⟨0,0,0⟩:=Qiq λh=>h2 ⟨n,hn,h⟩
   have e:∀{s t:Int},s*t=0->s≠0->t=0:=λh hs=>(Qif.1 h).resolve_left hs
   unfold c7 at hc;simp only[V3.mk.injEq] at hc;obtain⟨c1,c2,c3⟩:=hc;have k1:a.x*dot n d=0:=by
    have:a.x*dot n d=n.x*dot a d+(a.x*n.y-a.y*n.x)*d.y-(a.z*n.x-a.x*n.z)*d.z:=by simp only[dot];grind
    rw[this,h0,c3,c2];simp
   have k2:a.y*dot n d=0:=by
    have:a.y*dot n d=n.y*dot a d+(a.y*n.z-a.z*n.y)*d.z-(a.x*n.y-a.y*n.x)*d.x:=by simp only[dot];grind
    rw[this,h0,c1,c3];simp
   have k3:a.z*dot n d=0:=by
    have:a.z*dot n d=n.z*dot a d+(a.z*n.x-a.x*n.z)*d.x-(a.y*n.z-a.z*n.y)*d.y:=by simp only[dot];grind
    rw[this,h0,c2,c1];simp
   by_cases hx:a.x=0
   ·by_cases hy:a.y=0
    ·exact e k3 λhz=>hne (V3.ext' hx hy hz)
    ·exact e k2 hy
   ·exact e k1 hx
 ·exact .inr ⟨⟨1, 0, 0⟩, by simp, fun n hn => by
   have:n=⟨0,0,0⟩:=Qiq λh=>h1 ⟨n,hn,h⟩
   rw[this];simp[dot]⟩
theorem big(d:V3):∀c:List Pln,∃N:Int,0<N/\∀p∈c,dot p.n d<=N/\-dot p.n d<=N
 |[]=>⟨1,by decide,λp hp=>by cases hp⟩
 |q::c=>by
  obtain⟨N,h0,h⟩:=big d c;refine⟨N+(dot q.n d).natAbs,by omega,λp hp=>?_⟩
  rcases Qia.1 hp with rfl|hp
  ·omega
  ·have:=h p hp;omega
theorem Da6{p q s:Pln}(hw:mw p q s≠0){d:V3}(h1:dot p.n d=0)(h2:dot q.n d=0)(h3:dot s.n d=0):d=⟨0,0,0⟩:=by
 have i1:mw p q s*d.x=(c7 q.n s.n).x*dot p.n d+(c7 s.n p.n).x*dot q.n d+(c7 p.n q.n).x*dot s.n d:=by simp only[mw,dot,c7];grind
 have i2:mw p q s*d.y=(c7 q.n s.n).y*dot p.n d+(c7 s.n p.n).y*dot q.n d+(c7 p.n q.n).y*dot s.n d:=by simp only[mw,dot,c7];grind
 have i3:mw p q s*d.z=(c7 q.n s.n).z*dot p.n d+(c7 s.n p.n).z*dot q.n d+(c7 p.n q.n).z*dot s.n d:=by simp only[mw,dot,c7];grind
 rw[h1,h2,h3] at i1 i2 i3;have z:∀{x:Int},mw p q s*x=0->x=0:=λh=>(Qif.1 h).resolve_left hw
 exact V3.ext' (z (by omega)) (z (by omega)) (z (by omega))
def Spn(c:List Pln)(v:V3):Prop:=∃p q s,p∈c/\q∈c/\s∈c/\mw p q s≠0/\dot p.n v=p.b/\dot q.n v=q.b/\dot s.n v=s.b
theorem zd1{l:List V3}(h4:Sol l){c w:List Pln}(hc:Be5 l c)(hin:∀p∈c++w,∀v∈l,dot p.n v<=p.b){x:Pt}(hx:Cn (c++w) x):∃v∈l,Eqv x ⟨v.x,v.y,v.z,1⟩/\Spn c v:=by
 obtain⟨p,q,s,hp,hq,hs,hw,e1,e2,e3⟩:=hx.c;have hxc:Inr c x:=⟨hx.w,λa ha=>hx.h a (Qiac _ ha)⟩
 have hv:∃v∈l,dot p.n v=p.b/\dot q.n v=q.b/\dot s.n v=s.b:=by
  apply Qiq;intro hno;have h1:=Ab1 h4 hc hxc (h:=⟨⟨p.n.x+q.n.x+s.n.x,p.n.y+q.n.y+s.n.y,p.n.z+q.n.z+s.n.z⟩,p.b+q.b+s.b-1⟩) λv hv=>by
   have a1:=hin p hp v hv;have a2:=hin q hq v hv;have a3:=hin s hs v hv;have e:dot ⟨p.n.x+q.n.x+s.n.x,p.n.y+q.n.y+s.n.y,p.n.z+q.n.z+s.n.z⟩ v=dot p.n v+dot q.n v+dot s.n v:=by simp only[dot];grind
   simp only[e]
   have:¬ (dot p.n v=p.b/\dot q.n v=q.b/\dot s.n v=s.b):=λh=>hno ⟨v,hv,h⟩
   omega
  have e:rmZ ⟨⟨p.n.x+q.n.x+s.n.x,p.n.y+q.n.y+s.n.y,p.n.z+q.n.z+s.n.z⟩,p.b+q.b+s.b-1⟩ x=rmZ p x+rmZ q x+rmZ s x-x.pw:=by simp only[rmZ];grind
  rw[e,e1,e2,e3] at h1
  have:=hx.w
  omega
 obtain⟨v,hv,t1,t2,t3⟩:=hv;have hd:(⟨x.px-v.x*x.pw,x.py-v.y*x.pw,x.pz-v.z*x.pw⟩:V3)=⟨0,0,0⟩:=by
  have k:∀{a:Pln},dot a.n v=a.b->rmZ a x=0->dot a.n ⟨x.px-v.x*x.pw,x.py-v.y*x.pw,x.pz-v.z*x.pw⟩=0:=λ{a} h1 h2=>by
   rw[rmZ,<- h1] at h2;simp only[dot] at h2 ⊢
   grind
  exact Da6 hw (k t1 e1) (k t2 e2) (k t3 e3)
 simp only[V3.mk.injEq] at hd;refine⟨v,hv,⟨?_,?_,?_⟩,?_⟩
 ·show x.px*1=v.x*x.pw;omega
 ·show x.py*1=v.y*x.pw;omega
 ·show x.pz*1=v.z*x.pw;omega
 -- the facets through it span the space
 have hf:∀a:Pln,decide (dot a.n v=a.b)=true↔dot a.n v=a.b:=λa=>by simp
 rcases mb5 ((c.filter λa=>decide (dot a.n v=a.b)).map Pln.n) with⟨a,b,k,ha',hb',hk',hd⟩|⟨d,hd,h0⟩
 ·obtain⟨a,ha,rfl⟩:=Qii.1 ha';obtain⟨b,hb,rfl⟩:=Qii.1 hb';obtain⟨k,hk,rfl⟩:=Qii.1 hk';rw[List.mem_filter,hf] at ha hb hk;exact⟨a,b,k,ha.1,hb.1,hk.1,hd,ha.2,hb.2,hk.2⟩
 ·exfalso;obtain⟨N,hN,hb⟩:=big d c;have h0':∀a∈c,dot a.n v=a.b->dot a.n d=0:=λa ha h=>h0 a.n (Qii.2 ⟨a,List.mem_filter.2 ⟨ha,by simpa using h⟩,rfl⟩)
  have iny:∀e:V3,(∀a∈c,dot a.n v=a.b->dot a.n e=0)->(∀a∈c,dot a.n e<=N)->Inr c ⟨N*v.x+e.x,N*v.y+e.y,N*v.z+e.z,N⟩:=λe he hle=>⟨hN,λa ha=>by
   have ea:rmZ a ⟨N*v.x+e.x,N*v.y+e.y,N*v.z+e.z,N⟩=N*(a.b-dot a.n v)-dot a.n e:=by simp only[rmZ,dot];grind
   rw[ea];have h1:=hin a (Qiac _ ha) v hv;by_cases ht:dot a.n v=a.b
   ·rw[he a ha ht,ht];simp
   ·have h2:N*1<=N*(a.b-dot a.n v):=Qiae (by omega) (by omega)
    have:=hle a ha
    omega⟩
  have y1:=iny d h0' λa ha=>(hb a ha).1
  have y2:=iny (neg d) (λa ha h=>by rw[pc0,h0' a ha h];rfl) λa ha=>by rw[pc0];exact (hb a ha).2
  have z:∀a∈c++w,dot a.n v=a.b->dot a.n d=0:=λa ha ht=>by
   have a1:=Ab1 h4 hc y1 (h:=a) (hin a ha);have a2:=Ab1 h4 hc y2 (h:=a) (hin a ha);have e1:rmZ a ⟨N*v.x+d.x,N*v.y+d.y,N*v.z+d.z,N⟩=N*(a.b-dot a.n v)-dot a.n d:=by simp only[rmZ,dot];grind
   have e2:rmZ a ⟨N*v.x+(neg d).x,N*v.y+(neg d).y,N*v.z+(neg d).z,N⟩=N*(a.b-dot a.n v)+dot a.n d:=by simp only[rmZ,dot,neg];grind
   rw[e1,ht] at a1;rw[e2,ht] at a2;simp only[Int.sub_self,Qiak] at a1 a2;omega
  exact hd (Da6 hw (z p hp t1) (z q hq t2) (z s hs t3))
end Go.Ev.Ce
