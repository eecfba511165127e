/- Own work. -/
import Derived.Test.YtkfaiccnekeklaaGreatEvOaDN
set_option linter.all false
def Qia:=@List.mem_cons
def Qib:=@List.mem_cons_of_mem
def Qic:=@List.mem_cons_self
def Qid:=@Bool.and_eq_true
def Qie:=@Int.le_of_lt
def Qif:=@Int.mul_eq_zero
def Qig:=@Bool.and_true
def Qih:=@Int.mul_nonneg
def Qii:=@List.mem_map
def Qij:=@Nat.gcd_dvd_right
def Qik:=@List.any_eq_true
def Qil:=@Nat.gcd_dvd_left
def Qim:=@Int.natCast_dvd_natCast
def Qin:=@Nat.dvd_trans
def Qio:=@List.all_eq_true
def Qip:=@Bool.and_self
def Qiq:=@Classical.byContradiction
def Qir:=@Int.mul_pos
def Qis:=@List.pairwise_cons
def Qit:=@Int.mul_le_mul_of_nonneg_right
def Qiu:=@Int.dvd_natAbs
def Qiv:=@Int.mul_tdiv_cancel'
def Qiw:=@Nat.lt_irrefl
def Qix:=@Nat.gcd_pos_of_pos_right
def Qiy:=@Int.zero_mul
def Qiz:=@Bool.not_eq_true'
def Qiaa:=@List.not_mem_nil
def Qiab:=@Nat.beq_refl
def Qiac:=@List.mem_append_left
def Qiad:=@Int.nonneg_of_mul_nonneg_right
def Qiae:=@Int.mul_le_mul_of_nonneg_left
def Qiaf:=@Eq.trans
def Qiag:=@Bool.false_eq_true
def Qiah:=@List.getD_eq_getElem?_getD
def Qiai:=@Int.eq_of_mul_eq_mul_left
def Qiaj:=@Nat.zero_add
def Qiak:=@Int.mul_zero
def Qial:=@List.length_set
def Qiam:=@List.drop_zero
def Qian:=@List.mem_range
namespace Go.Ev.Ce
open Go Go.Ev Go.Ev.L Go.Proofs
set_option maxRecDepth 100000
structure wa3 where
 (ea0 ea1 ea2 ed7 d9 d8 f7:Int)
noncomputable def Wb2:List (Nat×Sum):=[(35,oa5)]
theorem Ob5:k8 prog G Wb2:=⟨ra8,trivial⟩
structure wa4 where
 bs0:Bool
noncomputable def ca2{α:Type}(kk:wa4->α)(x:wa3):α:=let t1:=(w9 (⟨x.d9,x.d8,x.f7⟩:V3) (⟨x.ea0,x.ea1,x.ea2⟩:V3));(kk ⟨t1 != 0⟩)
noncomputable def La2(x:wa3):wa4:=ca2 (λr=>r) x
noncomputable def Fa5(x:wa3)(r:wa4):DT (b7×List c8):=.ret (b r.bs0,[⟨0,3,[[i x.d9,i x.d8,i x.f7]],true,false,0⟩])
theorem gc1{α β:Type}(F:α->β)(kk:wa4->α)(x:wa3):F (ca2 kk x)=ca2 (λr=>F (kk r)) x:=by unfold ca2;(repeat' apply q8 (f:=F))<;>rfl
noncomputable def nb7:Sum:=Wa9 ⟨[.agg (kLq 4),sPq 0],[⟨0,3,true,some [kLq 3]⟩],λa H=>(⟨cIq a 0 0,cIq a 0 1,cIq a 0 2,cIq a 0 3,hIq H 0 0 0,hIq H 0 0 1,hIq H 0 0 2⟩,())⟩ (λx=>Fa5 x (La2 x))
theorem Wb3:i5 prog G 87 nb7:=R4 (enc:=λx=>⟨[.agg [i x.ea0,i x.ea1,i x.ea2,i x.ed7],.ptr 0 0 0 0],[⟨0,3,[[i x.d9,i x.d8,i x.f7]],true,false,0⟩]⟩) (λa H=>by kernel_rfl) (bd b87 Ob5) λx=>A6 (Qiaf (b:=ca2 (λr=>(Fa5 x r).run) x) (by kernel_rfl) (gc1 (λr=>(Fa5 x r).run) (λr=>r) x).symm)
structure O3 where
 J0:List Pln
 (d9 d8 f7:Int)
noncomputable def pa9:List (Nat×Sum):=[(87,nb7)]
theorem Oa7:k8 prog G pa9:=⟨Wb3,trivial⟩
structure D1 where
 J0:List Pln
 (is7 d9 d8 f7:Int)
structure l6 where
 is8:Int
noncomputable def ka5(p:D1)(s:l6):St:=⟨eL tP p.J0::.fn 87 [.ptr 0 0 0 0]::ra 5 (i p.is7::i s.is8::ra 10 []),[⟨0,3,[[i p.d9,i p.d8,i p.f7]],true,false,0⟩]⟩
noncomputable def A7{α:Type}(k:l6->α)(e:Nat->α)(z:α)(p:D1)(s:l6):α:=let t1:=(La2 ⟨(gL tP p.J0 s.is8.toNat).n.x,(gL tP p.J0 s.is8.toNat).n.y,(gL tP p.J0 s.is8.toNat).n.z,(gL tP p.J0 s.is8.toNat).b,p.d9,p.d8,p.f7⟩);(sl (decide (s.is8<p.is7)) (sl (inB s.is8 (List.length p.J0)) (sl t1.bs0 (e 1) (k ⟨W (s.is8+1)⟩)) z) (e 2))
noncomputable def C1(p:D1)(s:l6):Stp l6:=A7 .next .exit .fail p s
noncomputable def X4:Lo D1 l6:=⟨En pa9,1,qe4,[1,0,1,4,4],[0,1,7,8],.p,[⟨sLq tP::.fn 87 [.o (.ptr 0 0 0 0)]::ru2 5 (sIq::sIq::ru2 10 []),[⟨0,3,true,some [kLq 3]⟩],λa H=>(⟨aLq tP a 0,aIq a 7,hIq H 0 0 0,hIq H 0 0 1,hIq H 0 0 2⟩,⟨aIq a 8⟩)⟩],C1,[(none,λp s=>⟨[i s.is8],[⟨0,3,[[i p.d9,i p.d8,i p.f7]],true,false,0⟩]⟩),(some 0,λp s=>upq (ka5 p s) [(9,b (decide (s.is8<p.is7)))])],ka5⟩
theorem La3:X4.Ok:=Lo.ok [] (by kernel_rfl) .nil rfl (.cons (λa H=>by kernel_rfl) .nil) λp s=>(.of @A7 (λF _ _ _ _ _=>by unfold A7;(repeat' apply q8 (f:=F))<;>rfl) (by kernel_rfl))
structure O4 where
 alt:Nat
 is0:Int
noncomputable def B4{α:Type}(kk:O4->α)(x:O3):α:=let t1:=(lp (C1 (⟨rt tP x.J0,(↑(List.length x.J0):Int),x.d9,x.d8,x.f7⟩:D1)) (⟨0⟩:l6));(sl ((cnE tP x.J0)&&true) (sl (Nat.beq t1.1 1) (kk ⟨1,t1.2.is8⟩) (sl (Nat.beq t1.1 2) (kk ⟨1,-1⟩) (kk ⟨0,0⟩))) (kk ⟨0,0⟩))
noncomputable def O5(x:O3):O4:=B4 (λr=>r) x
noncomputable def aa2(x:O3)(r:O4):DT (b7×List c8):=(.ite (Nat.beq r.alt 1) (.ret (i r.is0,[⟨0,3,[[i x.d9,i x.d8,i x.f7]],true,false,0⟩])) .fail)
theorem Xa3{α β:Type}(F:α->β)(kk:O4->α)(x:O3):F (B4 kk x)=B4 (λr=>F (kk r)) x:=by unfold B4;(repeat' apply q8 (f:=F))<;>rfl
noncomputable def ta2:Sum:=Wa9 ⟨[sLq tP,.fn 87 [.o (.ptr 0 0 0 0)]],[⟨0,3,true,some [kLq 3]⟩],λa H=>(⟨aLq tP a 0,hIq H 0 0 0,hIq H 0 0 1,hIq H 0 0 2⟩,())⟩ (λx=>aa2 x (O5 x))
theorem Va3:i5 prog G 82 ta2:=R4 (enc:=λx=>⟨[eL tP x.J0,.fn 87 [.ptr 0 0 0 0]],[⟨0,3,[[i x.d9,i x.d8,i x.f7]],true,false,0⟩]⟩) (λa H=>by kernel_rfl) (bd b82 Oa7) λx=>bb3 (.s .p (.s (.s .p (.b (.u X4.ls))) .p)) [X4.pr] (by kernel_rfl) (.cons La3 .nil) (Qiaf (b:=B4 (λr=>(aa2 x r).run) x) (by kernel_rfl) (Xa3 (λr=>(aa2 x r).run) (λr=>r) x).symm)
structure J9 where
 J0:List Pln
 (d9 d8 f7:Int)
noncomputable def Ia9:List (Nat×Sum):=[(82,ta2)]
theorem Fa6:k8 prog G Ia9:=⟨Va3,trivial⟩
structure K0 where
 alt:Nat
 bs0:Bool
noncomputable def s7{α:Type}(kk:K0->α)(x:J9):α:=let t1:=(O5 ⟨rt tP x.J0,x.d9,x.d8,x.f7⟩);(sl ((cnE tP x.J0)&&true) (sl (Nat.beq t1.alt 1) (kk ⟨1,decide (t1.is0>=0)⟩) (kk ⟨0,false⟩)) (kk ⟨0,false⟩))
noncomputable def K1(x:J9):K0:=s7 (λr=>r) x
noncomputable def S7(x:J9)(r:K0):DT (b7×List c8):=(.ite (Nat.beq r.alt 1) (.ret (b r.bs0,[⟨0,3,[[i x.d9,i x.d8,i x.f7]],true,false,0⟩])) .fail)
theorem La4{α β:Type}(F:α->β)(kk:K0->α)(x:J9):F (s7 kk x)=s7 (λr=>F (kk r)) x:=by unfold s7;(repeat' apply q8 (f:=F))<;>rfl
noncomputable def ka6:Sum:=Wa9 ⟨[sLq tP,.fn 87 [.o (.ptr 0 0 0 0)]],[⟨0,3,true,some [kLq 3]⟩],λa H=>(⟨aLq tP a 0,hIq H 0 0 0,hIq H 0 0 1,hIq H 0 0 2⟩,())⟩ (λx=>S7 x (K1 x))
theorem Ja0:i5 prog G 50 ka6:=R4 (enc:=λx=>⟨[eL tP x.J0,.fn 87 [.ptr 0 0 0 0]],[⟨0,3,[[i x.d9,i x.d8,i x.f7]],true,false,0⟩]⟩) (λa H=>by kernel_rfl) (bd b50 Fa6) λx=>A6 (Qiaf (b:=s7 (λr=>(S7 x r).run) x) (by kernel_rfl) (La4 (λr=>(S7 x r).run) (λr=>r) x).symm)
noncomputable def Va4:List (Nat×Sum):=[(36,la8),(50,ka6)]
theorem gc2:k8 prog G Va4:=⟨oa6,Ja0,trivial⟩
structure ka7 where
 (J0 vb8:List Pln)
 (is9 v8:Int)
 Ce9:Nat
 Ed8:Nat->List b7
 (we2 d9 d8 f7 j6:Int)
structure O0 where
 yc0:Int
noncomputable def gb6(p:ka7)(s:O0):St:=⟨eL tP p.J0::ra 3 (.ptr 0 0 0 0::ra 3 (eL tP p.vb8::i p.is9::i p.v8::ra 6 (.tree 4 p.Ce9 p.Ed8::i p.we2::i s.yc0::ra 18 []))),[⟨0,4,[[i p.d9,i p.d8,i p.f7,i p.j6]],true,false,0⟩]⟩
noncomputable def da1{α:Type}(k:O0->α)(e:Nat->α)(z:α)(p:ka7)(s:O0):α:=let t1:=(A3 (⟨p.d9,p.d8,p.f7⟩:V3) (⟨toI (hdA (p.Ed8 s.yc0.toNat)),toI (hdA (tlA (p.Ed8 s.yc0.toNat))),toI (hdA (tlA (tlA (p.Ed8 s.yc0.toNat))))⟩:V3));let t2:=(K1 ⟨rt tP p.J0,t1.x,t1.y,t1.z⟩);(sl (decide (s.yc0<p.we2)) (sl (inB s.yc0 p.Ce9) (sl ((Nat.ble 4 (len (p.Ed8 s.yc0.toNat)))&&(na5 [CK.int .i64,CK.int .i64,CK.int .i64,CK.int .i64] (p.Ed8 s.yc0.toNat))) (sl (!((t1.x==0)&&((t1.y==0)&&((t1.z==0)&&true)))) (sl ((cnE tP p.J0)&&true) (sl (Nat.beq t2.alt 1) (sl t2.bs0 (e 1) (k ⟨W (s.yc0+1)⟩)) z) z) (k ⟨W (s.yc0+1)⟩)) z) z) (e 2))
noncomputable def Y6(p:ka7)(s:O0):Stp O0:=da1 .next .exit .fail p s
noncomputable def La5:Lo ka7 O0:=⟨En Va4,0,qe2,[1,0,1,4,4,1,1,0,4,1,1,4,4],[0,4,8,9,10,17,18,19],.p,[⟨sLq tP::ru2 3 (sPq 0::ru2 3 (sLq tP::sIq::sIq::ru2 6 (sTq 4::sIq::sIq::ru2 18 []))),[⟨0,4,true,some [kLq 4]⟩],λa H=>(⟨aLq tP a 0,aLq tP a 8,aIq a 9,aIq a 10,aNq a 17,aGq a 17,aIq a 18,hIq H 0 0 0,hIq H 0 0 1,hIq H 0 0 2,hIq H 0 0 3⟩,⟨aIq a 19⟩)⟩],Y6,[(none,λp s=>⟨[b true],[]⟩),(some 2,λp s=>upq (gb6 p s) [(20,b (decide (s.yc0<p.we2)))])],gb6⟩
theorem Wb4:La5.Ok:=Lo.ok [] (by kernel_rfl) .nil rfl (.cons (λa H=>by kernel_rfl) .nil) λp s=>(.of @da1 (λF _ _ _ _ _=>by unfold da1;(repeat' apply q8 (f:=F))<;>rfl) (by kernel_rfl))
structure ka8 where
 is9:Int
structure O1 where
 (J0 vb8:List Pln)
 v8:Int
noncomputable def gb7(p:ka8)(s:O1):St:=⟨eL tP s.J0::ra 7 (eL tP s.vb8::i p.is9::i s.v8::ra 27 []),[]⟩
noncomputable def da2{α:Type}(k:O1->α)(e:Nat->α)(z:α)(p:ka8)(s:O1):α:=let t1:=(lp (Y6 (⟨rt tP s.J0,rt tP s.vb8,p.is9,s.v8,s.v8.toNat-0,(λk=>(λk=>(tP).row (gL tP s.J0 k)) (0+k)),(↑(s.v8.toNat-0):Int),(gL tP s.vb8 s.v8.toNat).n.x,(gL tP s.vb8 s.v8.toNat).n.y,(gL tP s.vb8 s.v8.toNat).n.z,(gL tP s.vb8 s.v8.toNat).b⟩:ka7)) (⟨0⟩:O0));(sl (decide (s.v8<p.is9)) (sl (inB s.v8 (List.length s.vb8)) (sl (inB s.v8 ((List.length s.J0)+1)) (sl ((cnE tP s.J0)&&((cnE tP s.vb8)&&true)) (sl (Nat.beq t1.1 1) (e 1) (sl (Nat.beq t1.1 2) (k ⟨rt tP s.J0,rt tP s.vb8,W (s.v8+1)⟩) z)) z) z) z) (e 2))
noncomputable def Y7(p:ka8)(s:O1):Stp O1:=da2 .next .exit .fail p s
noncomputable def La6:Lo ka8 O1:=⟨En Va4,0,qe2,[1,0,1,4,4],[0,8,9,10],.s .p (.s .p (.s (.b (.s .p (.s .p (.b (.u La5.ls))))) .p)),[⟨sLq tP::ru2 7 (sLq tP::sIq::sIq::ru2 27 []),[],λa H=>(⟨aIq a 9⟩,⟨aLq tP a 0,aLq tP a 8,aIq a 10⟩)⟩],Y7,[(none,λp s=>⟨[b true],[]⟩),(some 0,λp s=>upq (gb7 p s) [(11,b (decide (s.v8<p.is9)))])],gb7⟩
theorem Wb5:La6.Ok:=Lo.ok [La5.pr] (by kernel_rfl) (.cons Wb4 .nil) rfl (.cons (λa H=>by kernel_rfl) .nil) λp s=>(.of @da2 (λF _ _ _ _ _=>by unfold da2;(repeat' apply q8 (f:=F))<;>rfl) (by kernel_rfl))
noncomputable def ua6(x:List Pln):Option (b7×List c8):=let t1:=(lp (Y7 (⟨(↑(List.length x):Int)⟩:ka8)) (⟨rt tP x,rt tP x,0⟩:O1));(sl ((cnE tP x)&&((cnE tP x)&&true)) (sl (Nat.beq t1.1 1) (some (b true,[])) (sl (Nat.beq t1.1 2) (some (b false,[])) none)) none)
noncomputable def ma1(x:List Pln):Bool:=V1 (one r1B) (ua6 x)
noncomputable def ma2(x:List Pln):Bool:=okO (one r1B) (ua6 x)
noncomputable def Cb2:Sum:=L4 (xa0 tP) (λx=>.guard (ma2 x) (.ret ((one r1B).enc (ma1 x),[])))
theorem tc0:i5 prog G 56 Cb2:=Ea5 (bd b56 gc2) (one r1B) (o:=ua6) λx=>bb3 (.s .p (.s (.s .p (.b (.u La6.ls))) .p)) [La6.pr] (by kernel_rfl) (.cons Wb5 .nil) (by kernel_rfl)
structure sa4 where
 (ea0 ea1 ea2:Int)
 J1:List Pln
noncomputable def Za9:List (Nat×Sum):=[(30,ia6),(56,Cb2)]
theorem Hb6:k8 prog G Za9:=⟨la9,tc0,trivial⟩
structure F5 where
 Ma7:List Pln
 is8:Int
 J1:List Pln
 (E3 E4 E5:Int)
structure l5 where
 ph:Nat
 is9:Int
 ns4:Nat
 eh2:List (List b7)
noncomputable def Ja1(p:F5)(s:l5):St:=⟨.unk::.unk::.ptr 1 0 0 0::.unk::.v (.slice none 0 0)::.unk::.unk::eL tP p.Ma7::i p.is8::i s.is9::ra 15 [],[⟨0,1,[[eL tP p.J1]],true,false,0⟩,⟨0,3,[[i p.E3,i p.E4,i p.E5]],true,false,0⟩]⟩
noncomputable def Ja2(p:F5)(s:l5):St:=⟨.unk::.unk::.ptr 1 0 0 0::.unk::.sl 2 0 s.ns4 0::.unk::.unk::eL tP p.Ma7::i p.is8::i s.is9::ra 15 [],[⟨0,1,[[eL tP p.J1]],true,false,0⟩,⟨0,3,[[i p.E3,i p.E4,i p.E5]],true,false,0⟩,⟨60,4,s.eh2,true,false,0⟩]⟩
noncomputable def zb6(p:F5)(s:l5):St:=(sel (Nat.beq s.ph 1) (Ja2 p s) (Ja1 p s))
noncomputable def F6{α:Type}(k:l5->α)(e:Nat->α)(z:α)(p:F5)(s:l5):α:=let t1:=(C7 (gL tP p.Ma7 s.is9.toNat) (⟨p.E3,p.E4,p.E5⟩:V3));(sl (decide (s.is9<p.is8)) (sl (inB s.is9 (List.length p.Ma7)) (sl (L9 (gL tP p.Ma7 s.is9.toNat) (⟨p.E3,p.E4,p.E5⟩:V3)) (sl (t1==0) (k ⟨1,W (s.is9+1),1,[[i (gL tP p.Ma7 s.is9.toNat).n.x,i (gL tP p.Ma7 s.is9.toNat).n.y,i (gL tP p.Ma7 s.is9.toNat).n.z,i (gL tP p.Ma7 s.is9.toNat).b]]⟩) (k ⟨0,W (s.is9+1),0,[]⟩)) z) z) (e 1))
noncomputable def F7{α:Type}(k:l5->α)(e:Nat->α)(z:α)(p:F5)(s:l5):α:=let t1:=(C7 (gL tP p.Ma7 s.is9.toNat) (⟨p.E3,p.E4,p.E5⟩:V3));(sl (decide (s.is9<p.is8)) (sl (inB s.is9 (List.length p.Ma7)) (sl (L9 (gL tP p.Ma7 s.is9.toNat) (⟨p.E3,p.E4,p.E5⟩:V3)) (sl (t1==0) (sl (Nat.beq s.ns4 (len s.eh2)&&Nat.ble ((s.ns4+1)*32) room) (k ⟨1,W (s.is9+1),s.ns4+1,app s.eh2 [[i (gL tP p.Ma7 s.is9.toNat).n.x,i (gL tP p.Ma7 s.is9.toNat).n.y,i (gL tP p.Ma7 s.is9.toNat).n.z,i (gL tP p.Ma7 s.is9.toNat).b]]⟩) z) (k ⟨1,W (s.is9+1),s.ns4,s.eh2⟩)) z) z) (e 2))
noncomputable def fa5(p:F5)(s:l5):Stp l5:=(sel (Nat.beq s.ph 1) (F7 .next .exit .fail p s) (F6 .next .exit .fail p s))
noncomputable def xa7:Lo F5 l5:=⟨En Za9,1,ze0,[1,1,0,1,4,4],[2,4,7,8,9],.p,[⟨sUq::sUq::sPq 1::sUq::.s (.o .nil)::sUq::sUq::sLq tP::sIq::sIq::ru2 15 [],[⟨0,1,true,some [[.c 4 (nL tP)]]⟩,⟨0,3,true,some [kLq 3]⟩],λa H=>(⟨aLq tP a 7,aIq a 8,hLq tP H 0 0 0,hIq H 1 0 0,hIq H 1 0 1,hIq H 1 0 2⟩,⟨0,aIq a 9,0,[]⟩)⟩,⟨sUq::sUq::sPq 1::sUq::.s (.o (.sl 2 0 (some 0) none))::sUq::sUq::sLq tP::sIq::sIq::ru2 15 [],[⟨0,1,true,some [[.c 4 (nL tP)]]⟩,⟨0,3,true,some [kLq 3]⟩,⟨60,4,true,none⟩],λa H=>(⟨aLq tP a 7,aIq a 8,hLq tP H 0 0 0,hIq H 1 0 0,hIq H 1 0 1,hIq H 1 0 2⟩,⟨1,aIq a 9,slN (slT a 4),elT H 2⟩)⟩],fa5,[(some 0,λp s=>upq (Ja1 p s) [(10,b (decide (s.is9<p.is8)))]),(some 0,λp s=>upq (Ja2 p s) [(10,b (decide (s.is9<p.is8)))])],zb6⟩
theorem zb7:xa7.Ok:=Lo.ok [] (by kernel_rfl) .nil rfl (.cons (λa H=>by kernel_rfl) (.cons (λa H=>by kernel_rfl) .nil)) λp s=>(.sel (Nat.beq s.ph 1) (.of @F7 (λF _ _ _ _ _=>by unfold F7;(repeat' apply q8 (f:=F))<;>rfl) (by kernel_rfl)) (.of @F6 (λF _ _ _ _ _=>by unfold F6;(repeat' apply q8 (f:=F))<;>rfl) (by kernel_rfl)))
structure sa5 where
 alt:Nat
 bs0:Bool
 J1:List Pln
noncomputable def Y8{α:Type}(kk:sa5->α)(x:sa4):α:=let t1:=(lp (fa5 (⟨rt tP x.J1,(↑(List.length x.J1):Int),rt tP x.J1,x.ea0,x.ea1,x.ea2⟩:F5)) (⟨0,0,0,[]⟩:l5));let t2:=(ma1 []);let t3:=(ma1 (slR tP t1.2.eh2 0 t1.2.ns4));(sl ((cnE tP x.J1)&&((cnE tP x.J1)&&true)) (sl (Nat.beq t1.1 1) (sl (ma2 []) (kk ⟨1,!t2,rt tP x.J1⟩) (kk ⟨0,false,[]⟩)) (sl (Nat.beq t1.1 2) (sl (okS tP t1.2.eh2 0 t1.2.ns4) (sl (ma2 (slR tP t1.2.eh2 0 t1.2.ns4)) (kk ⟨1,!t3,rt tP x.J1⟩) (kk ⟨0,false,[]⟩)) (kk ⟨0,false,[]⟩)) (kk ⟨0,false,[]⟩))) (kk ⟨0,false,[]⟩))
noncomputable def Q4(x:sa4):sa5:=Y8 (λr=>r) x
noncomputable def Ca0(x:sa4)(r:sa5):DT (b7×List c8):=(.ite (Nat.beq r.alt 1) (.ret (b r.bs0,[⟨0,1,[[eL tP r.J1]],true,false,0⟩])) .fail)
theorem Wb6{α β:Type}(F:α->β)(kk:sa5->α)(x:sa4):F (Y8 kk x)=Y8 (λr=>F (kk r)) x:=by unfold Y8;(repeat' apply q8 (f:=F))<;>rfl
noncomputable def Fa7:Sum:=Wa9 ⟨[.agg (kLq 3),sPq 0],[⟨0,1,true,some [[.c 4 (nL tP)]]⟩],λa H=>(⟨cIq a 0 0,cIq a 0 1,cIq a 0 2,hLq tP H 0 0 0⟩,())⟩ (λx=>Ca0 x (Q4 x))
theorem ab0:i5 prog G 55 Fa7:=R4 (enc:=λx=>⟨[.agg [i x.ea0,i x.ea1,i x.ea2],.ptr 0 0 0 0],[⟨0,1,[[eL tP x.J1]],true,false,0⟩]⟩) (λa H=>by kernel_rfl) (bd b55 Hb6) λx=>bb3 (.s .p (.s .p (.s (.s .p (.b (.u xa7.ls))) .p))) [xa7.pr] (by kernel_rfl) (.cons zb7 .nil) (Qiaf (b:=Y8 (λr=>(Ca0 x r).run) x) (by kernel_rfl) (Wb6 (λr=>(Ca0 x r).run) (λr=>r) x).symm)
structure U2 where
 ns0:Nat
 eh0:List (List b7)
 r8:List Pln
noncomputable def ua7:List (Nat×Sum):=[(55,Fa7)]
theorem Xa4:k8 prog G ua7:=⟨ab0,trivial⟩
structure I1 where
 ns0:Nat
 is7:Int
 eh0:List (List b7)
structure o0 where
 is8:Int
 r8:List Pln
noncomputable def qa0(p:I1)(s:o0):St:=⟨.sl 0 0 p.ns0 0::.fn 55 [.ptr 1 0 0 0]::ra 5 (i p.is7::i s.is8::ra 10 []),[⟨25,3,p.eh0,true,false,0⟩,⟨0,1,[[eL tP s.r8]],true,false,0⟩]⟩
noncomputable def D2{α:Type}(k:o0->α)(e:Nat->α)(z:α)(p:I1)(s:o0):α:=let t1:=(Q4 ⟨(rdR tV p.eh0 (0+s.is8.toNat)).x,(rdR tV p.eh0 (0+s.is8.toNat)).y,(rdR tV p.eh0 (0+s.is8.toNat)).z,rt tP s.r8⟩);(sl (decide (s.is8<p.is7)) (sl (inB s.is8 p.ns0) (sl (ldR tV p.eh0 (0+s.is8.toNat)) (sl ((cnE tP s.r8)&&true) (sl (Nat.beq t1.alt 1) (sl t1.bs0 (e 1) (k ⟨W (s.is8+1),t1.J1⟩)) z) z) z) z) (e 2))
noncomputable def F8(p:I1)(s:o0):Stp o0:=D2 .next .exit .fail p s
noncomputable def ba3:Lo I1 o0:=⟨En ua7,2,Ld6,[1,0,1,4,4],[0,1,7,8],.p,[⟨.s (.o (.sl 0 0 (some 0) none))::.fn 55 [.o (.ptr 1 0 0 0)]::ru2 5 (sIq::sIq::ru2 10 []),[⟨25,3,true,none⟩,⟨0,1,true,some [[.c 4 (nL tP)]]⟩],λa H=>(⟨slN (slT a 0),aIq a 7,elT H 0⟩,⟨aIq a 8,hLq tP H 1 0 0⟩)⟩],F8,[(none,λp s=>let t1:=(Q4 ⟨(rdR tV p.eh0 (0+s.is8.toNat)).x,(rdR tV p.eh0 (0+s.is8.toNat)).y,(rdR tV p.eh0 (0+s.is8.toNat)).z,rt tP s.r8⟩);⟨[i s.is8],[⟨25,3,p.eh0,true,false,0⟩,⟨0,1,[[eL tP t1.J1]],true,false,0⟩]⟩),(some 0,λp s=>upq (qa0 p s) [(9,b (decide (s.is8<p.is7)))])],qa0⟩
theorem Va5:ba3.Ok:=Lo.ok [] (by kernel_rfl) .nil rfl (.cons (λa H=>by kernel_rfl) .nil) λp s=>(.of @D2 (λF _ _ _ _ _=>by unfold D2;(repeat' apply q8 (f:=F))<;>rfl) (by kernel_rfl))
structure U3 where
 alt:Nat
 is0:Int
 r8:List Pln
noncomputable def E1{α:Type}(kk:U3->α)(x:U2):α:=let t1:=(lp (F8 (⟨x.ns0,(↑x.ns0:Int),x.eh0⟩:I1)) (⟨0,rt tP x.r8⟩:o0));let t2:=(Q4 ⟨(rdR tV x.eh0 (0+t1.2.is8.toNat)).x,(rdR tV x.eh0 (0+t1.2.is8.toNat)).y,(rdR tV x.eh0 (0+t1.2.is8.toNat)).z,rt tP t1.2.r8⟩);(sl ((cnE tP x.r8)&&true) (sl (Nat.beq t1.1 1) (kk ⟨1,t1.2.is8,t2.J1⟩) (sl (Nat.beq t1.1 2) (kk ⟨1,-1,t1.2.r8⟩) (kk ⟨0,0,[]⟩))) (kk ⟨0,0,[]⟩))
noncomputable def U4(x:U2):U3:=E1 (λr=>r) x
noncomputable def ea9(x:U2)(r:U3):DT (b7×List c8):=(.ite (Nat.beq r.alt 1) (.ret (i r.is0,[⟨25,3,x.eh0,true,false,0⟩,⟨0,1,[[eL tP r.r8]],true,false,0⟩])) .fail)
theorem gb8{α β:Type}(F:α->β)(kk:U3->α)(x:U2):F (E1 kk x)=E1 (λr=>F (kk r)) x:=by unfold E1;(repeat' apply q8 (f:=F))<;>rfl
noncomputable def ya9:Sum:=Wa9 ⟨[.s (.o (.sl 0 0 (some 0) none)),.fn 55 [.o (.ptr 1 0 0 0)]],[⟨25,3,true,none⟩,⟨0,1,true,some [[.c 4 (nL tP)]]⟩],λa H=>(⟨slN (slT a 0),elT H 0,hLq tP H 1 0 0⟩,())⟩ (λx=>ea9 x (U4 x))
theorem cb7:i5 prog G 88 ya9:=R4 (enc:=λx=>⟨[.sl 0 0 x.ns0 0,.fn 55 [.ptr 1 0 0 0]],[⟨25,3,x.eh0,true,false,0⟩,⟨0,1,[[eL tP x.r8]],true,false,0⟩]⟩) (λa H=>by kernel_rfl) (bd b88 Xa4) λx=>bb3 (.s .p (.s (.s .p (.b (.u ba3.ls))) .p)) [ba3.pr] (by kernel_rfl) (.cons Va5 .nil) (Qiaf (b:=E1 (λr=>(ea9 x r).run) x) (by kernel_rfl) (gb8 (λr=>(ea9 x r).run) (λr=>r) x).symm)
structure U5 where
 ns0:Nat
 eh0:List (List b7)
 r8:List Pln
noncomputable def ua8:List (Nat×Sum):=[(88,ya9),(55,Fa7)]
theorem Xa5:k8 prog G ua8:=⟨cb7,ab0,trivial⟩
structure I4 where
 ns0:Nat
structure p9 where
 (is5 is6:Int)
 eh0:List (List b7)
 r8:List Pln
noncomputable def qa1(p:I4)(s:p9):St:=⟨.sl 0 0 p.ns0 0::.fn 55 [.ptr 1 0 0 0]::ra 3 (i s.is5::i s.is6::ra 35 []),[⟨25,3,s.eh0,true,false,0⟩,⟨0,1,[[eL tP s.r8]],true,false,0⟩]⟩
noncomputable def D4{α:Type}(k:p9->α)(e:Nat->α)(z:α)(p:I4)(s:p9):α:=let t1:=(Q4 ⟨(rdR tV s.eh0 (0+s.is6.toNat)).x,(rdR tV s.eh0 (0+s.is6.toNat)).y,(rdR tV s.eh0 (0+s.is6.toNat)).z,rt tP s.r8⟩);(sl (decide (s.is6<(↑p.ns0:Int))) (sl (inB s.is6 p.ns0) (sl (ldR tV s.eh0 (0+s.is6.toNat)) (sl ((cnE tP s.r8)&&true) (sl (Nat.beq t1.alt 1) (sl (!t1.bs0) (sl (inB s.is5 p.ns0) (sl ((Nat.blt (0+s.is5.toNat) (len s.eh0))&&(Nat.ble (0+3) (len (i8 s.eh0 (0+s.is5.toNat))))) (k ⟨W (s.is5+1),W (s.is6+1),setAt s.eh0 (0+s.is5.toNat) (O2 (i8 s.eh0 (0+s.is5.toNat)) 0 [i (rdR tV s.eh0 (0+s.is6.toNat)).x,i (rdR tV s.eh0 (0+s.is6.toNat)).y,i (rdR tV s.eh0 (0+s.is6.toNat)).z]),t1.J1⟩) z) z) (k ⟨s.is5,W (s.is6+1),s.eh0,t1.J1⟩)) z) z) z) z) (e 1))
noncomputable def A0(p:I4)(s:p9):Stp p9:=D4 .next .exit .fail p s
noncomputable def ba4:Lo I4 p9:=⟨En ua8,2,ze1,[1,1,1,0,1,4,4],[0,1,5,6],.p,[⟨.s (.o (.sl 0 0 (some 0) none))::.fn 55 [.o (.ptr 1 0 0 0)]::ru2 3 (sIq::sIq::ru2 35 []),[⟨25,3,true,none⟩,⟨0,1,true,some [[.c 4 (nL tP)]]⟩],λa H=>(⟨slN (slT a 0)⟩,⟨aIq a 5,aIq a 6,elT H 0,hLq tP H 1 0 0⟩)⟩],A0,[(some 0,λp s=>upq (qa1 p s) [(16,i s.is6),(17,.sl 0 0 p.ns0 0),(18,i (↑p.ns0:Int)),(19,b (decide (s.is6<(↑p.ns0:Int))))])],qa1⟩
theorem Va6:ba4.Ok:=Lo.ok [] (by kernel_rfl) .nil rfl (.cons (λa H=>by kernel_rfl) .nil) λp s=>(.of @D4 (λF _ _ _ _ _=>by unfold D4;(repeat' apply q8 (f:=F))<;>rfl) (by kernel_rfl))
structure U6 where
 (alt ns0:Nat)
 eh0:List (List b7)
 r8:List Pln
noncomputable def E2{α:Type}(kk:U6->α)(x:U5):α:=let t1:=(U4 ⟨x.ns0,x.eh0,rt tP x.r8⟩);let t2:=(lp (A0 (⟨x.ns0⟩:I4)) (⟨t1.is0,W (t1.is0+1),x.eh0,rt tP t1.r8⟩:p9));(sl ((cnE tP x.r8)&&true) (sl (Nat.beq t1.alt 1) (sl (t1.is0==(-1)) (kk ⟨1,x.ns0,x.eh0,t1.r8⟩) (sl ((cnE tP t1.r8)&&true) (sl (Nat.beq t2.1 1) (sl (inB t2.2.is5 (x.ns0+1)) (sl (inB t2.2.is5 (x.ns0+1)) (kk ⟨1,t2.2.is5.toNat-0,app (G6 t2.2.eh0 (0+t2.2.is5.toNat)) (app (List.replicate (x.ns0-t2.2.is5.toNat) [i 0,i 0,i 0]) (i7 t2.2.eh0 ((0+t2.2.is5.toNat)+(x.ns0-t2.2.is5.toNat)))),t2.2.r8⟩) (kk ⟨0,0,[],[]⟩)) (kk ⟨0,0,[],[]⟩)) (kk ⟨0,0,[],[]⟩)) (kk ⟨0,0,[],[]⟩))) (kk ⟨0,0,[],[]⟩)) (kk ⟨0,0,[],[]⟩))
noncomputable def U7(x:U5):U6:=E2 (λr=>r) x
noncomputable def fa0(x:U5)(r:U6):DT (b7×List c8):=(.ite (Nat.beq r.alt 1) (.ret (.sl 0 0 r.ns0 0,[⟨25,3,r.eh0,true,false,0⟩,⟨0,1,[[eL tP r.r8]],true,false,0⟩])) .fail)
theorem gb9{α β:Type}(F:α->β)(kk:U6->α)(x:U5):F (E2 kk x)=E2 (λr=>F (kk r)) x:=by unfold E2;(repeat' apply q8 (f:=F))<;>rfl
noncomputable def za0:Sum:=Wa9 ⟨[.s (.o (.sl 0 0 (some 0) none)),.fn 55 [.o (.ptr 1 0 0 0)]],[⟨25,3,true,none⟩,⟨0,1,true,some [[.c 4 (nL tP)]]⟩],λa H=>(⟨slN (slT a 0),elT H 0,hLq tP H 1 0 0⟩,())⟩ (λx=>fa0 x (U7 x))
theorem cb8:i5 prog G 57 za0:=R4 (enc:=λx=>⟨[.sl 0 0 x.ns0 0,.fn 55 [.ptr 1 0 0 0]],[⟨25,3,x.eh0,true,false,0⟩,⟨0,1,[[eL tP x.r8]],true,false,0⟩]⟩) (λa H=>by kernel_rfl) (bd b57 Xa5) λx=>bb3 (.s .p (.s .p (.s .p (.s (.s .p (.b (.u ba4.ls))) .p)))) [ba4.pr] (by kernel_rfl) (.cons Va6 .nil) (Qiaf (b:=E2 (λr=>(fa0 x r).run) x) (by kernel_rfl) (gb9 (λr=>(fa0 x r).run) (λr=>r) x).symm)
noncomputable def Ob6:List (Nat×Sum):=[(72,xa6),(73,ma9),(75,pa8)]
theorem Hb7:k8 prog G Ob6:=⟨Ma5,Ba9,Da9,trivial⟩
structure sa6 where
 (alt ns0:Nat)
 eh0:List (List b7)
noncomputable def Y9{α:Type}(kk:sa6->α)(x:V3×List V3):α:=let t1:=(aa1 (hC tV (λk=>(tV).row (gL tV (x.1::x.2) k)),tC tV (List.length x.2) (λk=>(tV).row (gL tV (x.1::x.2) k))));let t2:=(L1 ⟨t1.ns0,app (bL tV (nb5 (slR tV t1.eh0 0 t1.ns0))) (i7 t1.eh0 t1.ns0)⟩);(sl (okL tV (List.length x.2+1) (λk=>(tV).row (gL tV (x.1::x.2) k))) (sl (Nat.beq t1.alt 1) (sl (Bool.and (Nat.ble t1.ns0 room) (Bool.and (Nat.ble t1.ns0 (len t1.eh0)) (okS tV t1.eh0 0 t1.ns0))) (sl (Nat.beq t2.alt 1) (kk ⟨1,t2.ns0,t2.eh0⟩) (kk ⟨0,0,[]⟩)) (kk ⟨0,0,[]⟩)) (kk ⟨0,0,[]⟩)) (kk ⟨0,0,[]⟩))
noncomputable def sa7(x:V3×List V3):sa6:=Y9 (λr=>r) x
noncomputable def Ca1(r:sa6):DT (b7×List c8):=(.ite (Nat.beq r.alt 1) (.ret (.sl 0 0 r.ns0 0,[⟨25,3,r.eh0,true,false,0⟩])) .fail)
theorem Wb7{α β:Type}(F:α->β)(kk:sa6->α)(x:V3×List V3):F (Y9 kk x)=Y9 (λr=>F (kk r)) x:=by unfold Y9;(repeat' apply q8 (f:=F))<;>rfl
noncomputable def ha3:Sum:=L4 (Wc3 tV) (λx=>Ca1 (sa7 x))
theorem na8:i5 prog G 45 ha3:=xb2 (bd b45 Hb7) λx=>A6 (Qiaf (b:=Y9 (λr=>(Ca1 r).run) x) (by kernel_rfl) (Wb7 (λr=>(Ca1 r).run) (λr=>r) x).symm)
noncomputable def gc3:List (Nat×Sum):=[(22,Ob4),(45,ha3),(57,za0)]
theorem Wb8:k8 prog G gc3:=⟨Cb1,na8,cb8,trivial⟩
noncomputable def qa2(x:V3×List V3):Option (b7×List c8):=let t1:=(Oa5 (hC tV (λk=>(tV).row (gL tV (x.1::x.2) k)),tC tV (List.length x.2) (λk=>(tV).row (gL tV (x.1::x.2) k))));let t2:=(sa7 (hC tV (λk=>(tV).row (gL tV (x.1::x.2) k)),tC tV (List.length x.2) (λk=>(tV).row (gL tV (x.1::x.2) k))));let t3:=(U7 ⟨t2.ns0,t2.eh0,rt tP t1.1⟩);(sl (okL tV (List.length x.2+1) (λk=>(tV).row (gL tV (x.1::x.2) k))) (sl (Oa6 (hC tV (λk=>(tV).row (gL tV (x.1::x.2) k)),tC tV (List.length x.2) (λk=>(tV).row (gL tV (x.1::x.2) k)))) (sl (t1.2 != 0) (some (.tup [.v (.slice none 0 0),i t1.2],[])) (sl (okL tV (List.length x.2+1) (λk=>(tV).row (gL tV (x.1::x.2) k))) (sl (Nat.beq t2.alt 1) (sl ((cnE tP t1.1)&&true) (sl (Nat.beq t3.alt 1) (some (.tup [.sl 0 0 t3.ns0 0,i 0],[⟨25,3,t3.eh0,true,false,0⟩])) none) none) none) none)) none) none)
noncomputable def tb5(x:V3×List V3):List V3×Int:=V1 (two (r1L tV) r1I) (qa2 x)
noncomputable def tb6(x:V3×List V3):Bool:=okO (two (r1L tV) r1I) (qa2 x)
noncomputable def tc1:Sum:=L4 (Wc3 tV) (λx=>.guard (tb6 x) (.ret ((two (r1L tV) r1I).enc (tb5 x),[])))
theorem gc4:i5 prog G 32 tc1:=Ea5 (bd b32 Wb8) (two (r1L tV) r1I) (o:=qa2) λx=>A6 (by kernel_rfl)
end Go.Ev.Ce
namespace Go.Ev.L
open Go Go.Ev
noncomputable def re4:Cod Unit where
 enc _:=.v (.slice none 0 0)
 dec x:=match x with
  |.v (.slice none 0 0)=>some ()
  |_=>none
 grd _:=true
 ok x a hx _:=by
  split at hx
  ·exact .refl _
  ·cases hx
noncomputable def cE0:Cod (Addr×Nat) where
 enc z:=.v (.slice (some z.1) 0 z.2)
 dec x:=match x with
  |.v (.slice (some a) 0 c)=>some (a,c)
  |_=>none
 grd _:=true
 ok x a hx _:=by
  split at hx
  ·cases hx;exact .refl _
  ·cases hx
section
variable{α:Type}{t:Ty α}{P:Program}{G:Nat->List Value}{f:FuncId}
theorem yb0{β:Type}{c:Cod β}{k k':β->DT (b7×List c8)}(h:i5 P G f (L4 c k))(hk:∀a r,(k' a).run=some r->(k a).run=some r):i5 P G f (L4 c k'):=h.le λargs blks r hr=>by
 unfold L4 at hr ⊢
 split at hr
 ·obtain⟨a,h1,hr⟩:=H7 hr;obtain⟨g,hr⟩:=DT.run_guard_some hr;simp only[h1,onO,g];exact hk a r hr
 ·cases hr
theorem Md2{k:List α->DT (b7×List c8)}(hA:i5 P G f (L4 (Wc3 t) λz=>k (z.1::z.2)))(hN:i5 P G f (L4 re4 λ_=>k []))(hE:i5 P G f (L4 cE0 λ_=>k [])):i5 P G f (L4 (xa0 t) k):=by
 intro args blks r out he W ρ F w args' hH hlen hargs hG;unfold L4 at he
 split at he
 ·rename_i x;obtain⟨a,h1,he⟩:=H7 he;obtain⟨g1,hk⟩:=DT.run_guard_some he;have nilCase:∀v',args'[0]?=some v'->v'=.slice none 0 0->a=[]->Ra7 P f/\Calls P f args'.toArray w λe w'=>∃r',e=.returned r'/\H6 W ρ [] F w r out r' w':=λv' hv e ha=>by
   subst ha;refine hN [.v (.slice none 0 0)] [] r out ?_ W ρ F w args' hH hlen (λi x' y' hx hy=>?_) hG
   ·exact hk
   ·match i with
    |0=>cases hx;rw[hv] at hy;cases hy;rw[e];exact .val (.cell (.v _))
    |i+1=>cases hx
  have emptyCase:∀v' ad c,args'[0]?=some v'->v'=.slice (some ad) 0 c->a=[]->Ra7 P f/\Calls P f args'.toArray w λe w'=>∃r',e=.returned r'/\H6 W ρ [] F w r out r' w':=λv' ad c hv e ha=>by
   subst ha;refine hE [.v (.slice (some ad) 0 c)] [] r out ?_ W ρ F w args' hH hlen (λi x' y' hx hy=>?_) hG
   ·exact hk
   ·match i with
    |0=>cases hx;rw[hv] at hy;cases hy;rw[e];exact .val (.cell (.v _))
    |i+1=>cases hx
  obtain⟨v',hv⟩:∃v',args'[0]?=some v':=by
   cases args' with
   |nil=>simp at hlen
   |cons v' r'=>exact⟨v',rfl⟩
  cases x with
  |tree e n get =>
   have hb:Nat.beq e t.es=true/\a=lsL t n get:=by
    have h1:(Bool.rec none (some (lsL t n get)) (Nat.beq e t.es):Option (List α))=some a:=h1;cases hb:Nat.beq e t.es with
    |false=>rw[hb] at h1;cases h1
    |true =>
     rw[hb] at h1;have h1:some (lsL t n get)=some a:=h1;injection h1 with h1;exact⟨rfl,h1.symm⟩
   cases n with
   |zero =>
    have ha:a=[]:=hb.2;have hm:=ja5 (hargs 0 _ v' rfl hv);cases hm with
    |tree _ _ _ ad cap cs hs hcap hes hF hw hr=>exact emptyCase _ ad cap hv rfl ha
    |nil=>exact nilCase _ hv rfl ha
   |succ m =>
    have ha:a=hC t get::tC t m get:=hb.2.trans (Wc2 t m get);subst ha;refine hA [.tree e (m+1) get] [] r out ?_ W ρ F w args' hH hlen hargs hG;have hc:(Wc3 t).dec (.tree e (m+1) get)=some (hC t get,tC t m get):=by
     show (Bool.rec none (some (hC t get,tC t m get)) (Nat.beq e t.es):Option (α×List α))=_;rw[hb.1]
    have hg:(Wc3 t).grd (.tree e (m+1) get)=true:=g1;simp only[L4,hc,onO,hg];exact hk
  |v q =>
   have hq:=X8 (hargs 0 _ v' rfl hv);unfold xa0 at h1
   simp only at h1
   split at h1
   ·rename_i heq;cases heq
   ·rename_i heq;injection heq with heq;injection h1 with h1;exact nilCase v' hv (hq.trans heq) h1.symm
   ·rename_i ad c heq;injection heq with heq;injection h1 with h1;exact emptyCase v' _ _ hv (hq.trans heq) h1.symm
   ·cases h1
  |_=>cases h1
 ·cases he
end
end Go.Ev.L
namespace Go.Ev.Ce
open Go Go.Ev Go.Ev.L Go.Proofs
set_option maxRecDepth 100000
noncomputable def tc2:List (Nat×Sum):=[(44,Oa1),(45,ha3),(46,ga9)]
theorem gc5:k8 prog G tc2:=⟨cb5,na8,ka0,trivial⟩
noncomputable def cb9(x:Unit):Option (b7×List c8):=let t1:=(sa2 []);(sl (sa3 []) (sl (t1 != 0) (some (.tup [.v (.slice none 0 0),i t1],[])) none) none)
noncomputable def Cb3(x:Unit):List Pln×Int:=V1 (two (r1L tP) r1I) (cb9 x)
noncomputable def Cb4(x:Unit):Bool:=okO (two (r1L tP) r1I) (cb9 x)
noncomputable def db0:Sum:=L4 re4 (λx=>.guard (Cb4 x) (.ret ((two (r1L tP) r1I).enc (Cb3 x),[])))
theorem Va7:i5 prog G 22 db0:=Ea5 (bd b22 gc5) (two (r1L tP) r1I) (o:=cb9) λx=>Gc0 .p [] (by kernel_rfl) .nil (by kernel_rfl)
noncomputable def Wb9:List (Nat×Sum):=[(22,db0),(45,ha3)]
theorem Ob7:k8 prog G Wb9:=⟨Va7,na8,trivial⟩
noncomputable def La7(x:Unit):Option (b7×List c8):=let t1:=(Cb3 ());(sl (Cb4 ()) (sl (t1.2 != 0) (some (.tup [.v (.slice none 0 0),i t1.2],[])) none) none)
noncomputable def gc6(x:Unit):List V3×Int:=V1 (two (r1L tV) r1I) (La7 x)
noncomputable def gc7(x:Unit):Bool:=okO (two (r1L tV) r1I) (La7 x)
noncomputable def gc8:Sum:=L4 re4 (λx=>.guard (gc7 x) (.ret ((two (r1L tV) r1I).enc (gc6 x),[])))
theorem Xb0:i5 prog G 32 gc8:=Ea5 (bd b32 Ob7) (two (r1L tV) r1I) (o:=La7) λx=>A6 (by kernel_rfl)
noncomputable def tc3:List (Nat×Sum):=[(46,ga9)]
theorem gc9:k8 prog G tc3:=⟨ka0,trivial⟩
noncomputable def db1(x:Addr×Nat):Option (b7×List c8):=none
noncomputable def Cb5(x:Addr×Nat):List Pln×Int:=V1 (two (r1L tP) r1I) (db1 x)
noncomputable def Cb6(x:Addr×Nat):Bool:=okO (two (r1L tP) r1I) (db1 x)
noncomputable def Cb7:Sum:=L4 cE0 (λx=>.guard (Cb6 x) (.ret ((two (r1L tP) r1I).enc (Cb5 x),[])))
theorem tb7:i5 prog G 22 Cb7:=Ea5 (bd b22 gc9) (two (r1L tP) r1I) (o:=db1) λx=>Gc0 .p [] (by kernel_rfl) .nil (by kernel_rfl)
noncomputable def Xb1:List (Nat×Sum):=[(22,Cb7),(45,ha3)]
theorem Ob8:k8 prog G Xb1:=⟨tb7,na8,trivial⟩
noncomputable def La8(x:Addr×Nat):Option (b7×List c8):=let t1:=(Cb5 x);(sl (Cb6 x) (sl (t1.2 != 0) (some (.tup [.v (.slice none 0 0),i t1.2],[])) none) none)
noncomputable def hc3(x:Addr×Nat):List V3×Int:=V1 (two (r1L tV) r1I) (La8 x)
noncomputable def hc5(x:Addr×Nat):Bool:=okO (two (r1L tV) r1I) (La8 x)
noncomputable def hc6:Sum:=L4 cE0 (λx=>.guard (hc5 x) (.ret ((two (r1L tV) r1I).enc (hc3 x),[])))
theorem Xb2:i5 prog G 32 hc6:=Ea5 (bd b32 Ob8) (two (r1L tV) r1I) (o:=La8) λx=>A6 (by kernel_rfl)
noncomputable def tc4:List (Nat×Sum):=[(44,Oa1),(46,ga9)]
theorem hc7:k8 prog G tc4:=⟨cb5,ka0,trivial⟩
noncomputable def ua9(x:List V3):Option (b7×List c8):=let t1:=(sa2 (rt tV x));(sl (okE tV x) (sl (sa3 (rt tV x)) (sl (t1 != 0) (some (.tup [.v (.slice none 0 0),i t1],[])) none) none) none)
noncomputable def Ha4(x:List V3):List Pln×Int:=V1 (two (r1L tP) r1I) (ua9 x)
noncomputable def Ha5(x:List V3):Bool:=okO (two (r1L tP) r1I) (ua9 x)
noncomputable def Cb8:Sum:=L4 (xa0 tV) (λx=>.guard (Ha5 x) (.ret ((two (r1L tP) r1I).enc (Ha4 x),[])))
theorem tb8:i5 prog G 22 Cb8:=Ea5 (bd b22 hc7) (two (r1L tP) r1I) (o:=ua9) λx=>Gc0 .p [] (by kernel_rfl) .nil (by kernel_rfl)
noncomputable def Xb3:List (Nat×Sum):=[(22,Cb8)]
theorem Ob9:k8 prog G Xb3:=⟨tb8,trivial⟩
noncomputable def ka9(x:List V3):Option (b7×List c8):=let t1:=(Ha4 (rt tV x));(sl (okE tV x) (sl (Ha5 (rt tV x)) (sl (t1.2 != 0) (some (.tup [.v (.slice none 0 0),i t1.2],[])) none) none) none)
noncomputable def La9(x:List V3):List V3×Int:=V1 (two (r1L tV) r1I) (ka9 x)
noncomputable def Ma0(x:List V3):Bool:=okO (two (r1L tV) r1I) (ka9 x)
noncomputable def hc8:Sum:=L4 (xa0 tV) (λx=>.guard (Ma0 x) (.ret ((two (r1L tV) r1I).enc (La9 x),[])))
theorem Xb4:i5 prog G 32 hc8:=Ea5 (bd b32 Ob9) (two (r1L tV) r1I) (o:=ka9) λx=>A6 (by kernel_rfl)
noncomputable def rm(p:Pln)(x:Pt):Int:=W (p.b*x.pw-(p.n.x*x.px+p.n.y*x.py+p.n.z*x.pz))
structure Bd(p:Pln):Prop where
 x1:-4608<=p.n.x
 x2:p.n.x<=4608
 y1:-4608<=p.n.y
 y2:p.n.y<=4608
 z1:-4608<=p.n.z
 z2:p.n.z<=4608
 b1:-2097152<=p.b
 b2:p.b<=2097152
def mv(p q r:Pln):V3 :=
 ⟨(c7 q.n r.n).x*p.b+(c7 r.n p.n).x*q.b+(c7 p.n q.n).x*r.b,
  (c7 q.n r.n).y*p.b+(c7 r.n p.n).y*q.b+(c7 p.n q.n).y*r.b,
  (c7 q.n r.n).z*p.b+(c7 r.n p.n).z*q.b+(c7 p.n q.n).z*r.b⟩
def gc(v:V3)(w:Int):Int:=(Nat.gcd (Nat.gcd v.x.natAbs v.y.natAbs) (Nat.gcd v.z.natAbs w.natAbs):Nat)
def mpt(p q r:Pln):Pt×Bool :=
 if mw p q r=0 then (⟨0,0,0,0⟩,false)
 else if mw p q r<0 then (⟨Int.tdiv (-(mv p q r).x) (gc (mv p q r) (mw p q r)),Int.tdiv (-(mv p q r).y) (gc (mv p q r) (mw p q r)),Int.tdiv (-(mv p q r).z) (gc (mv p q r) (mw p q r)),Int.tdiv (-(mw p q r)) (gc (mv p q r) (mw p q r))⟩,true)
 else (⟨Int.tdiv (mv p q r).x (gc (mv p q r) (mw p q r)),Int.tdiv (mv p q r).y (gc (mv p q r) (mw p q r)),Int.tdiv (mv p q r).z (gc (mv p q r) (mw p q r)),Int.tdiv (mw p q r) (gc (mv p q r) (mw p q r))⟩,true)
def Sm(n:Int)(x:Int):Prop:=-n<=x/\x<=n
theorem tb9{a b:V3}(ha:Sm 4608 a.x/\Sm 4608 a.y/\Sm 4608 a.z)(hb:Sm 4608 b.x/\Sm 4608 b.y/\Sm 4608 b.z):Sm 42467328 (c7 a b).x/\Sm 42467328 (c7 a b).y/\Sm 42467328 (c7 a b).z:=by
 obtain⟨⟨a1,a2⟩,⟨a3,a4⟩,a5,a6⟩:=ha;obtain⟨⟨b1,b2⟩,⟨b3,b4⟩,b5,b6⟩:=hb;have h1:=mb a3 a4 b5 b6;have h2:=mb a5 a6 b3 b4;have h3:=mb a5 a6 b1 b2;have h4:=mb a1 a2 b5 b6;have h5:=mb a1 a2 b3 b4;have h6:=mb a3 a4 b1 b2;unfold Sm c7
 simp only
 omega
theorem Bd.n{p:Pln}(h:Bd p):Sm 4608 p.n.x/\Sm 4608 p.n.y/\Sm 4608 p.n.z:=⟨⟨h.x1,h.x2⟩,⟨h.y1,h.y2⟩,h.z1,h.z2⟩
theorem Ae3{p q r:Pln}(hp:Bd p)(hq:Bd q)(hr:Bd r):Sm 600000000000 (mw p q r):=by
 obtain⟨⟨c1,c2⟩,⟨c3,c4⟩,c5,c6⟩:=tb9 hq.n hr.n;have h1:=mb hp.x1 hp.x2 c1 c2;have h2:=mb hp.y1 hp.y2 c3 c4;have h3:=mb hp.z1 hp.z2 c5 c6;unfold Sm mw dot;omega
theorem Ae4{p q r:Pln}(hp:Bd p)(hq:Bd q)(hr:Bd r):Sm 300000000000000 (mv p q r).x/\Sm 300000000000000 (mv p q r).y/\Sm 300000000000000 (mv p q r).z:=by
 obtain⟨⟨c1,c2⟩,⟨c3,c4⟩,c5,c6⟩:=tb9 hq.n hr.n;obtain⟨⟨d1,d2⟩,⟨d3,d4⟩,d5,d6⟩:=tb9 hr.n hp.n;obtain⟨⟨e1,e2⟩,⟨e3,e4⟩,e5,e6⟩:=tb9 hp.n hq.n;have a1:=mb c1 c2 hp.b1 hp.b2;have a2:=mb c3 c4 hp.b1 hp.b2;have a3:=mb c5 c6 hp.b1 hp.b2;have b1:=mb d1 d2 hq.b1 hq.b2;have b2:=mb d3 d4 hq.b1 hq.b2;have b3:=mb d5 d6 hq.b1 hq.b2;have f1:=mb e1 e2 hr.b1 hr.b2;have f2:=mb e3 e4 hr.b1 hr.b2;have f3:=mb e5 e6 hr.b1 hr.b2;unfold Sm mv
 simp only
 omega
theorem ce1(a b:V3):A3 a b=⟨W (c7 a b).x,W (c7 a b).y,W (c7 a b).z⟩:=by
 unfold A3 c7;simp only[Oc8,ld7]
theorem ce2(a b:V3):Ia5 a b=⟨W (c7 a b).x,W (c7 a b).y,W (c7 a b).z⟩:=by
 unfold Ia5 c7;simp only[Oc8,ld7]
theorem ld8{v:V3}{w:Int}(h:w≠0):0<gc v w:=by
 unfold gc
 have:0<Nat.gcd v.z.natAbs w.natAbs:=Qix _ (by omega)
 have:=Qix (Nat.gcd v.x.natAbs v.y.natAbs) this
 omega
theorem Ae5{v:V3}{w:Int}(h:w≠0):gc v w<=w.natAbs:=by
 unfold gc;have h1:Nat.gcd v.z.natAbs w.natAbs<=w.natAbs:=Nat.gcd_le_right _ (by omega)
 have h2:0<Nat.gcd v.z.natAbs w.natAbs:=Qix _ (by omega)
 have h3:=Nat.gcd_le_right (m:=Nat.gcd v.x.natAbs v.y.natAbs) (n:=Nat.gcd v.z.natAbs w.natAbs) h2;omega
theorem ob5{x:Int}(h:Sm 1000000000000000000 x):W x=x:=aa0 (by have:=h.1;omega) (by have:=h.2;omega)
theorem Sm.mono{n m x:Int}(h:Sm n x)(hn:n<=m):Sm m x:=⟨by have:=h.1;omega,by have:=h.2;omega⟩
theorem da3{n x g:Int}(h:Sm n x)(hg:0<g):Sm n (Int.tdiv x g):=by
 have h1:(Int.tdiv x g).natAbs<=x.natAbs:=by rw[Int.natAbs_tdiv];exact Nat.div_le_self _ _
 have:=h.1;have:=h.2
 constructor<;>omega
theorem ld9{p q r:Pln}(hp:Bd p)(hq:Bd q)(hr:Bd r)(h:(mpt p q r).2=true):0<(mpt p q r).1.pw/\Sm 300000000000000 (mpt p q r).1.px/\Sm 300000000000000 (mpt p q r).1.py/\Sm 300000000000000 (mpt p q r).1.pz/\(mpt p q r).1.pw<=600000000000:=by
 have hw:=Ae3 hp hq hr;obtain⟨v1,v2,v3⟩:=Ae4 hp hq hr;have neg:∀{n x:Int},Sm n x->Sm n (-x):=λh=>⟨by have:=h.2;omega,by have:=h.1;omega⟩
 have pos:∀{x:Int},0<x->x.natAbs=(mw p q r).natAbs->0<Int.tdiv x (gc (mv p q r) (mw p q r)):=λ{x} hx he=>by
  have h0:mw p q r≠0:=by omega
  have h1:=ld8 (v:=mv p q r) h0;have h2:=Ae5 (v:=mv p q r) h0;rw[Int.tdiv_eq_ediv_of_nonneg (by omega)]
  exact Int.ediv_pos_of_pos_of_dvd hx (by omega) (by
   rw[<- Qiu,he];exact Qim.2 (Qin (Qij _ _) (Qij _ _)))
 unfold mpt at h ⊢;by_cases h0:mw p q r=0
 ·rw[if_pos h0] at h;cases h
 ·rw[if_neg h0];have hg:=ld8 (v:=mv p q r) h0;by_cases h1:mw p q r<0
  ·rw[if_pos h1];exact⟨pos (by omega) (by omega),da3 (neg v1) hg,da3 (neg v2) hg,da3 (neg v3) hg,(da3 (neg hw) hg).2⟩
  ·rw[if_neg h1];exact⟨pos (by omega) rfl,da3 v1 hg,da3 v2 hg,da3 v3 hg,(da3 hw hg).2⟩
noncomputable def inn(l:List Pln)(x:Pt):Bool:=l.all λp=>!decide (rm p x<0)
def eqX(x q:Pt):Bool:=q.px==x.px&&(q.py==x.py&&(q.pz==x.pz&&(q.pw==x.pw&&true)))
theorem sd1(x q:Pt):eqX x q=true↔q=x:=by
 unfold eqX;simp only[Qig,Qid,beq_iff_eq];exact⟨λ⟨h1,h2,h3,h4⟩=>by cases q;cases x;simp_all,λh=>by subst h;exact⟨rfl,rfl,rfl,rfl⟩⟩
def ce3(l:List Pt)(x:Pt):Bool:=l.any (eqX x)
theorem Md3(l:List Pt)(x:Pt):ce3 l x=true↔x∈l:=by
 unfold ce3;rw[Qik];exact⟨λ⟨q,h,e⟩=>(sd1 x q).1 e ▸ h,λh=>⟨x,h,(sd1 x x).2 rfl⟩⟩
def smb(n x:Int):Bool:=!decide (x < -n)&&!decide (x>n)
theorem kb7(n x:Int):smb n x=true↔Sm n x:=by unfold smb Sm;simp only[Qid,Qiz,decide_eq_false_iff_not];omega
theorem tc5(n:Int)(l:List Int)(hn:0<=n/\n<=1000000000)(hl:l.length<=1000000000):oa7 n l=some (b (l.all (smb n)),[]):=by
 have hW:W (0-n)=-n:=by rw[aa0 (by omega) (by omega)];omega
 have h:=Md0 (step:=ca6 ⟨n,l,(l.length:Int)⟩) (mk:=λj=>(⟨(j:Int)⟩:G7)) (c:=λx=>!smb n x) (u:=1) (fin:=2) tI l hl
  (λj hj=>by
   simp only[ca6,Z5,Int.toNat_natCast,C0 hj (by omega),hW]
   rw[bt (sc7 hj),bt (i6 hj)];unfold smb;cases decide (gL tI l j < -n)<;>cases decide (gL tI l j>n)<;>rfl)
  (by simp only[ca6,Z5];rw[bf (Ob1 (Qiw _))]) 0 (Nat.zero_le _)
 rw[Qiam] at h;unfold oa7;simp only[o6,l9];rw[show (⟨0⟩:G7)=⟨((0:Nat):Int)⟩ from rfl,h]
 have e:(l.any λx=>!smb n x)=!l.all (smb n):=by rw[List.not_all_eq_any_not]
 rw[e];cases l.all (smb n)<;>rfl
theorem Xb5(n:Int)(l:List Int)(hn:0<=n/\n<=1000000000)(hl:l.length<=1000000000):ga7 n l=l.all (smb n):=by unfold ga7;rw[tc5 n l hn hl];rfl
theorem Xb6(n:Int)(l:List Int)(hn:0<=n/\n<=1000000000)(hl:l.length<=1000000000):ga8 n l=true:=by unfold ga8;rw[tc5 n l hn hl];rfl
theorem Zc8{n:Int}(h:Sm 1000000000000000000 n):ra9 n=(n.natAbs:Int):=by
 unfold ra9;obtain⟨h1,h2⟩:=h;rw[aa0 (by omega) (by omega)]
 split<;>omega
theorem Pb0{n:Int}(h:Sm 1000000000000000000 n):oa3 n=some (i (n.natAbs:Int),[]):=by
 unfold oa3;obtain⟨h1,h2⟩:=h;rw[aa0 (by omega) (by omega)]
 by_cases h:n<0
 ·rw[bt (decide_eq_true h)];congr 3;omega
 ·rw[bf (decide_eq_false h)];congr 3;omega
theorem ub0{n:Int}(h:Sm 1000000000000000000 n):ga4 n=(n.natAbs:Int):=by unfold ga4;rw[Pb0 h];rfl
theorem ub1{n:Int}(h:Sm 1000000000000000000 n):ga5 n=true:=by unfold ga5;rw[Pb0 h];rfl
def g3(v:V3):Int:=(Nat.gcd (Nat.gcd v.x.natAbs v.y.natAbs) v.z.natAbs:Nat)
theorem Md4(g n:Nat):eu (g:Int) (n:Int)=(Nat.gcd g n:Nat):=by rw[qe8 (by omega) (by omega)];rfl
theorem Ac9(P:T0)(g n:Nat)(hn:n<=1000000000000000000):lp (P4 P) ⟨(g:Int),(n:Int)⟩=(1,⟨(Nat.gcd g n:Nat),0⟩):=by
 have:=bc9 (step:=P4 P) (mk:=λg n=>(⟨g,n⟩:I9)) (λg n h=>by
  have h0:n≠0:=by omega
  simp[P4,V9,Gb2,h,h0]) (λg=>by simp[P4,V9,Gb2]) (g:Int) (n:Int) (by omega) (by omega) (by omega)
 rw[this,Md4]
theorem tc6(l:List Int)(hl:l.length<=1000000000)(hb:∀x∈l,Sm 1000000000000000000 x):ja7 l=some (i (l.foldl (λg x=>Nat.gcd g x.natAbs) 0:Nat),[]):=by
 have h := be8 (step := Z6 ⟨(l.length : Int)⟩) (mk := fun j (a : Nat) => (⟨(a : Int), l, (j : Int)⟩ : C6)) (f := fun g x => Nat.gcd g x.natAbs) (fin := 2) tI l (fun _ _ => True) hl (fun j a hj _ => ⟨by
   have hm:=hb _ (Ba8 tI hj);have hne:(gL tI l j==(-9223372036854775808:Int))=false:=by
    have:=hm.1
    rw[beq_eq_false_iff_ne];omega
   have hs:(gL tI l j).natAbs<=1000000000000000000:=by obtain⟨h1,h2⟩:=hm;omega
   simp only[Z6,W0,Int.toNat_natCast,o6,l9,Zc8 hm,Ac9 _ _ _ hs,C0 hj (by omega)]
   rw[bt (sc7 hj),bt (i6 hj),bf hne]
   rfl,trivial⟩) (λa _=>by simp only[Z6,W0];rw[bf (Ob1 (Qiw _))]) 0 (Nat.zero_le _) 0 trivial
 have h:=h.1;rw[Qiam] at h;unfold ja7;simp only[o6,l9];rw[show (⟨0,l,0⟩:C6)=⟨((0:Nat):Int),l,((0:Nat):Int)⟩ from rfl,h]
 rfl
def okp(p:Pln):Bool:=[p.n.x,p.n.y,p.n.z].all (smb 4608)&&(g3 p.n==1&&[p.b].all (smb 2097152))
theorem re5(p:Pln):Bd p↔[p.n.x,p.n.y,p.n.z].all (smb 4608)=true/\[p.b].all (smb 2097152)=true:=by
 simp only[List.all_cons,List.all_nil,Qig,Qid,kb7,Sm];exact⟨λh=>⟨⟨⟨h.x1,h.x2⟩,⟨h.y1,h.y2⟩,h.z1,h.z2⟩,h.b1,h.b2⟩,λ⟨⟨⟨a,b⟩,⟨c,d⟩,e,f⟩,g,h⟩=>⟨a,b,c,d,e,f,g,h⟩⟩
theorem Hb8{p:Pln}(h:okp p=true):Bd p:=by
 unfold okp at h;rw[Qid,Qid] at h;exact (re5 p).2 ⟨h.1,h.2.2⟩
theorem sm3{v:V3}(h:[v.x,v.y,v.z].all (smb 4608)=true):Sm 4608 v.x/\Sm 4608 v.y/\Sm 4608 v.z:=by
 simpa only[List.all_cons,List.all_nil,Qig,Qid,kb7] using h
theorem Zc9(p:Pln):ta8 p=some (b (okp p),[]):=by
 unfold ta8 okp;have l3:[p.n.x,p.n.y,p.n.z].length<=1000000000:=by simp
 have l1:[p.b].length<=1000000000:=by simp
 simp only[Xb5 4608 _ (by omega) l3,Xb6 4608 _ (by omega) l3,Xb5 2097152 _ (by omega) l1,Xb6 2097152 _ (by omega) l1]
 cases hw:[p.n.x,p.n.y,p.n.z].all (smb 4608) with
 |false=>rfl
 |true =>
  obtain⟨h1,h2,h3⟩:=sm3 hw;have hd:=tc6 [p.n.x,p.n.y,p.n.z] l3 (by
   intro x hx;simp only[Qia,Qiaa,or_false] at hx
   rcases hx with rfl|rfl|rfl
   ·exact h1.mono (by omega)
   ·exact h2.mono (by omega)
   ·exact h3.mono (by omega))
  have hg:([p.n.x,p.n.y,p.n.z].foldl (λg x=>Nat.gcd g x.natAbs) 0:Nat)=Nat.gcd (Nat.gcd p.n.x.natAbs p.n.y.natAbs) p.n.z.natAbs:=by
   simp only[List.foldl_cons,List.foldl_nil,Nat.gcd_zero_left]
  have hp:V2 [p.n.x,p.n.y,p.n.z]=g3 p.n:=by unfold V2;rw[hd,hg];rfl
  have hgd:V4 [p.n.x,p.n.y,p.n.z]=true:=by unfold V4;rw[hd];rfl
  rw[hp,hgd];cases g3 p.n==1<;>rfl
theorem ce4(p:Pln):Ga6 p=okp p:=by unfold Ga6;rw[Zc9 p];rfl
theorem ce5(p:Pln):Ga7 p=true:=by unfold Ga7;rw[Zc9 p];rfl
theorem Xb7(P:ca5)(g n:Nat)(hn:n<=1000000000000000000):lp (Y0 P) ⟨(g:Int),(n:Int)⟩=(1,⟨(Nat.gcd g n:Nat),0⟩):=by
 have:=bc9 (step:=Y0 P) (mk:=λg n=>(⟨g,n⟩:L8)) (λg n h=>by
  have h0:n≠0:=by omega
  simp[Y0,oa4,Gb2,h,h0]) (λg=>by simp[Y0,oa4,Gb2]) (g:Int) (n:Int) (by omega) (by omega) (by omega)
 rw[this,Md4]
theorem Pc0 {v : V3} (h1 : Sm 1000000000000000000 v.x) (h2 : Sm 1000000000000000000 v.y) (h3 : Sm 1000000000000000000 v.z) :
  Sa9 v=if g3 v=0 then some (.tup [.agg (tV.row ⟨0,0,0⟩),i 0],[]) else some (.tup [.agg (tV.row ⟨W (Int.tdiv v.x (g3 v)),W (Int.tdiv v.y (g3 v)),W (Int.tdiv v.z (g3 v))⟩),i (g3 v)],[]):=by
 have ne:∀{x:Int},Sm 1000000000000000000 x->(x==(-9223372036854775808:Int))=false:=λ{x} h=>by
  have:=h.1
  rw[beq_eq_false_iff_ne];omega
 have bd:∀{x:Int},Sm 1000000000000000000 x->x.natAbs<=1000000000000000000:=λ{x} h=>by obtain⟨h1,h2⟩:=h;omega
 have l1:=Xb7 ⟨0,v.x,v.y,v.z,v.x,v.y,v.z⟩ 0 v.x.natAbs (bd h1);rw[Nat.gcd_zero_left] at l1;have l2:=Xb7 ⟨1,v.x,v.y,v.z,v.x,v.y,v.z⟩ v.x.natAbs v.y.natAbs (bd h2);have l3:=Xb7 ⟨2,v.x,v.y,v.z,v.x,v.y,v.z⟩ (Nat.gcd v.x.natAbs v.y.natAbs) v.z.natAbs (bd h3);unfold Sa9;simp only[ub0 h1,ub0 h2,ub0 h3,ub1 h1,ub1 h2,ub1 h3];rw[show (⟨0,(v.x.natAbs:Int)⟩:L8)=⟨((0:Nat):Int),(v.x.natAbs:Int)⟩ from rfl]
 simp only[l1,l2,l3,ne h1,ne h2,ne h3];rw[show ((Nat.gcd (Nat.gcd v.x.natAbs v.y.natAbs) v.z.natAbs:Nat):Int)=g3 v from rfl]
 by_cases h:g3 v=0
 ·rw[if_pos h,show (g3 v==0)=true from by rw[h];rfl];rfl
 ·rw[if_neg h,show (g3 v==0)=false from by rw[beq_eq_false_iff_ne];exact h];rfl
theorem tc7{v:V3}(h1:Sm 1000000000000000000 v.x)(h2:Sm 1000000000000000000 v.y)(h3:Sm 1000000000000000000 v.z):(xa3 v).2=g3 v:=by
 unfold xa3;rw[Pc0 h1 h2 h3];split
 ·rename_i h;rw[h];rfl
 ·rfl
theorem re6{v:V3}(h1:Sm 1000000000000000000 v.x)(h2:Sm 1000000000000000000 v.y)(h3:Sm 1000000000000000000 v.z)(h:g3 v≠0):xa3 v=(⟨W (Int.tdiv v.x (g3 v)),W (Int.tdiv v.y (g3 v)),W (Int.tdiv v.z (g3 v))⟩,g3 v):=by
 unfold xa3;rw[Pc0 h1 h2 h3,if_neg h];rfl
theorem Md5{v:V3}(h1:Sm 1000000000000000000 v.x)(h2:Sm 1000000000000000000 v.y)(h3:Sm 1000000000000000000 v.z):Ta0 v=true:=by
 unfold Ta0;rw[Pc0 h1 h2 h3]
 split<;>rfl
theorem Gc6(p:Pln):Ia6 p=some (b (okp p),[]):=by
 unfold Ia6 okp;cases hw:[p.n.x,p.n.y,p.n.z].all (smb 4608) with
 |false =>
  simp only[List.all_cons,List.all_nil,Qig,smb] at hw;cases h1:decide (p.n.x < -4608)<;>cases h2:decide (p.n.x>4608)<;>cases h3:decide (p.n.y < -4608)<;>cases h4:decide (p.n.y>4608)<;>cases h5:decide (p.n.z < -4608)<;>cases h6:decide (p.n.z>4608)<;>simp only[h1,h2,h3,h4,h5,h6] at hw ⊢<;>first | rfl | cases hw
 |true =>
  obtain⟨h1,h2,h3⟩:=sm3 hw;rw[bf (decide_eq_false (by have:=h1.1;omega)),bf (decide_eq_false (by have:=h1.2;omega)),bf (decide_eq_false (by have:=h2.1;omega)),bf (decide_eq_false (by have:=h2.2;omega)),bf (decide_eq_false (by have:=h3.1;omega)),bf (decide_eq_false (by have:=h3.2;omega))]
  have k1:=h1.mono (m:=1000000000000000000) (by omega)
  have k2:=h2.mono (m:=1000000000000000000) (by omega)
  have k3:=h3.mono (m:=1000000000000000000) (by omega)
  rw[bt (Md5 k1 k2 k3),tc7 k1 k2 k3];cases g3 p.n==1 with
  |false=>rfl
  |true =>
   simp only[List.all_cons,List.all_nil,Qig,smb,Bool.true_and];rw[w6];by_cases ha:p.b < -2097152
   ·rw[bf (decide_eq_false (by omega)),show decide (p.b < -2097152)=true from decide_eq_true ha];rfl
   ·rw[bt (decide_eq_true (by omega)),show decide (p.b < -2097152)=false from decide_eq_false ha]
    congr 3;by_cases hc:p.b<=2097152
    ·rw[decide_eq_true hc,decide_eq_false (by omega)];rfl
    ·rw[decide_eq_false hc,decide_eq_true (by omega)];rfl
theorem Md6(p:Pln):Za1 p=okp p:=by unfold Za1;rw[Gc6 p];rfl
theorem ad1(p:Pln):Za2 p=true:=by unfold Za2;rw[Gc6 p];rfl
def chk(l:List Pln):Int:=if (l.length:Int)>48 then 2 else if l.all okp then 0 else 12
theorem tc8{l:List Pln}:chk l=0↔l.length<=48/\∀p∈l,okp p=true:=by
 unfold chk;by_cases hn:(l.length:Int)>48
 ·rw[if_pos hn];exact⟨λh=>absurd h (by decide),λh=>by omega⟩
 ·rw[if_neg hn];cases h:l.all okp with
  |true=>exact⟨λ_=>⟨by omega,Qio.1 h⟩,λ_=>rfl⟩
  |false=>exact⟨λh=>absurd h (by decide),λh'=>by rw[Qio.2 h'.2] at h;cases h⟩
theorem btD{p:Prop}{inst:Decidable p}(h:p){α:Type}(t e:α):sl (@decide p inst) t e=t:=bt (decide_eq_true h) t e
theorem bfD{p:Prop}{inst:Decidable p}(h:¬ p){α:Type}(t e:α):sl (@decide p inst) t e=e:=bf (decide_eq_false h) t e
theorem o5{j n:Nat}(h:j<n):(j:Int)<(n:Int):=Int.ofNat_lt.2 h
theorem u9{j n:Nat}(h:¬ j<n):¬ (j:Int)<(n:Int):=λh'=>h (Int.ofNat_lt.1 h')
noncomputable def Pb1(r:List Pln)(p q:Pln)(out:List Pt)(s:Pln):List Pt :=
 if (mpt p q s).2&&(!ce3 out (mpt p q s).1&&inn r (mpt p q s).1) then out++[(mpt p q s).1] else out
noncomputable def Bd5(r:List Pln)(p q:Pln)(l:List Pln)(out:List Pt):List Pt:=l.foldl (Pb1 r p q) out
noncomputable def ad2(r:List Pln)(p:Pln):List Pln->List Pt->List Pt
 |[],out=>out
 |q::l,out=>ad2 r p l (Bd5 r p q l out)
noncomputable def md0(r:List Pln):List Pln->List Pt->List Pt
 |[],out=>out
 |p::l,out=>md0 r l (ad2 r p l out)
noncomputable def cor(r:List Pln):List Pt:=md0 r r []
def Bds(r:List Pln):Prop:=∀p∈r,Bd p
noncomputable def ph(out:List Pt):Nat:=match out with
 |[]=>0
 |_::_=>1
theorem sd2{α:Type}(t:Ty α)(l:List α)(n k:Nat):gL t (l.drop n) k=gL t l (n+k):=by simp[gL,Qiah,List.getElem?_drop]
theorem Gc7{ρ:Type}(R:RR ρ){x:b7×List c8}{r:ρ}(h:R.rd x=some r):V1 R (some x)=r:=by
 show Option.rec (motive:=λ_=>ρ) R.d (λx=>x) (R.rd x)=r
 rw[h]
theorem ad3{ρ:Type}(R:RR ρ){x:b7×List c8}{r:ρ}(h:R.rd x=some r):okO R (some x)=true:=by
 show Option.rec (motive:=λ_=>Bool) false (λ_=>true) (R.rd x)=true
 rw[h]
@[reducible] noncomputable def flK:List (Nat×CK):=[(0,.int .i64),(1,.int .i64),(2,.int .i64),(3,.int .i64)]
theorem re7(s:Pln):((Nat.ble 4 (len (tP.row s)))&&(na5 [CK.int .i64,CK.int .i64,CK.int .i64,CK.int .i64] (tP.row s)))=true:=rfl
noncomputable def ws:List Pln:=[⟨⟨1,0,0⟩,24⟩,⟨⟨-1,0,0⟩,24⟩,⟨⟨0,1,0⟩,24⟩,⟨⟨0,-1,0⟩,24⟩,⟨⟨0,0,1⟩,24⟩,⟨⟨0,0,-1⟩,24⟩]
theorem Ae6:Bds ws:=by
 intro p hp
 have:okp p=true:=by
  have h:ws.all okp=true:=by decide
  exact Qio.1 h p hp
 exact Hb8 this
noncomputable def pos(X:List Pt)(p:Pln):Bool:=X.any λx=>decide (rm p x>0)
noncomputable def ce6(r:List Pln):Bool:=r.all (pos (cor r))
theorem ce7{c:List Pln}(h:(chk c==0)=true):Bds (c++ws)/\(c++ws).length<=200:=by
 rw[beq_iff_eq,tc8] at h;refine⟨λp hp=>?_,by rw[List.length_append,show ws.length=6 from rfl];omega⟩
 rcases List.mem_append.1 hp with hp|hp
 ·exact Hb8 (h.2 p hp)
 ·exact Ae6 p hp
noncomputable def pts(c:List Pln):List Pt:=if chk c==0 then cor (c++ws) else []
noncomputable def ful(c:List Pln):Bool:=(chk c==0)&&ce6 (c++ws)
theorem ad4{Q:Pt->Prop}(r:List Pln)(p q:Pln):∀(l:List Pln) (out:List Pt),(∀s∈l,(mpt p q s).2=true->inn r (mpt p q s).1=true->Q (mpt p q s).1)->(∀x∈out,Q x)->∀x∈Bd5 r p q l out,Q x
 |[],out,_,h=>h
 |s::l,out,hs,h=>ad4 r p q l (Pb1 r p q out s) (λt ht=>hs t (Qib _ ht)) λx hx=>by
  unfold Pb1 at hx
  split at hx
  ·rename_i hc;rw[Qid,Qid] at hc
   rcases List.mem_append.1 hx with hx|hx
   ·exact h x hx
   ·rw[List.mem_singleton] at hx;subst hx;exact hs s Qic hc.1 hc.2.2
  ·exact h x hx
theorem ad5{Q:Pt->Prop}(r:List Pln)(p:Pln):∀(l:List Pln) (out:List Pt),(∀q∈l,∀s∈l,(mpt p q s).2=true->inn r (mpt p q s).1=true->Q (mpt p q s).1)->(∀x∈out,Q x)->∀x∈ad2 r p l out,Q x
 |[],out,_,h=>h
 |q::l,out,hs,h=>ad5 r p l _ (λa ha t ht=>hs a (Qib _ ha) t (Qib _ ht)) (ad4 r p q l out (λt ht=>hs q Qic t (Qib _ ht)) h)
theorem ad6{Q:Pt->Prop}(r:List Pln):∀(l:List Pln) (out:List Pt),(∀p∈l,∀q∈l,∀s∈l,(mpt p q s).2=true->inn r (mpt p q s).1=true->Q (mpt p q s).1)->(∀x∈out,Q x)->∀x∈md0 r l out,Q x
 |[],out,_,h=>h
 |p::l,out,hs,h=>ad6 r l _ (λa ha c hc t ht=>hs a (Qib _ ha) c (Qib _ hc) t (Qib _ ht)) (ad5 r p l out (λc hc t ht=>hs p Qic c (Qib _ hc) t (Qib _ ht)) h)
theorem sd3{Q:Pt->Prop}{r:List Pln}(hs:∀p∈r,∀q∈r,∀s∈r,(mpt p q s).2=true->inn r (mpt p q s).1=true->Q (mpt p q s).1):∀x∈cor r,Q x :=
 ad6 r r [] hs λx hx=>by cases hx
structure Okx(x:Pt):Prop where
 w1:0<x.pw
 w2:x.pw<=600000000000
 c1:Sm 300000000000000 x.px
 c2:Sm 300000000000000 x.py
 c3:Sm 300000000000000 x.pz
theorem Pc1{r:List Pln}(hb:Bds r):∀x∈cor r,Okx x:=sd3 λp hp q hq s hs h _=>by
 obtain⟨h1,h2,h3,h4,h5⟩:=ld9 (hb p hp) (hb q hq) (hb s hs) h;exact⟨h1,h5,h2,h3,h4⟩
theorem ad7{x y:Int}(hy:0<y):Int.tmod x y+y*Int.tdiv x y=x/\-y<Int.tmod x y/\Int.tmod x y<y:=by
 refine⟨Int.tmod_add_mul_tdiv x y,?_,Int.tmod_lt_of_pos x hy⟩
 have:=Int.lt_tmod_of_pos x hy
 omega
theorem Md7(x:Int){y:Int}(hy:0<y)(hy2:y<=4000000000000000000):eb9 x y=some (i (x % y),[]):=by
 have hz:(y==0)=false:=by rw[beq_eq_false_iff_ne];omega
 obtain⟨h1,h2,h3⟩:=ad7 (x:=x) hy;unfold eb9;rw[bfD (by omega),bf hz,bf hz,aa0 (by omega) (by omega),Int.tmod_eq_emod_of_nonneg (by omega)]
 congr 3;rw[Int.add_emod_right]
 conv=>rhs;rw[<- h1]
 rw[Int.add_mul_emod_self_left]
theorem Ae7(x:Int){y:Int}(hy:0<y)(hy2:y<=4000000000000000000):xb7 x y=x % y:=by unfold xb7;rw[Md7 x hy hy2];rfl
theorem Ae8(x:Int){y:Int}(hy:0<y)(hy2:y<=4000000000000000000):xb8 x y=true:=by unfold xb8;rw[Md7 x hy hy2];rfl
theorem Sm.neg{n x:Int}(h:Sm n x):Sm n (-x):=⟨by have:=h.2;omega,by have:=h.1;omega⟩
def Nx{σ:Type}(x:Stp σ)(E:Nat->Prop)(N:σ->Prop):Prop:=(∃t,x=.exit t/\E t)\/∃s,x=.next s/\N s
theorem Nx.sl{σ:Type}{c:Bool}{t e:Stp σ}{E:Nat->Prop}{N:σ->Prop}(h1:c=true->Nx t E N)(h2:c=false->Nx e E N):Nx (sl c t e) E N:=by cases c;exact h2 rfl;exact h1 rfl
theorem Nx.ex{σ:Type}{t:Nat}{E:Nat->Prop}{N:σ->Prop}(h:E t):Nx (.exit t) E N:=.inl ⟨t,rfl,h⟩
theorem Nx.nx{σ:Type}{s:σ}{E:Nat->Prop}{N:σ->Prop}(h:N s):Nx (.next s) E N:=.inr ⟨s,rfl,h⟩
theorem R6 {σ τ : Type} {step : σ → Stp σ} {mk : Nat → τ → σ} (n : Nat) (I : Nat → τ → Prop) (E : Nat → σ → Prop) (hn : n ≤ 1000000000)
  (h:∀j a,j<n->I j a->Nx (step (mk j a)) (λt=>E t (mk j a)) (λs=>∃a',s=mk (j+1) a'/\I (j+1) a'))
  (hf:∀j a,n<=j->I j a->∃t,step (mk j a)=.exit t/\E t (mk j a)) (j0:Nat) (a:τ) (hi:I j0 a):∃t s,lp step (mk j0 a)=(t,s)/\E t s:=by
 have key:=Vb9 (step:=step) (I:=λm s=>∃j a,m=n-j/\s=mk j a/\I j a) (Q:=E) (λm s ⟨j,a,hm,hs,ha⟩=>by
  subst hs;by_cases hlt:j<n
  ·rcases h j a hlt ha with h1|⟨s',h1,a',h2,h3⟩
   ·exact .inl h1
   ·subst h2;exact .inr ⟨_,n-(j+1),by omega,h1,j+1,a',rfl,rfl,h3⟩
  ·exact .inl (hf j a (by omega) ha)) (n-j0) (mk j0 a) (by omega) ⟨j0,a,rfl,rfl,hi⟩
 exact⟨_,_,rfl,key⟩
def Rd{ρ:Type}(R:RR ρ)(o:Option (b7×List c8))(P:ρ->Prop):Prop:=∃x r,o=some x/\R.rd x=some r/\P r
theorem Rd.p{ρ:Type}{R:RR ρ}{o:Option (b7×List c8)}{P:ρ->Prop}(h:Rd R o P):P (V1 R o):=by
 obtain⟨x,r,h1,h2,h3⟩:=h;rw[h1,Gc7 R h2];exact h3
theorem Rd.g{ρ:Type}{R:RR ρ}{o:Option (b7×List c8)}{P:ρ->Prop}(h:Rd R o P):okO R o=true:=by
 obtain⟨x,r,h1,h2,h3⟩:=h;rw[h1];exact ad3 R h2
theorem Rd.sl{ρ:Type}{R:RR ρ}{c:Bool}{t e:Option (b7×List c8)}{P:ρ->Prop}(h1:c=true->Rd R t P)(h2:c=false->Rd R e P):Rd R (sl c t e) P:=by cases c;exact h2 rfl;exact h1 rfl
theorem Ha6 (n : Int) (l : List Int) (j : Int) (h1 : 0 ≤ j) (h2 : j ≤ 1000000) (hn : 0 < n) (hn2 : n ≤ 1000000) :
  ∃v j',y6 ⟨n,l,j⟩=⟨1,v,j'⟩/\0<=v/\v<n/\j<=j'/\j'<=j+1:=by
 unfold y6 ba8
 simp only
 by_cases h:j>=(l.length:Int)
 ·rw[btD h];exact⟨0,j,rfl,by omega,hn,by omega,by omega⟩
 ·rw[bfD h];have hW:W (W (j+1)-1)=j:=by rw[Oc8,aa0 (by omega) (by omega)];omega
  have hW2:W (j+1)=j+1:=aa0 (by omega) (by omega)
  have hin:inB j l.length=true:=by rw[be6];exact decide_eq_true (by omega)
  rw[hW,hW2,hin,Ae8 _ hn (by omega),Ae7 _ hn (by omega)]
  exact⟨_,_,rfl,Int.emod_nonneg _ (by omega),Int.emod_lt_of_pos _ hn,by omega,by omega⟩
def inV(v:V3):Bool:=smb 24 v.x&&(smb 24 v.y&&smb 24 v.z)
theorem sa8(v:V3):inV v=true↔Sm 24 v.x/\Sm 24 v.y/\Sm 24 v.z:=by unfold inV;rw[Qid,Qid,kb7,kb7,kb7]
theorem Md8(v:V3):sb8 v=some (b (inV v),[]):=by
 unfold sb8 inV smb;cases h1:decide (v.x < -24)<;>cases h2:decide (v.x>24)<;>cases h3:decide (v.y < -24)<;>cases h4:decide (v.y>24)<;>cases h5:decide (v.z < -24)<;>cases h6:decide (v.z>24)<;>rfl
theorem ke4(v:V3):Ta6 v=inV v:=by unfold Ta6;rw[Md8];rfl
theorem Md9(v:V3):Ta7 v=true:=by unfold Ta7;rw[Md8];rfl
def sub(a b:V3):V3:=⟨a.x-b.x,a.y-b.y,a.z-b.z⟩
theorem sd4{a b:V3}(ha:inV a=true)(hb:inV b=true):Fa1 a b=sub a b/\Sm 48 (sub a b).x/\Sm 48 (sub a b).y/\Sm 48 (sub a b).z:=by
 rw[sa8] at ha hb;obtain⟨⟨a1,a2⟩,⟨a3,a4⟩,a5,a6⟩:=ha;obtain⟨⟨b1,b2⟩,⟨b3,b4⟩,b5,b6⟩:=hb;unfold Fa1 sub;rw[aa0 (by omega) (by omega),aa0 (by omega) (by omega),aa0 (by omega) (by omega)]
 exact⟨rfl,⟨by show _<=a.x-b.x;omega,by show a.x-b.x<=_;omega⟩,⟨by show _<=a.y-b.y;omega,by show a.y-b.y<=_;omega⟩,⟨by show _<=a.z-b.z;omega,by show a.z-b.z<=_;omega⟩⟩
theorem db2 {a b c : V3} (ha : inV a = true) (hb : inV b = true) (hc : inV c = true) :
  Ia5 (Fa1 b a) (Fa1 c a)=c7 (sub b a) (sub c a)/\Sm 4608 (c7 (sub b a) (sub c a)).x/\Sm 4608 (c7 (sub b a) (sub c a)).y/\Sm 4608 (c7 (sub b a) (sub c a)).z:=by
 obtain⟨e1,⟨u1,u2⟩,⟨u3,u4⟩,u5,u6⟩:=sd4 hb ha;obtain⟨e2,⟨v1,v2⟩,⟨v3,v4⟩,v5,v6⟩:=sd4 hc ha;rw[e1,e2,ce2];generalize sub b a=p at *
 generalize sub c a=q at *
 have h1:=mb u3 u4 v5 v6;have h2:=mb u5 u6 v3 v4;have h3:=mb u5 u6 v1 v2;have h4:=mb u1 u2 v5 v6;have h5:=mb u1 u2 v3 v4;have h6:=mb u3 u4 v1 v2;have k:Sm 4608 (c7 p q).x/\Sm 4608 (c7 p q).y/\Sm 4608 (c7 p q).z:=by unfold Sm c7;simp only;omega
 obtain⟨k1,k2,k3⟩:=k;rw[ob5 (k1.mono (by omega)),ob5 (k2.mono (by omega)),ob5 (k3.mono (by omega))]
 exact⟨rfl,k1,k2,k3⟩
def A8(a b c:V3):Pln×Bool :=
 if inV a&&(inV b&&inV c) then
  if g3 (c7 (sub b a) (sub c a))=0 then (⟨⟨0,0,0⟩,0⟩,false)
  else (⟨⟨Int.tdiv (c7 (sub b a) (sub c a)).x (g3 (c7 (sub b a) (sub c a))),Int.tdiv (c7 (sub b a) (sub c a)).y (g3 (c7 (sub b a) (sub c a))),Int.tdiv (c7 (sub b a) (sub c a)).z (g3 (c7 (sub b a) (sub c a)))⟩,
   dot ⟨Int.tdiv (c7 (sub b a) (sub c a)).x (g3 (c7 (sub b a) (sub c a))),Int.tdiv (c7 (sub b a) (sub c a)).y (g3 (c7 (sub b a) (sub c a))),Int.tdiv (c7 (sub b a) (sub c a)).z (g3 (c7 (sub b a) (sub c a)))⟩ a⟩,true)
 else (⟨⟨0,0,0⟩,0⟩,false)
theorem yb1(v:V3):0<=g3 v:=by unfold g3;omega
theorem tc9(a c d:V3):ua0 a c d=some (.tup [.agg (tP.row (A8 a c d).1),b (A8 a c d).2],[]):=by
 unfold ua0 A8;simp only[ke4,Md9];cases ha:inV a with
 |false=>rfl
 |true =>
  cases hc:inV c with
  |false=>rfl
  |true =>
   cases hd:inV d with
   |false=>rfl
   |true =>
    obtain⟨e,k1,k2,k3⟩:=db2 ha hc hd;rw[e];generalize c7 (sub c a) (sub d a)=n at *
    have m1:=k1.mono (m:=1000000000000000000) (by omega)
    have m2:=k2.mono (m:=1000000000000000000) (by omega)
    have m3:=k3.mono (m:=1000000000000000000) (by omega)
    rw[Md5 m1 m2 m3,tc7 m1 m2 m3];by_cases h0:g3 n=0
    ·rw[show (g3 n==0)=true from by rw[h0];rfl]
     simp only[Qip,if_true,h0];rfl
    ·have hp:=yb1 n;have q1:=da3 (g:=g3 n) k1 (by omega)
     have q2:=da3 (g:=g3 n) k2 (by omega)
     have q3:=da3 (g:=g3 n) k3 (by omega)
     rw[show (g3 n==0)=false from by rw[beq_eq_false_iff_ne];exact h0,re6 m1 m2 m3 h0]
     simp only[Qip,if_true,h0,if_false];rw[ob5 (q1.mono (by omega)),ob5 (q2.mono (by omega)),ob5 (q3.mono (by omega))]
     have hdot:Ea6 ⟨Int.tdiv n.x (g3 n),Int.tdiv n.y (g3 n),Int.tdiv n.z (g3 n)⟩ a=dot ⟨Int.tdiv n.x (g3 n),Int.tdiv n.y (g3 n),Int.tdiv n.z (g3 n)⟩ a:=by
      unfold Ea6;simp only[Hb4,Vb8];obtain⟨⟨a1,a2⟩,⟨a3,a4⟩,a5,a6⟩:=(sa8 a).1 ha;have r1:=mb q1.1 q1.2 a1 a2;have r2:=mb q2.1 q2.2 a3 a4;have r3:=mb q3.1 q3.2 a5 a6;rw[aa0 (by omega) (by omega)]
      rfl
     rw[hdot];rfl
theorem Bd6(a b c:V3):Ga8 a b c=A8 a b c:=by unfold Ga8;rw[tc9];rfl
theorem Gc8(a b c:V3):Ga9 a b c=true:=by unfold Ga9;rw[tc9];rfl
theorem ce8(p:Pln)(v:V3):Rd (one r1I) (xa4 p v) (λ_=>True):=by
 unfold xa4;simp only[ad1,Md9,w6];exact Rd.sl (λ_=>⟨_,_,rfl,rfl,trivial⟩) λ_=>Rd.sl (λ_=>⟨_,_,rfl,rfl,trivial⟩) λ_=>Rd.sl (λ_=>⟨_,_,rfl,rfl,trivial⟩) λ_=>Rd.sl (λ_=>⟨_,_,rfl,rfl,trivial⟩) λ_=>⟨_,_,rfl,rfl,trivial⟩
theorem Pc2(p:Pln)(v:V3):Ta8 p v=true:=(ce8 p v).g
theorem Ae9(P:ia4)(hl:P.j5.length<=1000000000):∃t s,lp (v7 P) ⟨0⟩=(t,s)/\(t=1\/t=2\/t=3):=by
 obtain⟨l,x1,x2,x3,x4,x5,x6,x7,x8⟩:=P;refine R6 (step:=v7 ⟨l,x1,x2,x3,x4,x5,x6,x7,x8⟩) (mk:=λj (_:Unit)=>(⟨(j:Int)⟩:W7)) l.length (λ_ _=>True) (λt _=>t=1\/t=2\/t=3) hl (λj a hj _=>?_) (λj a hj _=>?_) 0 () trivial
 ·simp only[v7,S3,Pc2,Int.toNat_natCast,C0 hj (show l.length<=4611686018427387904 from Nat.le_trans hl (by omega))]
  rw[btD (o5 hj),bt (i6 hj),w6];exact Nx.sl (λ_=>Nx.sl (λ_=>.ex (by simp)) λ_=>.nx ⟨(),rfl,trivial⟩) λ_=>.ex (by simp)
 ·simp only[v7,S3];rw[bfD (by omega)]
  exact⟨_,rfl,by simp⟩
theorem Be0(l:List V3)(hl:l.length<=1000000000)(a c:Nat)(ha:a<l.length)(hc:c<a):∃t s,lp (L5 ⟨(a:Int),(c:Int)⟩) ⟨l,0⟩=(t,s)/\((t=1\/t=2)/\s.j5=l):=by
 refine R6 (step:=L5 ⟨(a:Int),(c:Int)⟩) (mk:=λj (_:Unit)=>(⟨l,(j:Int)⟩:W8)) c (λ_ _=>True) (λt s=>(t=1\/t=2)/\s.j5=l) (by omega) (λj x hj _=>?_) (λj x hj _=>?_) 0 () trivial
 ·simp only[L5,Z7,Gc8,Int.toNat_natCast,o6,l9,C0 hj (show c<=4611686018427387904 by omega)]
  rw[btD (o5 hj),bt (i6 ha),bt (i6 (show c<l.length by omega)),bt (i6 (show j<l.length by omega)),w6]
  generalize hP:ia4.mk _ _ _ _ _ _ _ _ _=P3;obtain⟨t,s,h1,h2⟩:=Ae9 P3 (by subst hP;exact hl)
  rw[h1]
  rcases h2 with rfl|rfl|rfl
  ·exact .ex (by simp)
  ·exact .nx ⟨(),rfl,trivial⟩
  ·exact .nx ⟨(),rfl,trivial⟩
 ·simp only[L5,Z7];rw[bfD (by omega)]
  exact⟨_,rfl,by simp⟩
theorem Be1(l:List V3)(hl:l.length<=1000000000)(a:Nat)(ha:a<l.length):∃t s,lp (L6 ⟨(a:Int)⟩) ⟨l,0⟩=(t,s)/\((t=1\/t=2)/\s.j5=l):=by
 refine R6 (step:=L6 ⟨(a:Int)⟩) (mk:=λj (_:Unit)=>(⟨l,(j:Int)⟩:W9)) a (λ_ _=>True) (λt s=>(t=1\/t=2)/\s.j5=l) (by omega) (λj x hj _=>?_) (λj x hj _=>?_) 0 () trivial
 ·simp only[L6,Z8,o6,l9,C0 hj (show a<=4611686018427387904 by omega)]
  obtain⟨t,s,h1,h2,h3⟩:=Be0 l hl a j ha hj;rw[btD (o5 hj),h1]
  rcases h2 with rfl|rfl
  ·exact .ex (by simp)
  ·exact .nx ⟨(),by rw[h3],trivial⟩
 ·simp only[L6,Z8];rw[bfD (by omega)]
  exact⟨_,rfl,by simp⟩
theorem Ya3(l:List V3)(hl:l.length<=1000000000):Rd (one r1B) (xa5 l) (λ_=>True):=by
 have key:∃t s,lp (L7 ⟨⟩) ⟨l,0⟩=(t,s)/\(t=1\/t=2):=by
  refine R6 (step:=L7 ⟨⟩) (mk:=λj (_:Unit)=>(⟨l,(j:Int)⟩:X0)) l.length (λ_ _=>True) (λt s=>t=1\/t=2) hl (λj x hj _=>?_) (λj x hj _=>?_) 0 () trivial
  ·simp only[L7,Z9,o6,l9,C0 hj (show l.length<=4611686018427387904 by omega)]
   obtain⟨t,s,h1,h2,h3⟩:=Be1 l hl j hj;rw[btD (o5 hj),h1]
   rcases h2 with rfl|rfl
   ·exact .ex (by simp)
   ·exact .nx ⟨(),by rw[h3],trivial⟩
  ·simp only[L7,Z9];rw[bfD (by omega)]
   exact⟨_,rfl,by simp⟩
 obtain⟨t,s,h1,h2⟩:=key;unfold xa5;simp only[o6,l9];rw[h1]
 rcases h2 with rfl|rfl<;>exact⟨_,_,rfl,rfl,trivial⟩
theorem Nd0(l:List V3)(hl:l.length<=1000000000):Fa2 l=true:=(Ya3 l hl).g
structure Fc(ph:Nat)(out:List Pln)(m:Nat):Prop where
 h:(ph=0/\out=[])\/ph=1
 l:out.length<=m
theorem Fc.more{ph m m':Nat}{out:List Pln}(h:Fc ph out m)(hm:m<=m'):Fc ph out m':=⟨h.h,Nat.le_trans h.l hm⟩
def phV(out:List V3):Nat:=match out with
 |[]=>0
 |_::_=>1
theorem kc6(out:List V3)(x:V3):phV (out++[x])=1:=by cases out<;>rfl
theorem ub2(l:List V3)(x1 x2 x3:Int):app (bL tV l) [[i x1,i x2,i x3]]=bL tV (l++[⟨x1,x2,x3⟩]):=bb2 tV l [⟨x1,x2,x3⟩]
theorem ce9{l:List V3}{m:Nat}(h:m<l.length):(((Nat.blt (0+m) (len (bL tV l)))&&(Nat.ble (0+3) (len (i8 (bL tV l) (0+m)))))&&(na5 [CK.int .i64,CK.int .i64,CK.int .i64] (i7 (i8 (bL tV l) (0+m)) 0)))=true:=by
 rw[Qiaj,N6 tV h,Aa2,show Nat.blt m l.length=true from by rw[Nat.blt_eq];exact h]
 rfl
theorem ke5{l:List V3}{m:Nat}(h:m<l.length):(((Nat.blt (0+m) (len (bL tV l)))&&(Nat.ble (2+1) (len (i8 (bL tV l) (0+m)))))&&(na5 [CK.int .i64] (i7 (i8 (bL tV l) (0+m)) 2)))=true:=by
 rw[Qiaj,N6 tV h,Aa2,show Nat.blt m l.length=true from by rw[Nat.blt_eq];exact h]
 rfl
theorem ad8{n:Nat}{l:List V3}(hn:l.length=n)(h:n<=1000000000):(Nat.beq n (len (bL tV l))&&Nat.ble ((n+1)*24) room)=true:=by
 subst hn;rw[Aa2,Qiab,Bool.true_and,Nat.ble_eq];unfold room;omega
theorem de0 (x : List Int) (N : Nat) (h4 : 4 ≤ N) (h8 : N ≤ 8) (j0 : Int) (hj0 : 0 ≤ j0 ∧ j0 ≤ 10) :
  ∃idx out,lp (ba9 ⟨(N:Int)⟩) ⟨0,0,x,j0,0,[]⟩=(2,⟨1,(N:Int),x,idx,N,bL tV out⟩)/\out.length=N:=by
 have key:=R6 (step:=ba9 ⟨(N:Int)⟩) (mk:=λj (a:Int×List V3)=>(⟨phV a.2,(j:Int),x,a.1,a.2.length,bL tV a.2⟩:o7)) N
  (λj a=>a.2.length=j/\0<=a.1/\a.1<=10+4*j/\j<=N) (λt s=>t=2/\∃idx out,s=⟨1,(N:Int),x,idx,N,bL tV out⟩/\out.length=N) (by omega) (λj a hj ha=>?_) (λj a hj ha=>?_) 0 (j0,[]) ⟨rfl,hj0.1,by omega,by omega⟩
 ·obtain⟨t,s,e1,rfl,idx,out,e2,e3⟩:=key;exact⟨idx,out,by rw[<- e2];exact e1,e3⟩
 ·obtain⟨at0,out⟩:=a;obtain⟨ho,ha1,ha2,_⟩:=ha
  simp only at ho ha1 ha2
  have hn:=C0 hj (show N<=4611686018427387904 by omega)
  obtain⟨v1,j1,d1,_,_,c1,b1⟩:=Ha6 17 x at0 ha1 (by omega) (by omega) (by omega)
  obtain⟨v2,j2,d2,_,_,c2,b2⟩:=Ha6 17 x j1 (by omega) (by omega) (by omega) (by omega)
  obtain⟨v3,j3,d3,_,_,c3,b3⟩:=Ha6 17 x j2 (by omega) (by omega) (by omega) (by omega)
  obtain⟨v4,j4,d4,_,_,c4,b4⟩:=Ha6 6 x j3 (by omega) (by omega) (by omega) (by omega)
  have leaf : ∀ (E : Nat → Prop) (x1 x2 x3 : Int), Nx (.next (⟨1, ((j + 1 : Nat) : Int), x, j4, j + 1, bL tV (out ++ [⟨x1, x2, x3⟩])⟩ : o7)) E
    (λs=>∃a':Int×List V3,s=⟨phV a'.2,((j+1:Nat):Int),x,a'.1,a'.2.length,bL tV a'.2⟩/\a'.2.length=j+1/\0<=a'.1/\a'.1<=10+4*((j+1:Nat):Int)/\j+1<=N):=λE x1 x2 x3=>by
   have hl:(out++[(⟨x1,x2,x3⟩:V3)]).length=j+1:=by simp[ho]
   exact .nx ⟨(j4,out++[⟨x1,x2,x3⟩]),by simp only[kc6,hl],hl,by show 0<=j4;omega,by show j4<=_;omega,by omega⟩
  cases out with
  |nil =>
   have hj0':j=0:=by simpa using ho.symm
   subst hj0';show Nx (P5 Stp.next Stp.exit Stp.fail _ _) _ _;simp only[P5,o6,l9,d1,d2,d3,d4,hn];rw[btD (o5 hj)];have f1:decide (((0:Nat):Int)>1)=false:=rfl;have f2:decide (((0:Nat):Int)>0)=false:=rfl;have f3:decide (((0:Nat):Int)>2)=false:=rfl;have lf:∀(E:Nat->Prop) (x1 x2 x3:Int),Nx (.next (⟨1,((0+1:Nat):Int),x,j4,1,[[i x1,i x2,i x3]]⟩:o7)) E _:=leaf;simp only[f1,f2,f3,Sa3,Qiab,Qig,w6];refine Nx.sl (λ_=>?_) (λ_=>?_)<;>refine Nx.sl (λ_=>?_) (λ_=>?_)
   all_goals first
    |exact lf _ _ _ _
    |(refine Nx.sl (λ_=>?_) (λ_=>?_)<;>exact lf _ _ _ _)
  |cons o os =>
   have h1:1<=j:=by simp only[List.length_cons] at ho;omega
   generalize hO:o::os=O at *
   have hph:phV O=1:=by subst hO;rfl
   have w1:W ((j:Int)-1)=((j-1:Nat):Int):=by rw[aa0 (by omega) (by omega)];omega
   have i1:inB ((j-1:Nat):Int) j=true:=i6 (by omega)
   have r1:=ce9 (l:=O) (m:=j-1) (by omega)
   have r1':=ke5 (l:=O) (m:=j-1) (by omega)
   have rr:=ad8 ho (by omega)
   have f2:∀{inst:Decidable ((j:Int)>0)},@decide ((j:Int)>0) inst=true:=decide_eq_true (by omega)
   show Nx (sel (Nat.beq (phV O) 1) (o3 Stp.next Stp.exit Stp.fail _ _) _) _ _;rw[hph];show Nx (o3 Stp.next Stp.exit Stp.fail _ _) _ _;by_cases h2:2<=j
   ·have w2:W ((j:Int)-2)=((j-2:Nat):Int):=by rw[aa0 (by omega) (by omega)];omega
    have i2:inB ((j-2:Nat):Int) j=true:=i6 (by omega)
    have r2:=ce9 (l:=O) (m:=j-2) (by omega)
    simp only[o3,o6,l9,d1,d2,d3,d4,hn,ho,w1,w2,i1,i2,Int.toNat_natCast,r1,r1',r2,rr,ub2];rw[btD (o5 hj)];simp only[Qiab,Qig,w6]
    repeat' (first | exact leaf _ _ _ _ | refine Nx.sl (λ_=>?_) (λ_=>?_))
   ·have hj1:j=1:=by omega
    subst hj1;simp only[o3,o6,l9,d1,d2,d3,d4,hn,ho,w1,i1,Int.toNat_natCast,r1,r1',rr,ub2];have f1:decide (((1:Nat):Int)>1)=false:=rfl;rw[btD (o5 hj)];simp only[f1,Sa3,Qiab,Qig,w6]
    repeat' (first | exact leaf _ _ _ _ | refine Nx.sl (λ_=>?_) (λ_=>?_))
 ·obtain⟨at0,out⟩:=a;obtain⟨ho,ha1,ha2,hjN⟩:=ha
  simp only at ho ha1 ha2
  have hj':j=N:=by omega
  subst hj';cases out with
  |nil=>simp only[List.length_nil] at ho;omega
  |cons o os =>
   refine⟨2,?_,rfl,at0,o::os,by rw[ho];rfl,ho⟩
   show o3 Stp.next Stp.exit Stp.fail _ _=_;simp only[o3];rw[bfD (by omega)]
theorem Pc3{l:List V3}{n:Nat}{r:List (List b7)}{P:List V3->Prop}(hn:n=l.length)(hr:r=bL tV l)(h:P l):Rd (one (r1L tV)) (some (.sl 0 0 n 0,[⟨25,3,r,true,false,0⟩])) P:=by
 subst hn hr;refine⟨_,l,rfl,?_,h⟩;show Bool.rec (motive:=λ_=>Option (List V3)) none (some (slR tV (bL tV l) 0 l.length)) (Bool.and true (okS tV (bL tV l) 0 l.length))=_
 rw[Gb3,Tb2];rfl
theorem Gc9(x:List Int):Rd (one (r1L tV)) (ia5 x) (λr=>4<=r.length/\r.length<=8):=by
 obtain⟨v,j,e1,a1,b1,c1,d1⟩:=Ha6 5 x 0 (by omega) (by omega) (by omega) (by omega)
 have hN:W (4+v)=(((4+v).toNat:Nat):Int):=by rw[aa0 (by omega) (by omega)];omega
 obtain⟨idx,out,e2,e3⟩:=de0 x (4+v).toNat (by omega) (by omega) j (by omega)
 unfold ia5;simp only[o6,l9,e1,hN,e2];have h4:4<=(4+v).toNat:=by omega
 have h8:(4+v).toNat<=8:=by omega
 generalize (4+v).toNat=N at *
 have s1:lsL tV N (λk=>i8 (bL tV out) (0+k))=out:=by rw[<- e3];exact Gb3 tV out
 have s2:okL tV N (λk=>i8 (bL tV out) (0+k))=true:=by rw[<- e3];exact Tb2 tV out
 have gf:Fa2 out=true:=Nd0 out (by omega)
 rw[s1,s2,gf];simp only[Qiab,Qig,w6,show Nat.beq 2 1=false from rfl,Sa3]
 refine Rd.sl (λ_=>?_) λ_=>Pc3 e3.symm rfl ⟨by omega,by omega⟩
 have i0:inB 0 N=true:=i6 (j:=0) (by omega)
 have i1:inB 1 N=true:=i6 (j:=1) (by omega)
 have i2:inB 2 N=true:=i6 (j:=2) (by omega)
 have i3:inB 3 N=true:=i6 (j:=3) (by omega)
 have sp:∀(v:V3) (x1 x2 x3:Int),O2 (tV.row v) 0 [i x1,i x2,i x3]=tV.row ⟨x1,x2,x3⟩:=λ_ _ _ _=>rfl
 have rl:∀v:V3,Nat.ble (0+3) (len (tV.row v))=true:=λ_=>rfl
 have ck:∀v:V3,na5 [CK.int .i64,CK.int .i64,CK.int .i64] (i7 (tV.row v) 0)=true:=λ_=>rfl
 have gr:∀(l:List V3) (k:Nat),l.length=N->k<4->i8 (bL tV l) k=tV.row (gL tV l k):=λl k hl hk=>N6 tV (by omega)
 have bl:∀(l:List V3) (k:Nat),l.length=N->k<4->Nat.blt k (len (bL tV l))=true:=λl k hl hk=>by rw[Aa2,Nat.blt_eq];omega
 have ls:∀(l:List V3) (k:Nat) (v:V3),l.length=N->(l.set k v).length=N:=λl k v hl=>by rw[Qial];exact hl
 rw[gr out 0 e3 (by omega),gr out 1 e3 (by omega)]
 simp only[sp,Ia4];rw[gr _ 2 (ls out 1 _ e3) (by omega)]
 simp only[sp,Ia4];rw[gr _ 3 (ls _ 2 _ (ls out 1 _ e3)) (by omega)]
 simp only[sp,Ia4,rl,ck,i0,i1,i2,i3,bl out 0 e3 (by omega),bl out 1 e3 (by omega),bl _ 2 (ls out 1 _ e3) (by omega),bl _ 3 (ls _ 2 _ (ls out 1 _ e3)) (by omega),Qig,w6]
 exact Pc3 (by simp only[Qial];omega) rfl (by simp only[Qial];omega)
theorem Nd1(x:List Int):Na2 x=true:=(Gc9 x).g
theorem ad9(x:List Int):4<=(p7 x).length/\(p7 x).length<=8:=(Gc9 x).p
theorem db3(v:V3):ia2 v=inV v/\ia3 v=true:=by
 have h3:[v.x,v.y,v.z].length<=1000000000:=by simp
 have:Ta4 v=some (b (inV v),[]):=by
  unfold Ta4 inV;simp only[Xb5 24 _ (by omega) h3,Xb6 24 _ (by omega) h3,w6]
  simp only[List.all_cons,List.all_nil,Qig]
 unfold ia2 ia3;rw[this];exact⟨rfl,rfl⟩
noncomputable def has(c:List Pln)(v:V3):Bool:=(chk c==0)&&(inV v&&inn c ⟨v.x,v.y,v.z,1⟩)
noncomputable def apart(a c:List Pln):Bool:=!((chk a==0)&&(chk c==0))||!ce6 (a++c++ws)
noncomputable def re8(a c:List Pln):Bool:=ful a&&((chk c==0)&&(pts a).all (inn c))
noncomputable def onc(X:List Pt)(p:Pln):Nat:=X.countP λx=>rm p x==0
noncomputable def keep(X:List Pt)(p:Pln):Bool:=!decide ((onc X p:Int)<3)
theorem Pb2{α:Type}(c:α->Bool):∀l:List α,(l.take (l.findIdx c)).filter (λx=>!c x)=l.take (l.findIdx c)
 |[]=>rfl
 |x::l=>by
  rw[List.findIdx_cons];cases h:c x with
  |true=>rfl
  |false =>
   simp only[cond_false,List.take_succ_cons,List.filter_cons,h,Bool.not_false,if_true];rw[Pb2 c l]
theorem md1{α:Type}(l:List α)(j:Nat)(h:j<l.length):l.take (j+1)=l.take j++[l[j]]:=by rw[List.take_succ_eq_append_getElem h]
theorem Oa8{α:Type}(t:Ty α){l:List α}{j:Nat}(h:j<l.length):l.take (j+1)=l.take j++[gL t l j]:=by rw[md1 l j h,nb4 t h]
theorem Xb8{α:Type}(t:Ty α){l r:List α}{j:Nat}(h:l.drop j=r.drop j):gL t l j=gL t r j:=by
 have h1:=sd2 t l j 0;have h2:=sd2 t r j 0;rw[Nat.add_zero] at h1 h2;rw[<- h1,<- h2,h]
theorem Pb3{α:Type}{l r:List α}{j:Nat}(h:l.drop j=r.drop j)(k:Nat):l.drop (j+k)=r.drop (j+k):=by rw[<- List.drop_drop,<- List.drop_drop,h]
structure Del(l:List Pln)(f:Pln->Bool)(cur:List Pln)(m j:Nat):Prop where
 len:cur.length=l.length
 t:cur.take m=(l.take j).filter f
 d:cur.drop j=l.drop j
 le:m<=j
 lm:m<=l.length
theorem de1(l:List Pln)(n:Nat):i7 (bL tP l) n=bL tP (l.drop n):=by unfold bL;rw[E6,m8,m8,List.map_drop]
def eqP(x y:Pln):Bool:=x.n.x==y.n.x&&(x.n.y==y.n.y&&(x.n.z==y.n.z&&(x.b==y.b&&true)))
theorem Pb4(x y:Pln):eqP x y=true↔x=y:=by
 unfold eqP;simp only[Qig,Qid,beq_iff_eq];refine⟨λ⟨h1,h2,h3,h4⟩=>?_,λh=>by subst h;exact⟨rfl,rfl,rfl,rfl⟩⟩
 obtain⟨⟨x1,x2,x3⟩,x4⟩:=x;obtain⟨⟨y1,y2,y3⟩,y4⟩:=y
 simp only at h1 h2 h3 h4
 subst h1 h2 h3 h4;rfl
def ddF:Pln->List Pln->List Pln
 |_,[]=>[]
 |a,x::l=>if eqP x a then ddF x l else x::ddF x l
def dd:List Pln->List Pln
 |[]=>[]
 |x::l=>x::ddF x l
structure Cmp(l:List Pln)(n:Nat)(cur:List Pln)(m j:Nat)(R:List Pln):Prop where
 len:cur.length=l.length
 t:cur.take m++ddF (gL tP l (j-1)) ((l.take n).drop j)=R
 d:cur.drop (j-1)=l.drop (j-1)
 le:m+1<=j
theorem Nd2(l:List Pln)(n:Nat)(hn:n<=l.length):slR tP (bL tP l) 0 n=l.take n:=Tb1 tP (by rw[List.length_take];omega) λk hk=>by
 rw[Qiaj,N6 tP (by omega)]
 congr 1;simp[gL,Qiah,List.getElem?_take,hk]
theorem Nd3(l:List Pln)(n:Nat)(hn:n<=l.length):okS tP (bL tP l) 0 n=true:=bb1 tP (f:=λk=>gL tP l k) λk hk=>by rw[Qiaj,N6 tP (by omega)]
end Go.Ev.Ce
namespace Go.Ev.Ce
open Go Go.Ev Go.Ev.L Go.Proofs Go.Sort
theorem uc0(l:List Pln):List.Perm (Bb2 l) l:=List.mergeSort_perm l _
theorem Bd7(x y z:Pln)(h1:(!ltOf bb6 y x)=true)(h2:(!ltOf bb6 z y)=true):(!ltOf bb6 z x)=true:=by
 simp only[Qiz,Ea9,decide_eq_false_iff_not] at *
 unfold LtP at *
 omega
theorem Bd8(x y:Pln):((!ltOf bb6 y x)||!ltOf bb6 x y)=true:=by
 simp only[Bool.or_eq_true,Qiz,Ea9,decide_eq_false_iff_not];unfold LtP;omega
theorem Pc4(l:List Pln):(Bb2 l).Pairwise λx y=>(!ltOf bb6 y x)=true:=List.pairwise_mergeSort Bd7 Bd8 l
instance:DecidableEq Pln:=λx y=>decidable_of_iff _ (Pb4 x y)
def PC:List Pt:=[⟨0,0,0,1⟩,⟨0,0,1,4⟩,⟨0,1,0,3⟩,⟨1,0,0,2⟩]
end Go.Ev.Ce
namespace Go.Ev.Ce
open Go Go.Ev Go.Ev.L Go.Proofs
set_option maxRecDepth 100000
structure zb8 where
structure ub3 where
structure ub4 where
structure zb9 where
 alt:Nat
structure Xb9 where
structure Pb5 where
structure Pb6 where
structure Yb0 where
 alt:Nat
structure Bc0 where
structure Bc1 where
 alt:Nat
def Ja3(l:List Pln):Prop:=l.Pairwise LtP
theorem Hc0{x y z:Pln}(h1:LtP x y)(h2:LtP y z):LtP x z:=by unfold LtP at *;omega
theorem kc7(x:Pln):¬ LtP x x:=by unfold LtP;omega
theorem sd5(x y:Pln):LtP x y\/x=y\/LtP y x:=by
 by_cases h1:LtP x y
 ·exact .inl h1
 ·by_cases h2:LtP y x
  ·exact .inr (.inr h2)
  ·refine .inr (.inl ?_);unfold LtP at h1 h2;have e1:x.n.x=y.n.x:=by omega
   have e2:x.n.y=y.n.y:=by omega
   have e3:x.n.z=y.n.z:=by omega
   have e4:x.b=y.b:=by omega
   cases x with | mk n b=>cases y with | mk m c=>cases n;cases m;simp_all
theorem Yb1:∀{l r:List Pln},Ja3 l->Ja3 r->(∀p,p∈l↔p∈r)->l=r
 |[],[],_,_,_=>rfl
 |[],b::r,_,_,h=>by have:=(h b).2 Qic;cases this
 |a::l,[],_,_,h=>by have:=(h a).1 Qic;cases this
 |a::l,b::r,hl,hr,h=>by
  obtain⟨hl1,hl2⟩:=Qis.1 hl;obtain⟨hr1,hr2⟩:=Qis.1 hr;have hab:a=b:=by
   rcases Qia.1 ((h a).1 Qic) with e|h1
   ·exact e
   ·rcases Qia.1 ((h b).2 Qic) with e|h2
    ·exact e.symm
    ·exact absurd (Hc0 (hr1 a h1) (hl1 b h2)) (kc7 b)
  subst hab;rw[Yb1 hl2 hr2 λp=>?_]
  constructor
  ·intro hp
   rcases Qia.1 ((h p).1 (Qib _ hp)) with e|h1
   ·subst e;exact absurd (hl1 p hp) (kc7 p)
   ·exact h1
  ·intro hp
   rcases Qia.1 ((h p).2 (Qib _ hp)) with e|h1
   ·subst e;exact absurd (hr1 p hp) (kc7 p)
   ·exact h1
def Pc5:List Pln->Pln->List Pln
 |[],y=>[y]
 |a::l,y=>if bb6 a y<0 then a::Pc5 l y else if eqP a y then a::l else y::a::l
theorem ub5(y p:Pln):∀x,p∈Pc5 x y↔p=y\/p∈x
 |[]=>by simp[Pc5]
 |a::l=>by
  unfold Pc5;have ih:=ub5 y p l;split
  ·simp only[Qia,ih];constructor
   ·rintro (h|h|h)
    ·exact .inr (.inl h)
    ·exact .inl h
    ·exact .inr (.inr h)
   ·rintro (h|h|h)
    ·exact .inr (.inl h)
    ·exact .inl h
    ·exact .inr (.inr h)
  ·split
   ·rename_i h;rw[Pb4] at h;subst h;simp only[Qia];constructor
    ·exact λh=>.inr h
    ·rintro (h|h)
     ·exact .inl h
     ·exact h
   ·simp only[Qia]
theorem Pb7(y:Pln):∀{x},Ja3 x->Ja3 (Pc5 x y)
 |[],_=>List.pairwise_singleton _ _
 |a::l,h=>by
  obtain⟨h1,h2⟩:=Qis.1 h;unfold Pc5;split
  ·rename_i hc;rw[Oc2] at hc;refine Qis.2 ⟨λp hp=>?_,Pb7 y h2⟩
   rcases (ub5 y p l).1 hp with e|hp
   ·subst e;exact hc
   ·exact h1 p hp
  ·rename_i hc;rw[Oc2] at hc;split
   ·exact h
   ·rename_i hne;have hlt:LtP y a:=by
     rcases sd5 y a with h|h|h
     ·exact h
     ·exact absurd ((Pb4 _ _).2 h.symm) hne
     ·exact absurd h hc
    refine Qis.2 ⟨λp hp=>?_,h⟩
    rcases Qia.1 hp with e|hp
    ·subst e;exact hlt
    ·exact Hc0 hlt (h1 p hp)
theorem sd6{σ:Type}{step:σ->Stp σ}{s:σ}{t:Nat}(h:step s=.exit t):lp step s=(t,s):=by rw[Hd4];exact oc3 h
theorem Bd9:Bb2 []=[]:=List.eq_nil_of_length_eq_zero (xb9 [])
end Go.Ev.Ce
namespace Go.Ev.Ce
def rmZ(p:Pln)(x:Pt):Int:=p.b*x.pw-(p.n.x*x.px+p.n.y*x.py+p.n.z*x.pz)
structure Inr(r:List Pln)(x:Pt):Prop where
 w:0<x.pw
 h:∀p∈r,0<=rmZ p x
def Z0(p:Pln):Pln:=⟨⟨-p.n.x,-p.n.y,-p.n.z⟩,-p.b⟩
theorem Va8(p:Pln)(x:Pt):rmZ (Z0 p) x=-rmZ p x:=by unfold rmZ Z0;grind
structure Cn(r:List Pln)(x:Pt):Prop extends Inr r x where
 c:∃p q s,p∈r/\q∈r/\s∈r/\mw p q s≠0/\rmZ p x=0/\rmZ q x=0/\rmZ s x=0
def Bdd(r:List Pln):Prop:=∀d:V3,d≠⟨0,0,0⟩->∃p∈r,0<dot p.n d
def go(x:Pt)(q:Pln)(d:V3):Pt:=⟨x.px*dot q.n d+rmZ q x*d.x,x.py*dot q.n d+rmZ q x*d.y,x.pz*dot q.n d+rmZ q x*d.z,x.pw*dot q.n d⟩
theorem bd0(p q:Pln)(x:Pt)(d:V3):rmZ p (go x q d)=dot q.n d*rmZ p x-rmZ q x*dot p.n d:=by simp only[rmZ,go,dot];grind
theorem Ha7{a b c:Int}(hc:0<c)(h:a*c<=b*c):a<=b:=Int.le_of_mul_le_mul_right h hc
theorem first(x:Pt)(d:V3):∀r:List Pln,(∀p∈r,0<=rmZ p x)->(∃p∈r,0<dot p.n d)->∃q∈r,0<dot q.n d/\∀p∈r,0<dot p.n d->rmZ q x*dot p.n d<=rmZ p x*dot q.n d
 |[],_,h=>by obtain⟨p,hp,_⟩:=h;cases hp
 |a::r,hx,h=>by
  by_cases hr:∃p∈r,0<dot p.n d
  ·obtain⟨q,hq,h1,h2⟩:=first x d r (λp hp=>hx p (Qib _ hp)) hr
   by_cases ha:0<dot a.n d
   ·by_cases hc:rmZ q x*dot a.n d<=rmZ a x*dot q.n d
    ·refine⟨q,Qib _ hq,h1,λp hp h3=>?_⟩
     rcases Qia.1 hp with rfl|hp
     ·exact hc
     ·exact h2 p hp h3
    ·refine⟨a,Qic,ha,λp hp h3=>?_⟩
     rcases Qia.1 hp with rfl|hp
     ·exact Int.le_refl _
     ·have h4:=h2 p hp h3;have h5:rmZ a x*dot q.n d<rmZ q x*dot a.n d:=by omega
      have h6:=Qit h4 (Qie ha);have h7:=Int.mul_lt_mul_of_pos_right h5 h3;have e1:rmZ q x*dot p.n d*dot a.n d=rmZ q x*dot a.n d*dot p.n d:=by grind
      have e2:rmZ a x*dot q.n d*dot p.n d=rmZ a x*dot p.n d*dot q.n d:=by grind
      have e3:rmZ p x*dot q.n d*dot a.n d=rmZ p x*dot a.n d*dot q.n d:=by grind
      refine Ha7 h1 ?_;omega
   ·refine⟨q,Qib _ hq,h1,λp hp h3=>?_⟩
    rcases Qia.1 hp with rfl|hp
    ·exact absurd h3 ha
    ·exact h2 p hp h3
  ·have ha : 0 < dot a.n d := by
    obtain⟨p,hp,h3⟩:=h
    rcases Qia.1 hp with rfl|hp
    ·exact h3
    ·exact absurd ⟨p,hp,h3⟩ hr
   refine⟨a,Qic,ha,λp hp h3=>?_⟩
   rcases Qia.1 hp with rfl|hp
   ·exact Int.le_refl _
   ·exact absurd ⟨p,hp,h3⟩ hr
theorem step{r:List Pln}{x:Pt}(hx:Inr r x)(d:V3)(h:∃p∈r,0<dot p.n d):∃q∈r,0<dot q.n d/\Inr r (go x q d):=by
 obtain⟨q,hq,h1,h2⟩:=first x d r hx.h h;refine⟨q,hq,h1,⟨Qir hx.w h1,λp hp=>?_⟩⟩
 rw[bd0];have h3:=hx.h p hp;have h4:=hx.h q hq;by_cases h5:0<dot p.n d
 ·have:=h2 p hp h5
  have e:rmZ p x*dot q.n d=dot q.n d*rmZ p x:=Int.mul_comm _ _;omega
 ·have h6:=Qih (Qie h1) h3;have h7:rmZ q x*dot p.n d<=0:=Int.mul_nonpos_of_nonneg_of_nonpos h4 (by omega)
  omega
theorem Nd4{h q:Pln}{x:Pt}{d:V3}(h1:0<=rmZ q x)(h2:0<=dot h.n d):rmZ h (go x q d)*x.pw<=rmZ h x*(go x q d).pw\/x.pw<=0:=by
 rcases Int.lt_or_le 0 x.pw with hw|hw
 ·left;rw[bd0]
  have:=Qih h1 h2
  have h3:=Qih this (Qie hw);have e:rmZ h x*(go x q d).pw=dot q.n d*rmZ h x*x.pw:=by unfold go;grind
  have e2:(dot q.n d*rmZ h x-rmZ q x*dot h.n d)*x.pw=dot q.n d*rmZ h x*x.pw-rmZ q x*dot h.n d*x.pw:=by grind
  omega
 ·exact .inr hw
def neg(d:V3):V3:=⟨-d.x,-d.y,-d.z⟩
theorem kc8(a d:V3):dot a (neg d)=-dot a d:=by unfold dot neg;grind
theorem Pc6{d:V3}(h:d≠⟨0,0,0⟩):neg d≠⟨0,0,0⟩:=λh'=>h (by
 cases d;unfold neg at h';simp only[V3.mk.injEq] at h' ⊢;omega)
theorem turn(h:Pln){d:V3}(hd:d≠⟨0,0,0⟩):∃e,e≠(⟨0,0,0⟩:V3)/\0<=dot h.n e/\∀a,dot a d=0->dot a e=0:=by
 by_cases h1:0<=dot h.n d
 ·exact⟨d,hd,h1,λ_ h=>h⟩
 ·exact⟨neg d,Pc6 hd,by rw[kc8];omega,λa h=>by rw[kc8,h];rfl⟩
theorem perp{n:V3}(hn:n≠⟨0,0,0⟩):∃d,d≠(⟨0,0,0⟩:V3)/\dot n d=0:=by
 by_cases h:n.x=0/\n.y=0
 ·exact⟨⟨1,0,0⟩,by simp,by unfold dot;simp[h.1]⟩
 ·refine⟨⟨n.y,-n.x,0⟩,λh'=>h ?_,by unfold dot;grind⟩
  simp only[V3.mk.injEq] at h';omega
theorem V3.ext'{a b:V3}(h1:a.x=b.x)(h2:a.y=b.y)(h3:a.z=b.z):a=b:=by cases a;cases b;simp_all
theorem bd1{m n d:V3}(hm:m≠⟨0,0,0⟩)(h1:dot m d=0)(h2:dot n d≠0):c7 m n≠⟨0,0,0⟩:=λh=>by
 unfold c7 at h;simp only[V3.mk.injEq] at h;obtain⟨c1,c2,c3⟩:=h;unfold dot at h1 h2;have e1:m.x*(n.x*d.x+n.y*d.y+n.z*d.z)=0:=by grind
 have e2:m.y*(n.x*d.x+n.y*d.y+n.z*d.z)=0:=by grind
 have e3:m.z*(n.x*d.x+n.y*d.y+n.z*d.z)=0:=by grind
 have k:∀{a:Int},a*(n.x*d.x+n.y*d.y+n.z*d.z)=0->a=0:=λh=>(Qif.1 h).resolve_right h2
 exact hm (V3.ext' (k e1) (k e2) (k e3))
theorem cc3(a b:V3):dot a (c7 a b)=0:=by unfold dot c7;grind
theorem cc4(a b:V3):dot b (c7 a b)=0:=by unfold dot c7;grind
theorem Nd5{p q:Pln}{x:Pt}{d:V3}(h:rmZ p x=0)(h':dot p.n d=0):rmZ p (go x q d)=0:=by rw[bd0,h,h'];simp
theorem Nd6(q:Pln)(x:Pt)(d:V3):rmZ q (go x q d)=0:=by rw[bd0];grind
theorem Be2{q:Pln}{d:V3}(h:0<dot q.n d):q.n≠⟨0,0,0⟩:=λh'=>by rw[h'] at h;unfold dot at h;simp at h
theorem ke6{a b c u v w:Int}(hu:0<u)(hv:0<v)(hw:0<w)(h1:a*v<=b*u)(h2:b*w<=c*v):a*w<=c*u:=by
 have h3:=Qit h1 (Qie hw);have h4:=Qit h2 (Qie hu);have e1:a*v*w=a*w*v:=by grind
 have e2:b*u*w=b*w*u:=by grind
 have e3:c*v*u=c*u*v:=by grind
 exact Ha7 hv (by omega)
theorem md2{r:List Pln}(hb:Bdd r)(h:Pln){x:Pt}(hx:Inr r x):∃v,Cn r v/\rmZ h v*x.pw<=rmZ h x*v.pw:=by
 obtain⟨d0,n0,p0,_⟩:=turn h (d:=⟨1,0,0⟩) (by simp)
 obtain⟨q1,m1,k1,i1⟩:=step hx d0 (hb d0 n0);have l1:=(Nd4 (h:=h) (x:=x) (hx.h q1 m1) p0).resolve_right (by have:=hx.w;omega)
 obtain⟨e1,ne1,he1⟩:=perp (Be2 k1);obtain⟨d1,n1,p1,z1⟩:=turn h ne1;obtain⟨q2,m2,k2,i2⟩:=step i1 d1 (hb d1 n1);have l2:=(Nd4 (h:=h) (x:=go x q1 d0) (i1.h q2 m2) p1).resolve_right (by have:=i1.w;omega)
 have hc:=bd1 (Be2 k1) (z1 _ he1) (n:=q2.n) (by omega)
 obtain⟨d2,n2,p2,z2⟩:=turn h hc;obtain⟨q3,m3,k3,i3⟩:=step i2 d2 (hb d2 n2);have l3:=(Nd4 (h:=h) (x:=go (go x q1 d0) q2 d1) (i2.h q3 m3) p2).resolve_right (by have:=i2.w;omega)
 have a1:rmZ q1 (go (go x q1 d0) q2 d1)=0:=Nd5 (Nd6 _ _ _) (z1 _ he1);refine⟨_,⟨i3,q3,q1,q2,m3,m1,m2,λh0=>?_,Nd6 _ _ _,Nd5 a1 (z2 _ (cc3 _ _)),Nd5 (Nd6 _ _ _) (z2 _ (cc4 _ _))⟩,?_⟩
 ·have:dot q3.n d2=0:=z2 _ h0
  omega
 ·exact ke6 i3.w i2.w hx.w l3 (ke6 i2.w i1.w hx.w l2 l1)
theorem la0{r:List Pln}(hb:Bdd r){h:Pln}(hv:∀v,Cn r v->0<=rmZ h v){x:Pt}(hx:Inr r x):0<=rmZ h x:=by
 obtain⟨v,h1,h2⟩:=md2 hb h hx;have h3:=Qih (hv v h1) (Qie hx.w);exact Ha7 h1.w (by rw[Qiy];omega)
def mid(x y:Pt):Pt:=⟨x.px*y.pw+y.px*x.pw,x.py*y.pw+y.py*x.pw,x.pz*y.pw+y.pz*x.pw,2*(x.pw*y.pw)⟩
theorem Nd7(p:Pln)(x y:Pt):rmZ p (mid x y)=rmZ p x*y.pw+rmZ p y*x.pw:=by unfold rmZ mid;grind
theorem Inr.mid{r:List Pln}{x y:Pt}(hx:Inr r x)(hy:Inr r y):Inr r (mid x y):=⟨by unfold Ce.mid;exact Qir (by decide) (Qir hx.w hy.w),λp hp=>by
 rw[Nd7];exact Int.add_nonneg (Qih (hx.h p hp) (Qie hy.w)) (Qih (hy.h p hp) (Qie hx.w))⟩
def Nd8(r:List Pln):Prop:=∃x:Pt,0<x.pw/\∀p∈r,0<rmZ p x
theorem sd7{r:List Pln}:∀(l:List Pln),(∀p∈l,p∈r)->(∃x,Inr r x)->(∀p∈l,∃v,Inr r v/\0<rmZ p v)->∃x,Inr r x/\∀p∈l,0<rmZ p x
 |[],_,h,_=>by obtain⟨x,h⟩:=h;exact⟨x,h,λp hp=>by cases hp⟩
 |a::l,hl,h,hv=>by
  obtain⟨x,h1,h2⟩:=sd7 l (λp hp=>hl p (Qib _ hp)) h (λp hp=>hv p (Qib _ hp))
  obtain⟨y,h3,h4⟩:=hv a Qic;refine⟨mid x y,h1.mid h3,λp hp=>?_⟩
  rw[Nd7]
  rcases Qia.1 hp with rfl|hp
  ·have:=Qih (h1.h p (hl p Qic)) (Qie h3.w)
   have:=Qir h4 h1.w
   omega
  ·have:=Qir (h2 p hp) h3.w
   have:=Qih (h3.h p (hl p (Qib _ hp))) (Qie h1.w)
   omega
theorem Nd9{r:List Pln}(hb:Bdd r)(h0:r≠[]):Nd8 r↔∀p∈r,∃v,Cn r v/\0<rmZ p v:=by
 constructor
 ·intro ⟨x,hw,hx⟩ p hp;by_cases h:∃v,Cn r v/\0<rmZ p v
  ·exact h
  ·have hx':Inr r x:=⟨hw,λq hq=>Qie (hx q hq)⟩
   have:=la0 hb (h:=Z0 p) (λv hv=>by
    rw[Va8]
    have:¬ 0<rmZ p v:=λh'=>h ⟨v,hv,h'⟩
    omega) hx'
   rw[Va8] at this
   have:=hx p hp
   omega
 ·intro h;obtain⟨p,hp⟩:=List.exists_mem_of_ne_nil r h0;obtain⟨v,hv,_⟩:=h p hp;obtain⟨x,h1,h2⟩:=sd7 r (λ_ h=>h) ⟨v,hv.toInr⟩ λp hp=>by
   obtain⟨v,hv,h⟩:=h p hp;exact⟨v,hv.toInr,h⟩
  exact⟨x,h1.w,h2⟩
structure Eqv(x v:Pt):Prop where
 e1:x.px*v.pw=v.px*x.pw
 e2:x.py*v.pw=v.py*x.pw
 e3:x.pz*v.pw=v.pz*x.pw
theorem Eqv.rm{x v:Pt}(h:Eqv x v)(p:Pln):rmZ p x*v.pw=rmZ p v*x.pw:=by
 obtain⟨e1,e2,e3⟩:=h;unfold rmZ
 grind
theorem Eqv.inr{r:List Pln}{x v:Pt}(h:Eqv x v)(hw:0<x.pw)(hv:Inr r v):Inr r x:=⟨hw,λp hp=>by
 have:=h.rm p
 have h2:=Qih (hv.h p hp) (Qie hw);exact Ha7 hv.w (by rw[Qiy];omega)⟩
end Go.Ev.Ce
namespace Go.Ev.Ce
open Go Go.Ev Go.Ev.L Go.Proofs
theorem de2{p:Pln}{x:Pt}(hp:Bd p)(hx:Okx x):rm p x=rmZ p x:=by
 unfold rm rmZ;obtain⟨w1,w2,⟨a1,a2⟩,⟨a3,a4⟩,a5,a6⟩:=hx;have h0:=mb hp.b1 hp.b2 (show -600000000000<=x.pw by omega) w2
 have h1:=mb hp.x1 hp.x2 a1 a2;have h2:=mb hp.y1 hp.y2 a3 a4;have h3:=mb hp.z1 hp.z2 a5 a6;exact aa0 (by omega) (by omega)
theorem sd8{r:List Pln}(hb:Bds r){x:Pt}(hx:Okx x):inn r x=true↔Inr r x:=by
 unfold inn;rw[Qio];constructor
 ·intro h;refine⟨hx.w1,λp hp=>?_⟩
  have:=h p hp
  rw[de2 (hb p hp) hx] at this;simpa using this
 ·intro h p hp;rw[de2 (hb p hp) hx];simpa using h.h p hp
theorem ke7{p q s:Pln}(h:(mpt p q s).2=true):mw p q s≠0/\∃k:Int,k≠0/\k*(mpt p q s).1.px=(mv p q s).x/\k*(mpt p q s).1.py=(mv p q s).y/\k*(mpt p q s).1.pz=(mv p q s).z/\k*(mpt p q s).1.pw=mw p q s:=by
 unfold mpt at h ⊢;by_cases h0:mw p q s=0
 ·rw[if_pos h0] at h;cases h
 refine⟨h0,?_⟩;have hg:=ld8 (v:=mv p q s) h0;have dv:∀{x:Int},(gc (mv p q s) (mw p q s))∣x->gc (mv p q s) (mw p q s)*Int.tdiv x (gc (mv p q s) (mw p q s))=x:=λh=>Qiv h
 have d1:gc (mv p q s) (mw p q s)∣(mv p q s).x:=by
  rw[<- Qiu];exact Qim.2 (Qin (Qil _ _) (Qil _ _))
 have d2:gc (mv p q s) (mw p q s)∣(mv p q s).y:=by
  rw[<- Qiu];exact Qim.2 (Qin (Qil _ _) (Qij _ _))
 have d3:gc (mv p q s) (mw p q s)∣(mv p q s).z:=by
  rw[<- Qiu];exact Qim.2 (Qin (Qij _ _) (Qil _ _))
 have d4:gc (mv p q s) (mw p q s)∣mw p q s:=by
  rw[<- Qiu];exact Qim.2 (Qin (Qij _ _) (Qij _ _))
 rw[if_neg h0];by_cases h1:mw p q s<0
 ·rw[if_pos h1];have e:∀{x:Int},(gc (mv p q s) (mw p q s))∣x->-(gc (mv p q s) (mw p q s))*Int.tdiv (-x) (gc (mv p q s) (mw p q s))=x:=λ{x} h=>by
   rw[Int.neg_mul,dv ((Int.dvd_neg).2 h),Int.neg_neg]
  exact⟨-(gc (mv p q s) (mw p q s)),by omega,e d1,e d2,e d3,e d4⟩
 ·rw[if_neg h1];exact⟨gc (mv p q s) (mw p q s),by omega,dv d1,dv d2,dv d3,dv d4⟩
theorem Od0{p q s:Pln}(h:(mpt p q s).2=true):rmZ p (mpt p q s).1=0/\rmZ q (mpt p q s).1=0/\rmZ s (mpt p q s).1=0:=by
 obtain⟨_,k,hk,e1,e2,e3,e4⟩:=ke7 h;generalize (mpt p q s).1=x at *
 have f:∀a:Pln,a.b*mw p q s-(a.n.x*(mv p q s).x+a.n.y*(mv p q s).y+a.n.z*(mv p q s).z)=0->rmZ a x=0:=λa ha=>by
  rw[<- e1,<- e2,<- e3,<- e4] at ha
  have:k*rmZ a x=0:=by rw[<- ha];unfold rmZ;grind
  exact (Qif.1 this).resolve_left hk
 refine⟨f p ?_,f q ?_,f s ?_⟩<;>(simp only[mw,mv,dot,c7];grind)
theorem de3{p q s:Pln}(h:mw p q s≠0):(mpt p q s).2=true:=by
 unfold mpt;rw[if_neg h]
 split<;>rfl
theorem Od1{p q s:Pln}{x:Pt}(h1:rmZ p x=0)(h2:rmZ q x=0)(h3:rmZ s x=0):mw p q s*x.px=(mv p q s).x*x.pw/\mw p q s*x.py=(mv p q s).y*x.pw/\mw p q s*x.pz=(mv p q s).z*x.pw:=by
 have i1:(mv p q s).x*x.pw-mw p q s*x.px=(c7 q.n s.n).x*rmZ p x+(c7 s.n p.n).x*rmZ q x+(c7 p.n q.n).x*rmZ s x:=by simp only[mw,mv,dot,c7,rmZ];grind
 have i2:(mv p q s).y*x.pw-mw p q s*x.py=(c7 q.n s.n).y*rmZ p x+(c7 s.n p.n).y*rmZ q x+(c7 p.n q.n).y*rmZ s x:=by simp only[mw,mv,dot,c7,rmZ];grind
 have i3:(mv p q s).z*x.pw-mw p q s*x.pz=(c7 q.n s.n).z*rmZ p x+(c7 s.n p.n).z*rmZ q x+(c7 p.n q.n).z*rmZ s x:=by simp only[mw,mv,dot,c7,rmZ];grind
 rw[h1,h2,h3] at i1 i2 i3;simp only[Qiak,Int.add_zero] at i1 i2 i3;omega
theorem re9{p q s:Pln}{x v:Pt}(h:mw p q s≠0)(h1:rmZ p x=0)(h2:rmZ q x=0)(h3:rmZ s x=0)(k1:rmZ p v=0)(k2:rmZ q v=0)(k3:rmZ s v=0):Eqv x v:=by
 obtain⟨a1,a2,a3⟩:=Od1 h1 h2 h3;obtain⟨c1,c2,c3⟩:=Od1 k1 k2 k3;have f:∀{a c m:Int},mw p q s*a=m*x.pw->mw p q s*c=m*v.pw->a*v.pw=c*x.pw:=λ{a c m} ha hc=>by
  have:mw p q s*(a*v.pw-c*x.pw)=0:=by grind
  have:=(Qif.1 this).resolve_left h
  omega
 exact⟨f a1 c1,f a2 c2,f a3 c3⟩
theorem Cd0{r:List Pln}{p q:Pln}{out:List Pt}{s:Pln}{x:Pt}(h:x∈out):x∈Pb1 r p q out s:=by
 unfold Pb1;split
 ·exact Qiac _ h
 ·exact h
theorem uc1{r:List Pln}{p q:Pln}{x:Pt}:∀{l:List Pln} {out:List Pt},x∈out->x∈Bd5 r p q l out
 |[],_,h=>h
 |s::l,out,h=>uc1 (l:=l) (out:=Pb1 r p q out s) (Cd0 h)
theorem Pb8{r:List Pln}{p:Pln}{x:Pt}:∀{l:List Pln} {out:List Pt},x∈out->x∈ad2 r p l out
 |[],_,h=>h
 |_::l,_,h=>Pb8 (l:=l) (uc1 h)
theorem bd2{r:List Pln}{x:Pt}:∀{l:List Pln} {out:List Pt},x∈out->x∈md0 r l out
 |[],_,h=>h
 |_::l,_,h=>bd2 (l:=l) (Pb8 h)
theorem Cd1{r:List Pln}{p q:Pln}{out:List Pt}{s:Pln}(h1:(mpt p q s).2=true)(h2:inn r (mpt p q s).1=true):(mpt p q s).1∈Pb1 r p q out s:=by
 unfold Pb1;rw[h1,h2];cases h:ce3 out (mpt p q s).1 with
 |true=>simpa using (Md3 _ _).1 h
 |false=>simp
theorem uc2{r:List Pln}{p q s:Pln}(h1:(mpt p q s).2=true)(h2:inn r (mpt p q s).1=true):∀{l:List Pln} {out:List Pt},s∈l->(mpt p q s).1∈Bd5 r p q l out
 |[],_,h=>by cases h
 |t::l,out,h=>by
  show _∈Bd5 r p q l (Pb1 r p q out t)
  rcases Qia.1 h with rfl|h
  ·exact uc1 (Cd1 h1 h2)
  ·exact uc2 h1 h2 h
structure Hit(r:List Pln)(Q:Pt->Prop)(p q s:Pln):Prop where
 h1:(mpt p q s).2=true
 h2:inn r (mpt p q s).1=true
 h3:Q (mpt p q s).1
theorem bd3{r:List Pln}{Q:Pt->Prop}{p q s:Pln}(hq:Hit r Q p q s)(hs:Hit r Q p s q)(hne:q≠s):∀{l:List Pln} {out:List Pt},q∈l->s∈l->∃x∈ad2 r p l out,Q x
 |[],_,h,_=>by cases h
 |t::l,out,hql,hsl=>by
  show ∃x∈ad2 r p l (Bd5 r p t l out),Q x
  rcases Qia.1 hql with rfl|h1
  ·have h2:=(Qia.1 hsl).resolve_left λh=>hne h.symm
   exact⟨_,Pb8 (uc2 hq.h1 hq.h2 h2),hq.h3⟩
  ·rcases Qia.1 hsl with rfl|h2
   ·exact⟨_,Pb8 (uc2 hs.h1 hs.h2 h1),hs.h3⟩
   ·exact bd3 hq hs hne (l:=l) h1 h2
theorem bd4 {r : List Pln} {Q : Pt → Prop} {p q s : Pln} (H : ∀ a c d, (a = p ∨ a = q ∨ a = s) → (c = p ∨ c = q ∨ c = s) → (d = p ∨ d = q ∨ d = s) → a ≠ c → c ≠ d → a ≠ d → Hit r Q a c d) (h1 : p ≠ q) (h2 : q ≠ s) (h3 : p ≠ s) :
  ∀{l:List Pln} {out:List Pt},p∈l->q∈l->s∈l->∃x∈md0 r l out,Q x
 |[],_,h,_,_=>by cases h
 |t::l,out,hp,hq,hs=>by
  have fin:∀{a c d:Pln} {out:List Pt},(a=p\/a=q\/a=s)->(c=p\/c=q\/c=s)->(d=p\/d=q\/d=s)->a≠c->c≠d->a≠d->c∈l->d∈l->∃x∈md0 r l (ad2 r a l out),Q x:=λha hc hd n1 n2 n3 m1 m2=>by
   obtain⟨x,hx,hQ⟩:=bd3 (H _ _ _ ha hc hd n1 n2 n3) (H _ _ _ ha hd hc n3 n2.symm n1) n2 (out:=_) m1 m2;exact⟨x,bd2 hx,hQ⟩
  show ∃x∈md0 r l (ad2 r t l out),Q x
  rcases Qia.1 hp with rfl|hp'
  ·exact fin (.inl rfl) (.inr (.inl rfl)) (.inr (.inr rfl)) h1 h2 h3 ((Qia.1 hq).resolve_left (Ne.symm h1)) ((Qia.1 hs).resolve_left (Ne.symm h3))
  ·rcases Qia.1 hq with rfl|hq'
   ·exact fin (.inr (.inl rfl)) (.inl rfl) (.inr (.inr rfl)) (Ne.symm h1) h3 h2 hp' ((Qia.1 hs).resolve_left (Ne.symm h2))
   ·rcases Qia.1 hs with rfl|hs'
    ·exact fin (.inr (.inr rfl)) (.inl rfl) (.inr (.inl rfl)) (Ne.symm h3) h1 (Ne.symm h2) hp' hq'
    ·exact bd4 H h1 h2 h3 hp' hq' hs'
theorem Be3{p q s:Pln}(h:mw p q s≠0):p≠q/\q≠s/\p≠s:=by
 refine⟨λe=>h ?_,λe=>h ?_,λe=>h ?_⟩<;>(subst e;simp only[mw,dot,c7];grind)
theorem se0{r:List Pln}(hb:Bds r):∀x∈cor r,Cn r x:=sd3 λp hp q hq s hs h hi=>by
 obtain⟨w1,w2,w3,w4,w5⟩:=ld9 (hb p hp) (hb q hq) (hb s hs) h;obtain⟨e1,e2,e3⟩:=Od0 h;exact⟨(sd8 hb ⟨w1,w5,w2,w3,w4⟩).1 hi,p,q,s,hp,hq,hs,(ke7 h).1,e1,e2,e3⟩
theorem se1{r:List Pln}(hb:Bds r){v:Pt}(hv:Cn r v):∃x∈cor r,Eqv x v:=by
 obtain⟨p,q,s,hp,hq,hs,hw,e1,e2,e3⟩:=hv.c;obtain⟨n1,n2,n3⟩:=Be3 hw;refine bd4 (λa c d ha hc hd m1 m2 m3=>?_) n1 n2 n3 hp hq hs
 have hm:∀{a},(a=p\/a=q\/a=s)->a∈r/\rmZ a v=0:=λh=>by
  rcases h with rfl|rfl|rfl
  ·exact⟨hp,e1⟩
  ·exact⟨hq,e2⟩
  ·exact⟨hs,e3⟩
 have hw':mw a c d≠0:=by
  have k:mw a c d=mw p q s\/mw a c d=-mw p q s:=by
   rcases ha with rfl|rfl|rfl<;>rcases hc with rfl|rfl|rfl<;>rcases hd with rfl|rfl|rfl<;>first|exact absurd rfl m1|exact absurd rfl m2|exact absurd rfl m3|exact .inl rfl|(left;simp only[mw,dot,c7];grind;done)|(right;simp only[mw,dot,c7];grind;done)
  rcases k with k|k<;>omega
 have h:=de3 hw';obtain⟨w1,w2,w3,w4,w5⟩:=ld9 (hb a (hm ha).1) (hb c (hm hc).1) (hb d (hm hd).1) h;obtain⟨f1,f2,f3⟩:=Od0 h;have he:=re9 hw' f1 f2 f3 (hm ha).2 (hm hc).2 (hm hd).2;exact⟨h,(sd8 hb ⟨w1,w5,w2,w3,w4⟩).2 (he.inr w1 hv.toInr),he⟩
theorem Od2(c:List Pln):Bdd (c++ws):=λd hd=>by
 have k:∀{n:V3} {m:Int},(⟨n,m⟩:Pln)∈ws->0<dot n d->∃p∈c++ws,0<dot p.n d:=λh h'=>⟨_,List.mem_append_right _ h,h'⟩
 by_cases h1:0<d.x
 ·exact k (n:=⟨1,0,0⟩) (m:=24) (by simp[ws]) (by unfold dot;simp;omega)
 by_cases h2:d.x<0
 ·exact k (n:=⟨-1,0,0⟩) (m:=24) (by simp[ws]) (by unfold dot;simp;omega)
 by_cases h3:0<d.y
 ·exact k (n:=⟨0,1,0⟩) (m:=24) (by simp[ws]) (by unfold dot;simp;omega)
 by_cases h4:d.y<0
 ·exact k (n:=⟨0,-1,0⟩) (m:=24) (by simp[ws]) (by unfold dot;simp;omega)
 by_cases h5:0<d.z
 ·exact k (n:=⟨0,0,1⟩) (m:=24) (by simp[ws]) (by unfold dot;simp;omega)
 by_cases h6:d.z<0
 ·exact k (n:=⟨0,0,-1⟩) (m:=24) (by simp[ws]) (by unfold dot;simp;omega)
 exact absurd (V3.ext' (by show d.x=0;omega) (by show d.y=0;omega) (by show d.z=0;omega)) hd
theorem sd9{r:List Pln}(hb:Bds r){p:Pln}(hp:Bd p):pos (cor r) p=true↔∃v,Cn r v/\0<rmZ p v:=by
 unfold pos;rw[Qik];constructor
 ·rintro⟨x,hx,h⟩;rw[de2 hp (Pc1 hb x hx)] at h;exact⟨x,se0 hb x hx,by simpa using h⟩
 ·rintro⟨v,hv,h⟩;obtain⟨x,hx,he⟩:=se1 hb hv;refine⟨x,hx,?_⟩;rw[de2 hp (Pc1 hb x hx)];have h1:=he.rm p;have h2:=Qir h (Pc1 hb x hx).w1
  have:0<rmZ p x:=Int.lt_of_mul_lt_mul_right (by rw[Qiy];omega:0*v.pw<rmZ p x*v.pw) (Qie hv.w)
  simpa using this
theorem Cd2{r:List Pln}(hb:Bds r)(hd:Bdd r)(h0:r≠[]):ce6 r=true↔Nd8 r:=by
 rw[Nd9 hd h0];unfold ce6;rw[Qio];exact⟨λh p hp=>(sd9 hb (hb p hp)).1 (h p hp),λh p hp=>(sd9 hb (hb p hp)).2 (h p hp)⟩
end Go.Ev.Ce
namespace Go.Ev.Ce
def dv(z v:Pt):V3:=⟨v.px*z.pw-z.px*v.pw,v.py*z.pw-z.py*v.pw,v.pz*z.pw-z.pz*v.pw⟩
def thr(n:V3)(z:Pt):Pln:=⟨⟨z.pw*n.x,z.pw*n.y,z.pw*n.z⟩,n.x*z.px+n.y*z.py+n.z*z.pz⟩
theorem Od3(n:V3)(z x:Pt):rmZ (thr n z) x=-dot n (dv z x):=by simp only[rmZ,thr,dot,dv];grind
theorem Od4{p:Pln}{z v:Pt}(hz:rmZ p z≠0)(hv:rmZ p v=0)(hw:0<v.pw):dv z v≠⟨0,0,0⟩:=λh=>by
 unfold dv at h;simp only[V3.mk.injEq] at h;obtain⟨e1,e2,e3⟩:=h
 have:rmZ p z*v.pw=rmZ p v*z.pw:=by unfold rmZ;grind
 rw[hv,Qiy] at this;exact (Qif.1 this).elim hz (by omega)
theorem se2{p:Pln}{z:Pt}(hz:rmZ p z≠0):∀l:List Pt,l.length<=2->(∀v∈l,rmZ p v=0/\0<v.pw)->∃n,n≠(⟨0,0,0⟩:V3)/\∀v∈l,dot n (dv z v)=0
 |[],_,_=>⟨⟨1,0,0⟩,by simp,λv h=>by cases h⟩
 |[v],_,h=>by
  obtain⟨h1,h2⟩:=h v (by simp)
  obtain⟨d,hd,he⟩:=perp (Od4 hz h1 h2);exact⟨d,hd,λu hu=>by rw[List.mem_singleton.1 hu,<- he];unfold dot;grind⟩
 |[v,u],_,h=>by
  obtain⟨h1,h2⟩:=h v (by simp)
  by_cases hc:c7 (dv z v) (dv z u)=⟨0,0,0⟩
  ·obtain⟨d,hd,he⟩:=perp (Od4 hz h1 h2);have hu:dot (dv z u) d=0:=by
    by_cases h0:dot (dv z u) d=0
    ·exact h0
    ·exact absurd hc (bd1 (Od4 hz h1 h2) he h0)
   refine⟨d,hd,λx hx=>?_⟩
   simp only[Qia,Qiaa,or_false] at hx
   rcases hx with rfl|rfl
   ·rw[<- he];unfold dot;grind
   ·rw[<- hu];unfold dot;grind
  ·refine⟨_,hc,λx hx=>?_⟩
   simp only[Qia,Qiaa,or_false] at hx
   rcases hx with rfl|rfl
   ·rw[<- cc3 (dv z x) (dv z u)];unfold dot;grind
   ·rw[<- cc4 (dv z v) (dv z x)];unfold dot;grind
 |_::_::_::_,h,_=>by simp at h
def se3(p:Pln)(z v:Pt):Pt:=⟨rmZ p v*z.px-rmZ p z*v.px,rmZ p v*z.py-rmZ p z*v.py,rmZ p v*z.pz-rmZ p z*v.pz,rmZ p v*z.pw-rmZ p z*v.pw⟩
theorem Pc7(p q:Pln)(z v:Pt):rmZ q (se3 p z v)=rmZ p v*rmZ q z-rmZ p z*rmZ q v:=by
 generalize ha:rmZ p v=a;generalize hb:rmZ p z=c;simp only[rmZ,se3] at *
 rw[ha,hb]
 grind
theorem Od5{r:List Pln}(hb:Bdd r)(hB:Nd8 r){h:Pln}(hn:h.n≠⟨0,0,0⟩):¬ ∀x,Inr r x->rmZ h x=0:=λH=>by
 obtain⟨x,hw,hx⟩:=hB;have hi:Inr r x:=⟨hw,λp hp=>Qie (hx p hp)⟩
 obtain⟨q,hq,h1,h2⟩:=step hi h.n (hb h.n hn);have h3:=H _ h2;rw[bd0,H _ hi] at h3;have h4:=hx q hq;have h5:0<dot h.n h.n:=by
  have k:∀a:Int,a≠0->0<a*a:=λa ha=>by
   rcases Int.lt_or_gt_of_ne ha with h|h
   ·exact Int.mul_pos_of_neg_of_neg h h
   ·exact Qir h h
  have k0:∀a:Int,0<=a*a:=λa=>by
   by_cases h:a=0
   ·subst h;decide
   ·exact Qie (k a h)
  have a1:=k0 h.n.x;have a2:=k0 h.n.y;have a3:=k0 h.n.z;unfold dot;by_cases c1:h.n.x=0
  ·by_cases c2:h.n.y=0
   ·have:=k h.n.z (λc3=>hn (V3.ext' c1 c2 c3));omega
   ·have:=k _ c2;omega
  ·have:=k _ c1;omega
 have:=Qir h4 h5
 omega
theorem Be4 {r r' : List Pln} {p : Pln} (hb : Bdd r) (hB : Nd8 r) (hp : p ∈ r) (hr : ∀ q ∈ r, q ∈ r' ∨ q = p)
  (l:List Pt) (hl:l.length<=2) (hl0:∀v∈l,rmZ p v=0/\0<v.pw) (hc:∀v,Cn r v->rmZ p v=0->∃x∈l,Eqv x v) {z:Pt} (hz:Inr r' z):Inr r z:=by
 by_cases h0:0<=rmZ p z
 ·exact⟨hz.w,λq hq=>(hr q hq).elim (hz.h q) λe=>e ▸ h0⟩
 exfalso;have hneg:rmZ p z<0:=by omega
 obtain⟨n,hn,hv⟩:=se2 (p:=p) (z:=z) (by omega) l hl hl0
 have hn':(thr n z).n≠⟨0,0,0⟩:=λe=>hn (by
  unfold thr at e;simp only[V3.mk.injEq] at e;have k:∀{a:Int},z.pw*a=0->a=0:=λh=>(Qif.1 h).resolve_left (by have:=hz.w;omega)
  exact V3.ext' (k e.1) (k e.2.1) (k e.2.2))
 -- the face lies in that plane
 have hface:∀u,Inr r u->rmZ p u=0->rmZ (thr n z) u=0:=λu hu hu0=>by
  have hbd:Bdd (Z0 p::r):=λd hd=>by
   obtain⟨q,hq,h⟩:=hb d hd;exact⟨q,Qib _ hq,h⟩
  have hiu:Inr (Z0 p::r) u:=⟨hu.w,λq hq=>by
   rcases Qia.1 hq with rfl|hq
   ·rw[Va8,hu0];decide
   ·exact hu.h q hq⟩
  have hvx:∀v,Cn (Z0 p::r) v->rmZ (thr n z) v=0:=λv hcv=>by
   have hir:Inr r v:=⟨hcv.w,λq hq=>hcv.h q (Qib _ hq)⟩
   have hp0:rmZ p v=0:=by
    have h1:=hcv.h (Z0 p) Qic;rw[Va8] at h1;have h2:=hir.h p hp;omega
   obtain⟨a,c,d,ha,hc',hd,hw,e1,e2,e3⟩:=hcv.c
   -- a plane that is turned round gives the same md2
   have fl:∀{a c d:Pln},mw (Z0 a) c d=-mw a c d/\mw c (Z0 a) d=-mw c a d/\mw c d (Z0 a)=-mw c d a:=λ{a c d}=>by
    refine⟨?_,?_,?_⟩<;>(simp only[mw,dot,c7,Z0];grind)
   have hr0:∀{a:Pln},rmZ (Z0 a) v=0->rmZ a v=0:=λh=>by rw[Va8] at h;omega
   have hcn:Cn r v:=by
    refine⟨hir,?_⟩
    rcases Qia.1 ha with rfl|ha<;>rcases Qia.1 hc' with rfl|hc'<;>rcases Qia.1 hd with rfl|hd
    ·exact absurd (by simp only[mw,dot,c7];grind) hw
    ·exact absurd (by simp only[mw,dot,c7];grind) hw
    ·exact absurd (by simp only[mw,dot,c7];grind) hw
    ·exact⟨p,c,d,hp,hc',hd,by have:=(fl (a:=p) (c:=c) (d:=d)).1;omega,hp0,e2,e3⟩
    ·exact absurd (by simp only[mw,dot,c7];grind) hw
    ·exact⟨a,p,d,ha,hp,hd,by have:=(fl (a:=p) (c:=a) (d:=d)).2.1;omega,e1,hp0,e3⟩
    ·exact⟨a,c,p,ha,hc',hp,by have:=(fl (a:=p) (c:=a) (d:=c)).2.2;omega,e1,e2,hp0⟩
    ·exact⟨a,c,d,ha,hc',hd,hw,e1,e2,e3⟩
   obtain⟨x,hx,he⟩:=hc v hcn hp0;have h1:=he.rm (thr n z);rw[Od3 n z x,hv x hx] at h1;have h1:rmZ (thr n z) v*x.pw=0:=by omega
   exact (Qif.1 h1).resolve_right (by have:=(hl0 x hx).2;omega)
  have a1:=la0 hbd (h:=thr n z) (λv hv=>by rw[hvx v hv];decide) hiu
  have a2:=la0 hbd (h:=Z0 (thr n z)) (λv hv=>by rw[Va8,hvx v hv];decide) hiu
  rw[Va8] at a2;omega
 -- so do all vertices
 have hall:∀v,Inr r v->rmZ (thr n z) v=0:=λv hi=>by
  by_cases hv0:rmZ p v=0
  ·exact hface v hi hv0
  have hvp:0<rmZ p v:=by have:=hi.h p hp;omega
  have hu:Inr r (se3 p z v):=by
   have w1:=Qir hvp hz.w;have w2:rmZ p z*v.pw<0:=Int.mul_neg_of_neg_of_pos hneg hi.w;refine⟨by show 0<rmZ p v*z.pw-rmZ p z*v.pw;omega,λq hq=>?_⟩
   rw[Pc7]
   rcases hr q hq with h|rfl
   ·have b1:=Qih (Qie hvp) (hz.h q h);have b2:rmZ p z*rmZ q v<=0:=Int.mul_nonpos_of_nonpos_of_nonneg (Qie hneg) (hi.h q hq);omega
   ·have:=Int.mul_comm (rmZ q v) (rmZ q z);omega
  have h1:=hface _ hu (by rw[Pc7];have:=Int.mul_comm (rmZ p v) (rmZ p z);omega)
  rw[Pc7] at h1;have h2:rmZ (thr n z) z=0:=by rw[Od3];simp only[dot,dv];grind
  rw[h2] at h1;have h1:rmZ p z*rmZ (thr n z) v=0:=by omega
  exact (Qif.1 h1).resolve_left (by omega)
 exact Od5 hb hB hn' hall
end Go.Ev.Ce
namespace Go.Ev.Ce
open Go Go.Ev Go.Ev.L Go.Proofs
def phP(out:List Pln):Nat:=match out with
 |[]=>0
 |_::_=>1
def Q5(p:Pln)(v:V3):Int:=if okp p&&inV v then (if dot p.n v-p.b<0 then -1 else if dot p.n v-p.b>0 then 1 else 0) else 0
theorem Od6{p:Pln}{v:V3}(hp:Bd p)(hv:inV v=true):Sm 331776 (dot p.n v):=by
 obtain⟨⟨a1,a2⟩,⟨a3,a4⟩,a5,a6⟩:=(sa8 v).1 hv;have r1:=mb hp.x1 hp.x2 a1 a2;have r2:=mb hp.y1 hp.y2 a3 a4;have r3:=mb hp.z1 hp.z2 a5 a6;unfold Sm dot;omega
theorem de4(p:Pln)(v:V3):xa4 p v=some (i (Q5 p v),[]):=by
 unfold xa4 Q5;simp only[Md6,ad1,ke4,Md9];cases hp:okp p with
 |false=>rfl
 |true =>
  cases hv:inV v with
  |false=>rfl
  |true =>
   have hb:=Hb8 hp;have hd:=Od6 hb hv;have e:Ea6 p.n v=dot p.n v:=by
    unfold Ea6;simp only[Hb4,Vb8];exact ob5 (hd.mono (by omega))
   have e2:W (dot p.n v-p.b)=dot p.n v-p.b:=aa0 (by have:=hd.1;have:=hb.b2;omega) (by have:=hd.2;have:=hb.b1;omega)
   rw[e,e2];by_cases h1:dot p.n v-p.b<0
   ·simp only[Qip,if_true,h1,decide_true];rfl
   ·by_cases h2:dot p.n v-p.b>0
    ·simp only[Qip,if_true,h1,h2,decide_true,decide_false,if_false];rfl
    ·simp only[Qip,if_true,h1,h2,decide_false,if_false];rfl
theorem Od7(p:Pln)(v:V3):oa8 p v=Q5 p v:=by unfold oa8;rw[de4];rfl
theorem Pb9{p:Pln}{v:V3}(hp:okp p=true)(hv:inV v=true):Q5 p v>0↔dot p.n v>p.b:=by
 unfold Q5;rw[hp,hv];simp only[Qip,if_true];split
 ·omega
 ·split<;>omega
theorem hb5{p:Pln}{v:V3}(hp:okp p=true)(hv:inV v=true):Q5 p v=0↔dot p.n v=p.b:=by
 unfold Q5;rw[hp,hv];simp only[Qip,if_true];split
 ·omega
 ·split<;>omega
theorem se4(v:V3):g3 v∣v.x/\g3 v∣v.y/\g3 v∣v.z:=by
 unfold g3;refine⟨?_,?_,?_⟩<;>rw[<- Qiu]<;>apply Qim.2
 ·exact Qin (Qil _ _) (Qil _ _)
 ·exact Qin (Qil _ _) (Qij _ _)
 ·exact Qij _ _
theorem se5(v:V3)(h:g3 v≠0):g3 ⟨Int.tdiv v.x (g3 v),Int.tdiv v.y (g3 v),Int.tdiv v.z (g3 v)⟩=1:=by
 generalize hg:g3 v=g at *
 have h0:0<=g:=hg ▸ yb1 v;obtain⟨n,rfl⟩:∃n:Nat,g=n:=⟨g.toNat,by omega⟩
 have hn:0<n:=by omega
 have hgn:Nat.gcd (Nat.gcd v.x.natAbs v.y.natAbs) v.z.natAbs=n:=by unfold g3 at hg;omega
 have d1:n∣Nat.gcd v.x.natAbs v.y.natAbs:=hgn ▸ Qil _ _;have d3:n∣v.z.natAbs:=hgn ▸ Qij _ _;have d4:n∣v.x.natAbs:=Qin d1 (Qil _ _);have d5:n∣v.y.natAbs:=Qin d1 (Qij _ _);unfold g3;simp only[Int.natAbs_tdiv,Int.natAbs_natCast];show ((Nat.gcd (Nat.gcd (v.x.natAbs / n) (v.y.natAbs / n)) (v.z.natAbs / n):Nat):Int)=1;rw[Nat.gcd_div d4 d5,Nat.gcd_div d1 d3,hgn,Nat.div_self hn];rfl
structure Thr(a b c:V3)(p:Pln):Prop where
 ok:okp p=true
 k:∃g:Int,0<g/\g*p.n.x=(c7 (sub b a) (sub c a)).x/\g*p.n.y=(c7 (sub b a) (sub c a)).y/\g*p.n.z=(c7 (sub b a) (sub c a)).z
 o:p.b=dot p.n a
theorem da4{a b c:V3}(h:(A8 a b c).2=true):(inV a=true/\inV b=true/\inV c=true)/\Thr a b c (A8 a b c).1:=by
 unfold A8 at h ⊢;cases ha:inV a with
 |false=>rw[ha] at h;cases h
 |true =>
  cases hb:inV b with
  |false=>rw[ha,hb] at h;cases h
  |true =>
   cases hc:inV c with
   |false=>rw[ha,hb,hc] at h;cases h
   |true =>
    rw[ha,hb,hc] at h;simp only[Qip,if_true] at h ⊢;obtain⟨_,k1,k2,k3⟩:=db2 ha hb hc;generalize hn:c7 (sub b a) (sub c a)=n at *
    by_cases h0:g3 n=0
    ·rw[if_pos h0] at h;cases h
    ·rw[if_neg h0];have hp:=yb1 n;obtain⟨d1,d2,d3⟩:=se4 n;have q1:=da3 (g:=g3 n) k1 (by omega)
     have q2:=da3 (g:=g3 n) k2 (by omega)
     have q3:=da3 (g:=g3 n) k3 (by omega)
     refine⟨⟨trivial,trivial,trivial⟩,⟨?_,⟨g3 n,by omega,by rw[hn];exact Qiv d1,by rw[hn];exact Qiv d2,by rw[hn];exact Qiv d3⟩,rfl⟩⟩
     obtain⟨⟨a1,a2⟩,⟨a3,a4⟩,a5,a6⟩:=(sa8 a).1 ha;have r1:=mb q1.1 q1.2 a1 a2;have r2:=mb q2.1 q2.2 a3 a4;have r3:=mb q3.1 q3.2 a5 a6;unfold okp;rw[se5 n h0];simp only[List.all_cons,List.all_nil,Qig,Qid,kb7,beq_self_eq_true,true_and,and_true];refine⟨⟨q1,q2,q3⟩,?_⟩;unfold Sm dot
     simp only
     omega
theorem de5(a b c:V3):Bd (A8 a b c).1:=by
 cases h:(A8 a b c).2 with
 |true=>exact Hb8 (da4 h).2.ok
 |false =>
  have:(A8 a b c).1=⟨⟨0,0,0⟩,0⟩:=by
   unfold A8 at h ⊢;split
   ·rename_i hc;rw[if_pos hc] at h;split
    ·rfl
    ·rename_i h0;rw[if_neg h0] at h;cases h
   ·rfl
  rw[this]
  constructor<;>simp
theorem Qb0{p:Pln}(h:okp p=true):okp (Z0 p)=true:=by
 unfold okp Z0 g3 at *
 simp only[List.all_cons,List.all_nil,Qig,Qid,kb7,Int.natAbs_neg] at h ⊢;obtain⟨⟨h1,h2,h3⟩,h4,h5⟩:=h;exact⟨⟨h1.neg,h2.neg,h3.neg⟩,h4,h5.neg⟩
noncomputable def Cd3(l:List V3)(p:Pln):Bool:=l.any λv=>Q5 p v != 0
noncomputable def nf(l:List V3)(a c k:Nat):Bool:=(A8 (gL tV l a) (gL tV l c) (gL tV l k)).2&&Cd3 l (A8 (gL tV l a) (gL tV l c) (gL tV l k)).1
noncomputable def nf2(l:List V3)(a c:Nat):Bool:=(List.range c).any (nf l a c)
noncomputable def nf1(l:List V3)(a:Nat):Bool:=(List.range a).any (nf2 l a)
noncomputable def nf0(l:List V3):Bool:=(List.range l.length).any (nf1 l)
theorem uc3 {σ : Type} {step : σ → Stp σ} {mk : Nat → σ} (n : Nat) (c : Nat → Bool) (u fin : Nat) (hn : n ≤ 1000000000) (h : ∀ j, j < n → step (mk j) = sl (c j) (.exit u) (.next (mk (j + 1)))) (hf : step (mk n) = .exit fin) :
  ∃j,lp step (mk 0)=(if (List.range n).any c then u else fin,mk j):=by
 have key:=R6 (step:=step) (mk:=λj (_:Unit)=>mk j) n (λj _=>j<=n/\∀i,i<j->c i=false) (λt s=>t=(if (List.range n).any c then u else fin)/\∃j,s=mk j) hn
  (λj _ hj hi=>by
   rw[h j hj];refine Nx.sl (λhc=>.ex ⟨?_,j,rfl⟩) (λhc=>.nx ⟨(),rfl,by omega,λi hi'=>?_⟩)
   ·rw[if_pos (Qik.2 ⟨j,Qian.2 hj,hc⟩)]
   ·by_cases e:i=j
    ·rw[e];exact hc
    ·exact hi.2 i (by omega))
  (λj _ hj hi=>by
   have e:j=n:=by omega
   subst e;refine⟨fin,hf,?_,j,rfl⟩;rw[if_neg λhh=>?_]
   obtain⟨i,hi1,hi2⟩:=Qik.1 hh;rw[hi.2 i (Qian.1 hi1)] at hi2;cases hi2) 0 () ⟨by omega,by omega⟩
 obtain⟨t,s,h1,rfl,j,rfl⟩:=key;exact⟨j,h1⟩
theorem Od8(l:List V3)(x1 x2 x3:Int)(okb:Bool)(p:Pln)(hl:l.length<=1000000000):∃t s,lp (v7 ⟨l,x1,x2,x3,okb,p.n.x,p.n.y,p.n.z,p.b⟩) ⟨0⟩=(t,s)/\(((okb&&Cd3 l p)=true/\t=1)\/((okb&&Cd3 l p)=false/\(t=2\/t=3))):=by
 cases okb with
 |false =>
  cases l with
  |nil =>
   refine⟨3,⟨0⟩,?_,.inr ⟨rfl,.inr rfl⟩⟩;exact sd6 (step:=v7 ⟨[],x1,x2,x3,false,p.n.x,p.n.y,p.n.z,p.b⟩) rfl
  |cons v l =>
   refine⟨2,⟨0⟩,?_,.inr ⟨rfl,.inl rfl⟩⟩;refine sd6 (step:=v7 ⟨v::l,x1,x2,x3,false,p.n.x,p.n.y,p.n.z,p.b⟩) ?_;simp only[v7,S3];rw[btD (by simp only[List.length_cons];omega)]
   rfl
 |true =>
  have h:=Md0 (step:=v7 ⟨l,x1,x2,x3,true,p.n.x,p.n.y,p.n.z,p.b⟩) (mk:=λj=>(⟨(j:Int)⟩:W7)) (c:=λv=>Q5 p v != 0) (u:=1) (fin:=3) tV l hl
   (λj hj=>by
    simp only[v7,S3,Pc2,Od7,Int.toNat_natCast,C0 hj (show l.length<=4611686018427387904 by omega)]
    rw[btD (o5 hj),bt (i6 hj)]
    rfl)
   (by simp only[v7,S3];rw[bfD (u9 (Qiw _))]) 0 (Nat.zero_le _)
  rw[Qiam] at h;have h:(lp (v7 ⟨l,x1,x2,x3,true,p.n.x,p.n.y,p.n.z,p.b⟩) ⟨0⟩).1=_:=h;cases hlp:lp (v7 ⟨l,x1,x2,x3,true,p.n.x,p.n.y,p.n.z,p.b⟩) ⟨0⟩ with
  |mk t s =>
  rw[hlp] at h;refine⟨t,s,rfl,?_⟩
  simp only at h
  rw[h];unfold Cd3;cases hh:l.any λv=>Q5 p v != 0 with
  |true=>exact .inl ⟨rfl,rfl⟩
  |false=>exact .inr ⟨rfl,.inr rfl⟩
theorem Od9(l:List V3)(hl:l.length<=1000000000)(a c:Nat)(ha:a<l.length)(hc:c<a):∃j,lp (L5 ⟨(a:Int),(c:Int)⟩) ⟨l,0⟩=(if nf2 l a c then 1 else 2,⟨l,((j:Nat):Int)⟩) :=
 uc3 (step:=L5 ⟨(a:Int),(c:Int)⟩) (mk:=λj=>(⟨l,(j:Int)⟩:W8)) c (nf l a c) 1 2 (by omega)
  (λj hj=>by
   simp only[L5,Z7,Bd6,Gc8,Int.toNat_natCast,o6,l9,C0 hj (show c<=4611686018427387904 by omega)]
   rw[btD (o5 hj),bt (i6 ha),bt (i6 (show c<l.length by omega)),bt (i6 (show j<l.length by omega)),w6]
   obtain⟨t,s,h1,h2⟩:=Od8 l (a:Int) (c:Int) (j:Int) (A8 (gL tV l a) (gL tV l c) (gL tV l j)).2 (A8 (gL tV l a) (gL tV l c) (gL tV l j)).1 hl;rw[h1];unfold nf
   rcases h2 with⟨e,rfl⟩|⟨e,rfl|rfl⟩<;>rw[e]<;>rfl)
  (by simp only[L5,Z7];rw[bfD (u9 (Qiw _))])
theorem Pd0(l:List V3)(hl:l.length<=1000000000)(a:Nat)(ha:a<l.length):∃j,lp (L6 ⟨(a:Int)⟩) ⟨l,0⟩=(if nf1 l a then 1 else 2,⟨l,((j:Nat):Int)⟩) :=
 uc3 (step:=L6 ⟨(a:Int)⟩) (mk:=λj=>(⟨l,(j:Int)⟩:W9)) a (nf2 l a) 1 2 (by omega)
  (λj hj=>by
   obtain⟨j',h1⟩:=Od9 l hl a j ha hj;simp only[L6,Z8,o6,l9,C0 hj (show a<=4611686018427387904 by omega)]
   rw[btD (o5 hj),h1];cases nf2 l a j<;>rfl)
  (by simp only[L6,Z8];rw[bfD (u9 (Qiw _))])
theorem de6(l:List V3)(hl:l.length<=1000000000):xa5 l=some (b (!nf0 l),[]):=by
 obtain⟨j,h⟩:=uc3 (step:=L7 ⟨⟩) (mk:=λj=>(⟨l,(j:Int)⟩:X0)) l.length (nf1 l) 1 2 hl
  (λj hj=>by
   obtain⟨j',h1⟩:=Pd0 l hl j hj;simp only[L7,Z9,o6,l9,C0 hj (show l.length<=4611686018427387904 by omega)]
   rw[btD (o5 hj),h1];cases nf1 l j<;>rfl)
  (by simp only[L7,Z9];rw[bfD (u9 (Qiw _))])
 have h:lp (L7 ⟨⟩) ⟨l,0⟩=(if nf0 l then 1 else 2,⟨l,((j:Nat):Int)⟩):=h
 unfold xa5;simp only[o6,l9];rw[h];cases nf0 l<;>rfl
theorem se6(l:List V3)(hl:l.length<=1000000000):Ta9 l=!nf0 l:=by unfold Ta9;rw[de6 l hl];rfl
def hold(p:Pln)(l:List V3):Bool:=!l.any λv=>decide (Q5 p v>0)
noncomputable def bd5 (l:List V3) (a c:Nat) (out:List Pln) (k:Nat):List Pln :=
  if (A8 (gL tV l a) (gL tV l c) (gL tV l k)).2 then
    (if hold (Z0 (A8 (gL tV l a) (gL tV l c) (gL tV l k)).1) l then Pc5 (if hold (A8 (gL tV l a) (gL tV l c) (gL tV l k)).1 l then Pc5 out (A8 (gL tV l a) (gL tV l c) (gL tV l k)).1 else out) (Z0 (A8 (gL tV l a) (gL tV l c) (gL tV l k)).1)
     else (if hold (A8 (gL tV l a) (gL tV l c) (gL tV l k)).1 l then Pc5 out (A8 (gL tV l a) (gL tV l c) (gL tV l k)).1 else out))
  else out
noncomputable def F2(l:List V3)(a:Nat)(out:List Pln)(c:Nat):List Pln:=(List.range c).foldl (bd5 l a c) out
noncomputable def F1(l:List V3)(out:List Pln)(a:Nat):List Pln:=(List.range a).foldl (F2 l a) out
noncomputable def F0(l:List V3):List Pln:=(List.range l.length).foldl (F1 l) []
theorem G8 {τ:Type} (f:τ→Nat→τ) (a:τ) (n:Nat):(List.range (n+1)).foldl f a=f ((List.range n).foldl f a) n:=by
  rw[List.range_succ,List.foldl_append];rfl
theorem uc4 {f:List Pln→Nat→List Pln} {m:Nat} (h:∀ o k,(f o k).length≤o.length+m) (o:List Pln):∀ n,((List.range n).foldl f o).length≤o.length+m*n
  |0=>Nat.le_refl _
  | n+1=>by
    rw[G8];have h1:=h ((List.range n).foldl f o) n;have h2:=uc4 h o n;rw[Nat.mul_succ];omega
def Qb1(l:List Pln)(p:Pln):Bool:=l.any λq=>eqP q p
theorem bd6(l:List Pln)(p:Pln):Qb1 l p=true↔p∈l:=by
 unfold Qb1;rw[Qik];exact⟨λ⟨q,h,e⟩=>by rw[Pb4] at e;exact e ▸ h,λh=>⟨p,h,(Pb4 p p).2 rfl⟩⟩
def ipt(v:V3):Pt:=⟨v.x,v.y,v.z,1⟩
theorem se7{v:V3}(h:inV v=true):∀p∈ws,0<=rmZ p (ipt v):=by
 obtain⟨⟨a1,a2⟩,⟨a3,a4⟩,a5,a6⟩:=(sa8 v).1 h;intro p hp;simp only[ws,Qia,Qiaa,or_false] at hp
 rcases hp with rfl|rfl|rfl|rfl|rfl|rfl<;>simp only[rmZ,ipt]<;>omega
theorem uc5{p:Pln}(h:okp p=true):g3 p.n=1:=by
 unfold okp at h;simp only[Qid,beq_iff_eq] at h;exact h.2.1
theorem ab1{p:Pln}(h:okp p=true):p.n≠⟨0,0,0⟩:=λe=>by
 have:=uc5 h
 rw[e] at this
 revert this
 decide
theorem Pd1(c:Int)(n:V3):g3 ⟨c*n.x,c*n.y,c*n.z⟩=c.natAbs*g3 n:=by
 unfold g3;simp only[Int.natAbs_mul,Nat.gcd_mul_left];rw[Int.natCast_mul]
theorem bd7{m n:V3}(hm:g3 m=1)(hn:g3 n=1)(h:c7 m n=⟨0,0,0⟩):n=m\/n=neg m:=by
 unfold c7 at h;simp only[V3.mk.injEq] at h;obtain⟨c1,c2,c3⟩:=h;have k:∀{c d:Int},c*m.x=d*n.x->c*m.y=d*n.y->c*m.z=d*n.z->c.natAbs=d.natAbs:=λ{c d} e1 e2 e3=>by
  have a1:=Pd1 c m;have a2:=Pd1 d n;rw[e1,e2,e3,a2,hm,hn] at a1;omega
 have ax:=k (c:=n.x) (d:=m.x) (by grind) (by grind) (by grind)
 have ay:=k (c:=n.y) (d:=m.y) (by grind) (by grind) (by grind)
 have az:=k (c:=n.z) (d:=m.z) (by grind) (by grind) (by grind)
 have sg:∀{a c:Int},a.natAbs=c.natAbs->a=c\/a=-c:=λh=>by omega
 -- the sign of one component that is not zero is that of all
 have go:∀{s u t v:Int},u≠0->s*v=u*t->s=u->t=v:=λ{s u t v} hu h e=>by
  subst e;exact (Qiai hu h).symm
 have gn:∀{s u t v:Int},u≠0->s*v=u*t->s=-u->t=-v:=λ{s u t v} hu h e=>by
  subst e
  have:u*t=u*(-v):=by rw[<- h];grind
  exact Qiai hu this
 by_cases hx:m.x=0
 ·have hx':n.x=0:=by omega
  by_cases hy:m.y=0
  ·have hy':n.y=0:=by omega
   rcases sg az with e|e
   ·exact .inl (V3.ext' (by omega) (by omega) e)
   ·exact .inr (V3.ext' (by show n.x=-m.x;omega) (by show n.y=-m.y;omega) e)
  ·rcases sg ay with e|e
   ·exact .inl (V3.ext' (by omega) e (go hy (by grind) e))
   ·exact .inr (V3.ext' (by show n.x=-m.x;omega) e (gn hy (by grind) e))
 ·rcases sg ax with e|e
  ·exact .inl (V3.ext' e (go hx (by grind) e) (go hx (by grind) e))
  ·exact .inr (V3.ext' e (gn hx (by grind) e) (gn hx (by grind) e))
structure Ie7(l:List V3):Prop where
 h:∃a c k v,a∈l/\c∈l/\k∈l/\v∈l/\dot (c7 (sub c a) (sub k a)) (sub v a)≠0
theorem gLm{l:List V3}{j:Nat}(h:j<l.length):gL tV l j∈l:=Ba8 tV h
theorem Ie8{l:List V3}(hf:nf0 l=true):Ie7 l:=by
 unfold nf0 at hf;obtain⟨a,ha,hf⟩:=Qik.1 hf;unfold nf1 at hf;obtain⟨c,hc,hf⟩:=Qik.1 hf;unfold nf2 at hf;obtain⟨k,hk,hf⟩:=Qik.1 hf;rw[Qian] at ha hc hk;unfold nf at hf;rw[Qid] at hf;obtain⟨h1,h2⟩:=hf;obtain⟨⟨i1,i2,i3⟩,⟨ok,⟨g,hg,e1,e2,e3⟩,o⟩⟩:=da4 h1;unfold Cd3 at h2;obtain⟨v,hv,h2⟩:=Qik.1 h2;generalize (A8 (gL tV l a) (gL tV l c) (gL tV l k)).1=p at *
 refine⟨_,_,_,v,gLm ha,gLm (show c<l.length by omega),gLm (show k<l.length by omega),hv,λh0=>?_⟩
 have hs:Q5 p v≠0:=by simpa using h2
 have hiv:inV v=true:=by
  cases hi:inV v with
  |true=>rfl
  |false=>exact absurd (by unfold Q5;rw[ok,hi];rfl) hs
 apply hs;rw[hb5 ok hiv,o]
 have:g*(dot p.n v-dot p.n (gL tV l a))=dot (c7 (sub (gL tV l c) (gL tV l a)) (sub (gL tV l k) (gL tV l a))) (sub v (gL tV l a)):=by
  unfold dot;rw[<- e1,<- e2,<- e3];unfold sub
  grind
 rw[h0] at this
 have:=(Qif.1 this).resolve_left (by omega)
 omega
theorem hb6{p:Pln}{l:List V3}(hp:okp p=true)(hl:l.all inV=true):hold p l=true↔∀v∈l,dot p.n v<=p.b:=by
 unfold hold;rw[Qiz,<- Bool.not_eq_true,Qik];constructor
 ·intro h v hv;have h1:¬ Q5 p v>0:=λh'=>h ⟨v,hv,by simpa using h'⟩
  rw[Pb9 hp (Qio.1 hl v hv)] at h1;omega
 ·rintro h ⟨v,hv,h1⟩;have h1:Q5 p v>0:=by simpa using h1
  rw[Pb9 hp (Qio.1 hl v hv)] at h1
  have:=h v hv
  omega
structure Fct(l:List V3)(p:Pln):Prop where
 ok:okp p=true
 hd:hold p l=true
theorem ub6(p:Pln)(v:V3):dot (Z0 p).n v=-dot p.n v:=by unfold dot Z0;grind
theorem Cd4 (l : List V3) (a c k : Nat) (out : List Pln) (p : Pln) : p ∈ bd5 l a c out k ↔ p ∈ out ∨ ((A8 (gL tV l a) (gL tV l c) (gL tV l k)).2 = true ∧
  ((p=(A8 (gL tV l a) (gL tV l c) (gL tV l k)).1/\hold p l=true)\/(p=Z0 (A8 (gL tV l a) (gL tV l c) (gL tV l k)).1/\hold p l=true))):=by
 unfold bd5;generalize A8 (gL tV l a) (gL tV l c) (gL tV l k)=T;cases h2:T.2 with
 |false=>simp
 |true =>
  simp only[if_true];cases h4:hold (Z0 T.1) l with
  |false =>
   simp only[Qiag,if_false];cases h3:hold T.1 l with
   |false =>
    simp only[Qiag,if_false];constructor
    ·exact λh=>.inl h
    ·rintro (h|⟨_,⟨rfl,h⟩|⟨rfl,h⟩⟩)
     ·exact h
     ·rw[h3] at h;cases h
     ·rw[h4] at h;cases h
   |true =>
    simp only[if_true,ub5];constructor
    ·rintro (rfl|h)
     ·exact .inr ⟨trivial,.inl ⟨rfl,h3⟩⟩
     ·exact .inl h
    ·rintro (h|⟨_,⟨rfl,h⟩|⟨rfl,h⟩⟩)
     ·exact .inr h
     ·exact .inl rfl
     ·rw[h4] at h;cases h
  |true =>
   simp only[if_true,ub5];cases h3:hold T.1 l with
   |false =>
    simp only[Qiag,if_false];constructor
    ·rintro (rfl|h)
     ·exact .inr ⟨trivial,.inr ⟨rfl,h4⟩⟩
     ·exact .inl h
    ·rintro (h|⟨_,⟨rfl,h⟩|⟨rfl,h⟩⟩)
     ·exact .inr h
     ·rw[h3] at h;cases h
     ·exact .inl rfl
   |true =>
    simp only[if_true,ub5];constructor
    ·rintro (rfl|rfl|h)
     ·exact .inr ⟨trivial,.inr ⟨rfl,h4⟩⟩
     ·exact .inr ⟨trivial,.inl ⟨rfl,h3⟩⟩
     ·exact .inl h
    ·rintro (h|⟨_,⟨rfl,h⟩|⟨rfl,h⟩⟩)
     ·exact .inr (.inr h)
     ·exact .inr (.inl rfl)
     ·exact .inl rfl
theorem Va9{f:List Pln->Nat->List Pln}{Q:Nat->Pln->Prop}(h:∀o k p,p∈f o k↔p∈o\/Q k p)(o:List Pln)(p:Pln):∀n,p∈(List.range n).foldl f o↔p∈o\/∃k,k<n/\Q k p
 |0=>by simp
 |n+1=>by
  rw[G8,h,Va9 h o p n];constructor
  ·rintro ((h|⟨k,hk,h⟩)|h)
   ·exact .inl h
   ·exact .inr ⟨k,by omega,h⟩
   ·exact .inr ⟨n,by omega,h⟩
  ·rintro (h|⟨k,hk,h⟩)
   ·exact .inl (.inl h)
   ·by_cases e:k=n
    ·subst e;exact .inr h
    ·exact .inl (.inr ⟨k,by omega,h⟩)
def Fq (l : List V3) (a c k : Nat) (p : Pln) : Prop := (A8 (gL tV l a) (gL tV l c) (gL tV l k)).2 = true ∧
  ((p=(A8 (gL tV l a) (gL tV l c) (gL tV l k)).1/\hold p l=true)\/(p=Z0 (A8 (gL tV l a) (gL tV l c) (gL tV l k)).1/\hold p l=true))
theorem se8(l:List V3)(a c:Nat)(out:List Pln)(p:Pln):p∈F2 l a out c↔p∈out\/∃k,k<c/\Fq l a c k p:=Va9 (λo k p=>Cd4 l a c k o p) out p c
theorem se9(l:List V3)(a:Nat)(out:List Pln)(p:Pln):p∈F1 l out a↔p∈out\/∃c,c<a/\∃k,k<c/\Fq l a c k p:=Va9 (λo c p=>se8 l a c o p) out p a
theorem md3(l:List V3)(p:Pln):p∈F0 l↔∃a,a<l.length/\∃c,c<a/\∃k,k<c/\Fq l a c k p:=by
 have:=Va9 (λo a p=>se9 l a o p) [] p l.length
 simpa [F0] using this
theorem Cd5{l:List V3}{a c:Nat}{out:List Pln}{k:Nat}(h:Ja3 out):Ja3 (bd5 l a c out k):=by
 unfold bd5;split
 ·split
  ·refine Pb7 _ ?_;split
   ·exact Pb7 _ h
   ·exact h
  ·split
   ·exact Pb7 _ h
   ·exact h
 ·exact h
theorem Qb2{f:List Pln->Nat->List Pln}(h:∀o k,Ja3 o->Ja3 (f o k)){o:List Pln}(ho:Ja3 o):∀n,Ja3 ((List.range n).foldl f o)
 |0=>ho
 |n+1=>by rw[G8];exact h _ _ (Qb2 h ho n)
theorem te0{l:List V3}{a c:Nat}{out:List Pln}(h:Ja3 out):Ja3 (F2 l a out c):=Qb2 (λ_ _ h=>Cd5 h) h c
theorem te1{l:List V3}{a:Nat}{out:List Pln}(h:Ja3 out):Ja3 (F1 l out a):=Qb2 (λ_ _ h=>te0 h) h a
theorem Yb2(l:List V3):Ja3 (F0 l):=Qb2 (λ_ _ h=>te1 h) .nil l.length
theorem Yb3{l:List Pln}(h:Ja3 l):l.Nodup:=List.Pairwise.imp (λ{x y} (h:LtP x y) (e:x=y)=>kc7 y (e ▸ h)) h
theorem Pd2{l:List V3}{p:Pln}(hp:p∈F0 l):Fct l p:=by
 obtain⟨a,ha,c,hc,k,hk,h1,⟨h2,h3⟩|⟨h2,h3⟩⟩:=(md3 l p).1 hp
 ·exact⟨h2 ▸ (da4 h1).2.ok,h3⟩
 ·exact⟨h2 ▸ Qb0 (da4 h1).2.ok,h3⟩
structure bd8(c:List Pln):Prop where
 l:c.length<=47
 v:∀p∈c,okp p=true
 f:Nd8 (c++ws)
theorem bd8.chk{c:List Pln}(h:bd8 c):(chk c==0)=true:=by
 rw[beq_iff_eq,tc8];exact⟨by have:=h.l;omega,h.v⟩
theorem bd8.bds{c:List Pln}(h:bd8 c):Bds (c++ws):=(ce7 h.chk).1
theorem bd8.ful{c:List Pln}(h:bd8 c):ful c=true:=by
 unfold Ce.ful;rw[h.chk,(Cd2 h.bds (Od2 c) (by simp[ws])).2 h.f]
 rfl
theorem bd8.pts{c:List Pln}(h:bd8 c):pts c=cor (c++ws):=by unfold Ce.pts;rw[if_pos h.chk]
end Go.Ev.Ce
namespace Go.Ev.Ce
def e7(a b:V3):V3:=⟨a.x-b.x,a.y-b.y,a.z-b.z⟩
def N3(u w x:V3):V3:=c7 (e7 w u) (e7 x u)
def ob6:List V3->V3
 |[]=>⟨0,0,0⟩
 |v::l=>⟨v.x+(ob6 l).x,v.y+(ob6 l).y,v.z+(ob6 l).z⟩
def Qb3:List Int->Int
 |[]=>0
 |x::l=>x+Qb3 l
theorem bd9(n:V3):∀l:List V3,dot n (ob6 l)=Qb3 (l.map (dot n))
 |[]=>by simp[ob6,Qb3,dot]
 |v::l=>by
  have:=bd9 n l
  simp only[List.map_cons,Qb3,<- this];simp only[ob6,dot]
  grind
theorem cd0(m s:Int):∀l:List Int,Qb3 (l.map λa=>m*a-s)=m*Qb3 l-s*l.length
 |[]=>by simp[Qb3]
 |a::l=>by
  have:=cd0 m s l
  simp only[List.map_cons,Qb3,this,List.length_cons]
  grind
theorem cc5:∀{l:List Int},(∀a∈l,a<=0)->Qb3 l<=0
 |[],_=>by simp[Qb3]
 |a::l,h=>by
  have:=cc5 (l:=l) λx hx=>h x (Qib _ hx)
  have:=h a Qic
  simp only[Qb3];omega
theorem Yb4:∀{l:List Int},(∀a∈l,a<=0)->Qb3 l=0->∀a∈l,a=0
 |[],_,_=>λa ha=>by cases ha
 |a::l,h,h0=>by
  have h1:=cc5 (l:=l) λx hx=>h x (Qib _ hx)
  have h2:=h a Qic;simp only[Qb3] at h0;intro b hb
  rcases Qia.1 hb with rfl|hb
  ·omega
  ·exact Yb4 (l:=l) (λx hx=>h x (Qib _ hx)) (by omega) b hb
def Sol(l:List V3):Prop:=∃a c k v,a∈l/\c∈l/\k∈l/\v∈l/\dot (N3 a c k) (e7 v a)≠0
theorem Sol.off{l:List V3}(h:Sol l){n:V3}(hn:n≠⟨0,0,0⟩)(b:Int):∃v∈l,dot n v≠b:=by
 obtain⟨a,c,k,v,ha,hc,hk,hv,hd⟩:=h;by_cases h1:dot n a=b
 ·by_cases h2:dot n c=b
  ·by_cases h3:dot n k=b
   ·by_cases h4:dot n v=b
    ·exfalso;unfold N3 at hd;generalize hD:dot (c7 (e7 c a) (e7 k a)) (e7 v a)=D at *
     have q1:dot n (e7 c a)=0:=by unfold dot e7 at *;grind
     have q2:dot n (e7 k a)=0:=by unfold dot e7 at *;grind
     have q3:dot n (e7 v a)=0:=by unfold dot e7 at *;grind
     generalize e7 c a=p at *
     generalize e7 k a=q at *
     generalize e7 v a=r at *
     have i1:D*n.x=(c7 q r).x*dot n p+(c7 r p).x*dot n q+(c7 p q).x*dot n r:=by rw[<- hD];simp only[dot,c7];grind
     have i2:D*n.y=(c7 q r).y*dot n p+(c7 r p).y*dot n q+(c7 p q).y*dot n r:=by rw[<- hD];simp only[dot,c7];grind
     have i3:D*n.z=(c7 q r).z*dot n p+(c7 r p).z*dot n q+(c7 p q).z*dot n r:=by rw[<- hD];simp only[dot,c7];grind
     rw[q1,q2,q3] at i1 i2 i3;have z:∀{x:Int},D*x=0->x=0:=λh=>(Qif.1 h).resolve_left hd
     exact hn (V3.ext' (z (by omega)) (z (by omega)) (z (by omega)))
    ·exact⟨v,hv,h4⟩
   ·exact⟨k,hk,h3⟩
  ·exact⟨c,hc,h2⟩
 ·exact⟨a,ha,h1⟩
theorem Sol.ne{l:List V3}(h:Sol l):∃v,v∈l:=by obtain⟨a,_,_,_,ha,_⟩:=h;exact⟨a,ha⟩
structure Fac(l:List V3)(n:V3)(b:Int):Prop where
 hd:∀v∈l,dot n v<=b
 on:∃u w x,u∈l/\w∈l/\x∈l/\N3 u w x≠⟨0,0,0⟩/\dot n u=b/\dot n w=b/\dot n x=b
def te2(l:List V3)(c:List Pln):Prop:=∀n b,n≠⟨0,0,0⟩->Fac l n b->∃s t:Int,0<s/\0<t/\∃q∈c,t*q.n.x=s*n.x/\t*q.n.y=s*n.y/\t*q.n.z=s*n.z/\t*q.b=s*b
def pol(m:Int)(S v:V3):Pln:=⟨⟨m*v.x-S.x,m*v.y-S.y,m*v.z-S.z⟩,1⟩
theorem de7(m:Int)(S v d:V3):dot (pol m S v).n d=m*dot d v-dot d S:=by simp only[dot,pol];grind
theorem cd1(l:List V3)(d:V3):Qb3 (l.map λv=>(l.length:Int)*dot d v-dot d (ob6 l))=0:=by
 have h:=cd0 (l.length:Int) (dot d (ob6 l)) (l.map (dot d));rw[List.map_map] at h;have e:((λa=>(l.length:Int)*a-dot d (ob6 l))∘dot d)=λv=>(l.length:Int)*dot d v-dot d (ob6 l):=rfl
 rw[e] at h;rw[h,<- bd9,List.length_map]
 grind
theorem Hc1{a b:V3}(h:dot a b≠0):b≠⟨0,0,0⟩:=λe=>h (by subst e;simp[dot])
theorem uc6{a b:V3}(h:dot a b≠0):a≠⟨0,0,0⟩:=λe=>h (by subst e;simp[dot])
theorem td0{l:List V3}(h:Sol l):0<(l.length:Int):=by
 obtain⟨v,hv⟩:=h.ne
 have:=List.length_pos_of_mem hv
 omega
theorem de8{l:List V3}(h:Sol l):Bdd (l.map (pol l.length (ob6 l))):=λd hd=>by
 by_cases hh:∃p∈l.map (pol l.length (ob6 l)),0<dot p.n d
 ·exact hh
 exfalso;have hm:=td0 h;have hall:∀a∈l.map (λv=>(l.length:Int)*dot d v-dot d (ob6 l)),a<=0:=λa ha=>by
  obtain⟨v,hv,rfl⟩:=Qii.1 ha;refine Int.not_lt.1 λh'=>hh ⟨pol l.length (ob6 l) v,Qii.2 ⟨v,hv,rfl⟩,?_⟩
  rw[de7];omega
 have hz:=Yb4 hall (cd1 l d);obtain⟨a,ha⟩:=h.ne;obtain⟨v,hv,hne⟩:=h.off hd (dot d a);have e1:=hz _ (Qii.2 ⟨a,ha,rfl⟩);have e2:=hz _ (Qii.2 ⟨v,hv,rfl⟩);apply hne
 have:(l.length:Int)*(dot d v-dot d a)=0:=by grind
 have:=(Qif.1 this).resolve_left (by omega)
 omega
theorem yb2{l:List V3}(h4:Sol l){c:List Pln}(hc:te2 l c){x:Pt}(hx:Inr c x){h:Pln}(hh:∀v∈l,dot h.n v<=h.b):0<=rmZ h x:=by
 have hm:=td0 h4;have hr:=de8 h4;generalize hS:ob6 l=S at hr;generalize hM:(l.length:Int)=m at hr hm
 -- the linear function on the polar
 have hv:∀y,Cn (l.map (pol m S)) y->0<=rmZ ⟨⟨m*x.px-x.pw*S.x,m*x.py-x.pw*S.y,m*x.pz-x.pw*S.z⟩,x.pw⟩ y:=λy hy=>by
  obtain⟨p1,p2,p3,hp1,hp2,hp3,hw,e1,e2,e3⟩:=hy.c;obtain⟨v1,m1,rfl⟩:=Qii.1 hp1;obtain⟨v2,m2,rfl⟩:=Qii.1 hp2;obtain⟨v3,m3,rfl⟩:=Qii.1 hp3;have rp:∀v,rmZ (pol m S v) y=y.pw-(m*dot ⟨y.px,y.py,y.pz⟩ v-dot ⟨y.px,y.py,y.pz⟩ S):=λv=>by simp only[rmZ,pol,dot];grind
  rw[rp] at e1 e2 e3;have hn3:dot (pol m S v1).n (N3 v1 v2 v3)≠0:=λh0=>hw (by
   have:mw (pol m S v1) (pol m S v2) (pol m S v3)=m*m*dot (pol m S v1).n (N3 v1 v2 v3):=by simp only[mw,pol,dot,N3,c7,e7];grind
   rw[this,h0,Qiak])
  have hne:N3 v1 v2 v3≠⟨0,0,0⟩:=Hc1 hn3;have hfac:Fac l ⟨m*y.px,m*y.py,m*y.pz⟩ (y.pw+dot ⟨y.px,y.py,y.pz⟩ S):=by
   have ed:∀v,dot ⟨m*y.px,m*y.py,m*y.pz⟩ v=m*dot ⟨y.px,y.py,y.pz⟩ v:=λv=>by simp only[dot];grind
   refine⟨λv hv=>?_,v1,v2,v3,m1,m2,m3,hne,?_,?_,?_⟩
   ·have:=hy.h (pol m S v) (Qii.2 ⟨v,hv,rfl⟩)
    rw[rp] at this;rw[ed];omega
   ·rw[ed];omega
   ·rw[ed];omega
   ·rw[ed];omega
  have hyn:(⟨m*y.px,m*y.py,m*y.pz⟩:V3)≠⟨0,0,0⟩:=λe=>by
   have k:∀{a:Int},m*a=0->a=0:=λh=>(Qif.1 h).resolve_left (by omega)
   simp only[V3.mk.injEq] at e;have a1:=k e.1;have a2:=k e.2.1;have a3:=k e.2.2;rw[a1,a2,a3] at e1;have hw:=hy.w;simp only[dot] at e1;simp only[Qiy,Int.add_zero,Qiak,Int.sub_zero] at e1;omega
  obtain⟨s,t,hs,ht,q,hq,f1,f2,f3,f4⟩:=hc _ _ hyn hfac;have hxq:=hx.h q hq;have e:t*rmZ q x=s*rmZ ⟨⟨m*x.px-x.pw*S.x,m*x.py-x.pw*S.y,m*x.pz-x.pw*S.z⟩,x.pw⟩ y:=by
   have:t*rmZ q x=(t*q.b)*x.pw-((t*q.n.x)*x.px+(t*q.n.y)*x.py+(t*q.n.z)*x.pz):=by simp only[rmZ];grind
   rw[this,f1,f2,f3,f4];simp only[rmZ,dot];grind
  have h1:=Qih (Qie ht) hxq;rw[e] at h1;exact Qiad h1 hs
 by_cases hn:h.n=⟨0,0,0⟩
 ·obtain⟨v,hv⟩:=h4.ne;have h1:=hh v hv;have e:rmZ h x=h.b*x.pw:=by simp only[rmZ,hn];grind
  rw[e];rw[hn] at h1;simp only[dot,Qiy,Int.add_zero] at h1;exact Qih h1 (Qie hx.w)
 ·-- the polar point of h
  have hall:∀a∈l.map (λv=>(l.length:Int)*dot h.n v-dot h.n (ob6 l)),a<=(l.length:Int)*h.b-dot h.n (ob6 l):=λa ha=>by
   obtain⟨v,hv,rfl⟩:=Qii.1 ha
   have:=Qiae (hh v hv) (show 0<=(l.length:Int) by omega)
   omega
  have hpos:0<m*h.b-dot h.n S:=by
   rw[<- hM,<- hS];by_cases h0:0<(l.length:Int)*h.b-dot h.n (ob6 l)
   ·exact h0
   exfalso;have hz:=Yb4 (λa ha=>by have:=hall a ha;omega) (cd1 l h.n)
   obtain⟨v,hv,hne⟩:=h4.off hn h.b;have e1:=hz _ (Qii.2 ⟨v,hv,rfl⟩);have h2:=hh v hv
   have:(l.length:Int)*dot h.n v<(l.length:Int)*h.b:=Int.mul_lt_mul_of_pos_left (by omega) (by omega)
   omega
  have hy:Inr (l.map (pol m S)) ⟨h.n.x,h.n.y,h.n.z,m*h.b-dot h.n S⟩:=⟨hpos,λp hp=>by
   obtain⟨v,hv,rfl⟩:=Qii.1 hp;have e:rmZ (pol m S v) ⟨h.n.x,h.n.y,h.n.z,m*h.b-dot h.n S⟩=m*(h.b-dot h.n v):=by simp only[rmZ,pol,dot];grind
   rw[e];exact Qih (by omega) (by have:=hh v hv;omega)⟩
  have h1:=la0 hr hv hy;have e:rmZ ⟨⟨m*x.px-x.pw*S.x,m*x.py-x.pw*S.y,m*x.pz-x.pw*S.z⟩,x.pw⟩ ⟨h.n.x,h.n.y,h.n.z,m*h.b-dot h.n S⟩=m*rmZ h x:=by simp only[rmZ,dot];grind
  rw[e] at h1;exact Qiad h1 hm
theorem Pc8(own:List V3):(∃a c k,a∈own/\c∈own/\k∈own/\dot a (c7 c k)≠0)\/∃d,d≠(⟨0,0,0⟩:V3)/\∀n∈own,dot n d=0:=by
 by_cases h1:∃a∈own,a≠⟨0,0,0⟩
 ·obtain⟨a,ha,hne⟩:=h1;by_cases h2:∃c∈own,c7 a c≠⟨0,0,0⟩
  ·obtain⟨c,hc,hx⟩:=h2;by_cases h3:∃k∈own,dot k (c7 a c)≠0
   ·obtain⟨k,hk,h⟩:=h3;exact .inl ⟨k,a,c,hk,ha,hc,h⟩
   ·exact .inr ⟨c7 a c,hx,λn hn=>Qiq λh=>h3 ⟨n,hn,h⟩⟩
  ·obtain⟨d,hd,h0⟩:=perp hne;refine .inr ⟨d,hd,λn hn=>?_⟩
   have hc:c7 a n=⟨0,0,0⟩:=Qiq λh=>h2 ⟨n,hn,h⟩
   have e:∀{s t:Int},s*t=0->s≠0->t=0:=λh hs=>(Qif.1 h).resolve_left hs
   unfold c7 at hc;simp only[V3.mk.injEq] at hc;obtain⟨c1,c2,c3⟩:=hc;have k1:a.x*dot n d=0:=by
    have:a.x*dot n d=n.x*dot a d+(a.x*n.y-a.y*n.x)*d.y-(a.z*n.x-a.x*n.z)*d.z:=by simp only[dot];grind
    rw[this,h0,c3,c2];simp
   have k2:a.y*dot n d=0:=by
    have:a.y*dot n d=n.y*dot a d+(a.y*n.z-a.z*n.y)*d.z-(a.x*n.y-a.y*n.x)*d.x:=by simp only[dot];grind
    rw[this,h0,c1,c3];simp
   have k3:a.z*dot n d=0:=by
    have:a.z*dot n d=n.z*dot a d+(a.z*n.x-a.x*n.z)*d.x-(a.y*n.z-a.z*n.y)*d.y:=by simp only[dot];grind
    rw[this,h0,c2,c1];simp
   by_cases hx:a.x=0
   ·by_cases hy:a.y=0
    ·exact e k3 λhz=>hne (V3.ext' hx hy hz)
    ·exact e k2 hy
   ·exact e k1 hx
 ·exact .inr ⟨⟨1, 0, 0⟩, by simp, fun n hn => by
   have:n=⟨0,0,0⟩:=Qiq λh=>h1 ⟨n,hn,h⟩
   rw[this];simp[dot]⟩
theorem big(d:V3):∀c:List Pln,∃N:Int,0<N/\∀p∈c,dot p.n d<=N/\-dot p.n d<=N
 |[]=>⟨1,by decide,λp hp=>by cases hp⟩
 |q::c=>by
  obtain⟨N,h0,h⟩:=big d c;refine⟨N+(dot q.n d).natAbs,by omega,λp hp=>?_⟩
  rcases Qia.1 hp with rfl|hp
  ·omega
  ·have:=h p hp;omega
theorem Wa0{p q s:Pln}(hw:mw p q s≠0){d:V3}(h1:dot p.n d=0)(h2:dot q.n d=0)(h3:dot s.n d=0):d=⟨0,0,0⟩:=by
 have i1:mw p q s*d.x=(c7 q.n s.n).x*dot p.n d+(c7 s.n p.n).x*dot q.n d+(c7 p.n q.n).x*dot s.n d:=by simp only[mw,dot,c7];grind
 have i2:mw p q s*d.y=(c7 q.n s.n).y*dot p.n d+(c7 s.n p.n).y*dot q.n d+(c7 p.n q.n).y*dot s.n d:=by simp only[mw,dot,c7];grind
 have i3:mw p q s*d.z=(c7 q.n s.n).z*dot p.n d+(c7 s.n p.n).z*dot q.n d+(c7 p.n q.n).z*dot s.n d:=by simp only[mw,dot,c7];grind
 rw[h1,h2,h3] at i1 i2 i3;have z:∀{x:Int},mw p q s*x=0->x=0:=λh=>(Qif.1 h).resolve_left hw
 exact V3.ext' (z (by omega)) (z (by omega)) (z (by omega))
def Spn(c:List Pln)(v:V3):Prop:=∃p q s,p∈c/\q∈c/\s∈c/\mw p q s≠0/\dot p.n v=p.b/\dot q.n v=q.b/\dot s.n v=s.b
theorem de9{l:List V3}(h4:Sol l){c w:List Pln}(hc:te2 l c)(hin:∀p∈c++w,∀v∈l,dot p.n v<=p.b){x:Pt}(hx:Cn (c++w) x):∃v∈l,Eqv x ⟨v.x,v.y,v.z,1⟩/\Spn c v:=by
 obtain⟨p,q,s,hp,hq,hs,hw,e1,e2,e3⟩:=hx.c;have hxc:Inr c x:=⟨hx.w,λa ha=>hx.h a (Qiac _ ha)⟩
 have hv:∃v∈l,dot p.n v=p.b/\dot q.n v=q.b/\dot s.n v=s.b:=by
  apply Qiq;intro hno;have h1:=yb2 h4 hc hxc (h:=⟨⟨p.n.x+q.n.x+s.n.x,p.n.y+q.n.y+s.n.y,p.n.z+q.n.z+s.n.z⟩,p.b+q.b+s.b-1⟩) λv hv=>by
   have a1:=hin p hp v hv;have a2:=hin q hq v hv;have a3:=hin s hs v hv;have e:dot ⟨p.n.x+q.n.x+s.n.x,p.n.y+q.n.y+s.n.y,p.n.z+q.n.z+s.n.z⟩ v=dot p.n v+dot q.n v+dot s.n v:=by simp only[dot];grind
   simp only[e]
   have:¬ (dot p.n v=p.b/\dot q.n v=q.b/\dot s.n v=s.b):=λh=>hno ⟨v,hv,h⟩
   omega
  have e:rmZ ⟨⟨p.n.x+q.n.x+s.n.x,p.n.y+q.n.y+s.n.y,p.n.z+q.n.z+s.n.z⟩,p.b+q.b+s.b-1⟩ x=rmZ p x+rmZ q x+rmZ s x-x.pw:=by simp only[rmZ];grind
  rw[e,e1,e2,e3] at h1
  have:=hx.w
  omega
 obtain⟨v,hv,t1,t2,t3⟩:=hv;have hd:(⟨x.px-v.x*x.pw,x.py-v.y*x.pw,x.pz-v.z*x.pw⟩:V3)=⟨0,0,0⟩:=by
  have k:∀{a:Pln},dot a.n v=a.b->rmZ a x=0->dot a.n ⟨x.px-v.x*x.pw,x.py-v.y*x.pw,x.pz-v.z*x.pw⟩=0:=λ{a} h1 h2=>by
   rw[rmZ,<- h1] at h2;simp only[dot] at h2 ⊢
   grind
  exact Wa0 hw (k t1 e1) (k t2 e2) (k t3 e3)
 simp only[V3.mk.injEq] at hd;refine⟨v,hv,⟨?_,?_,?_⟩,?_⟩
 ·show x.px*1=v.x*x.pw;omega
 ·show x.py*1=v.y*x.pw;omega
 ·show x.pz*1=v.z*x.pw;omega
 -- the facets through it span the space
 have hf:∀a:Pln,decide (dot a.n v=a.b)=true↔dot a.n v=a.b:=λa=>by simp
 rcases Pc8 ((c.filter λa=>decide (dot a.n v=a.b)).map Pln.n) with⟨a,b,k,ha',hb',hk',hd⟩|⟨d,hd,h0⟩
 ·obtain⟨a,ha,rfl⟩:=Qii.1 ha';obtain⟨b,hb,rfl⟩:=Qii.1 hb';obtain⟨k,hk,rfl⟩:=Qii.1 hk';rw[List.mem_filter,hf] at ha hb hk;exact⟨a,b,k,ha.1,hb.1,hk.1,hd,ha.2,hb.2,hk.2⟩
 ·exfalso;obtain⟨N,hN,hb⟩:=big d c;have h0':∀a∈c,dot a.n v=a.b->dot a.n d=0:=λa ha h=>h0 a.n (Qii.2 ⟨a,List.mem_filter.2 ⟨ha,by simpa using h⟩,rfl⟩)
  have iny:∀e:V3,(∀a∈c,dot a.n v=a.b->dot a.n e=0)->(∀a∈c,dot a.n e<=N)->Inr c ⟨N*v.x+e.x,N*v.y+e.y,N*v.z+e.z,N⟩:=λe he hle=>⟨hN,λa ha=>by
   have ea:rmZ a ⟨N*v.x+e.x,N*v.y+e.y,N*v.z+e.z,N⟩=N*(a.b-dot a.n v)-dot a.n e:=by simp only[rmZ,dot];grind
   rw[ea];have h1:=hin a (Qiac _ ha) v hv;by_cases ht:dot a.n v=a.b
   ·rw[he a ha ht,ht];simp
   ·have h2:N*1<=N*(a.b-dot a.n v):=Qiae (by omega) (by omega)
    have:=hle a ha
    omega⟩
  have y1:=iny d h0' λa ha=>(hb a ha).1
  have y2:=iny (neg d) (λa ha h=>by rw[kc8,h0' a ha h];rfl) λa ha=>by rw[kc8];exact (hb a ha).2
  have z:∀a∈c++w,dot a.n v=a.b->dot a.n d=0:=λa ha ht=>by
   have a1:=yb2 h4 hc y1 (h:=a) (hin a ha);have a2:=yb2 h4 hc y2 (h:=a) (hin a ha);have e1:rmZ a ⟨N*v.x+d.x,N*v.y+d.y,N*v.z+d.z,N⟩=N*(a.b-dot a.n v)-dot a.n d:=by simp only[rmZ,dot];grind
   have e2:rmZ a ⟨N*v.x+(neg d).x,N*v.y+(neg d).y,N*v.z+(neg d).z,N⟩=N*(a.b-dot a.n v)+dot a.n d:=by simp only[rmZ,dot,neg];grind
   rw[e1,ht] at a1;rw[e2,ht] at a2;simp only[Int.sub_self,Qiak] at a1 a2;omega
  exact hd (Wa0 hw (z p hp t1) (z q hq t2) (z s hs t3))
end Go.Ev.Ce
