/- Own work. -/
import Derived.Test.YtekgjjgbdcgldaaGreatEvODH
set_option linter.all false
def Qia:=@Eq.trans
def Qib:=@List.getD_eq_getElem?_getD
def Qic:=@List.getElem?_eq_getElem
def Qid:=@List.drop_eq_getElem_cons
def Qie:=@Nat.gcd_pos_of_pos_right
def Qif:=@Nat.le_refl
def Qig:=@Bool.false_eq_true
namespace Go.Ev.Ce
open Go Go.Ev Go.Ev.L Go.Proofs
set_option maxRecDepth 100000
noncomputable def rd4:List (Nat×Sum):=[(186,mb5)]
theorem gd1:i4 prog G rd4:=⟨Mb1,trivial⟩
noncomputable def Xa9(x:V3):Option (b7×List b8):=let t1:=(fa2 [x.x,x.y,x.z]);(sl (fa3 [x.x,x.y,x.z]) (sl (t1==0) (some (.tup [.agg [i 0,i 0,i 0],i 0],[])) (sl (t1==0) none (sl (t1==0) none (sl (t1==0) none (some (.tup [.agg [i (W (Int.tdiv x.x t1)),i (W (Int.tdiv x.y t1)),i (W (Int.tdiv x.z t1))],i t1],[])))))) none)
noncomputable def Ja4(x:V3):V3×Int:=O9 (two r1V r1I) (Xa9 x)
noncomputable def rb9(x:V3):Bool:=okO (two r1V r1I) (Xa9 x)
noncomputable def Ac0:Sum:=Q9 (W8 tV) (λx=>.guard (rb9 x) (.ret ((two r1V r1I).enc (Ja4 x),[])))
theorem rd5:f9 prog G 198 Ac0:=Ea7 (bd Yf7 gd1) (two r1V r1I) (o:=Xa9) λx=>q9 (by kernel_rfl)
noncomputable def Ic1:List (Nat×Sum):=[(85,Sb4),(108,cc9),(142,fb2),(198,Ac0),(83,Fa0)]
theorem Ac1:i4 prog G Ic1:=⟨cc7,zc8,wb2,rd5,Ja1,trivial⟩
noncomputable def za7(x:V3)(y:V3)(z:V3):Option (b7×List b8):=let t1:=(wa6 x);let t2:=(wa6 y);let t3:=(wa6 z);let t4:=(Ga3 y x);let t5:=(Ga3 z x);let t6:=(C5 t4 t5);let t7:=(Ja4 t6);let t8:=(j7 t7.1 x);(sl (wa7 x) (sl (!t1) (some (.tup [.agg [i 0,i 0,i 0,i 0],b false],[])) (sl (wa7 y) (sl (!t2) (some (.tup [.agg [i 0,i 0,i 0,i 0],b false],[])) (sl (wa7 z) (sl (!t3) (some (.tup [.agg [i 0,i 0,i 0,i 0],b false],[])) (sl (rb9 t6) (some (.tup [.agg [i t7.1.x,i t7.1.y,i t7.1.z,i t8],b (decide (t7.2>0))],[])) none)) none)) none)) none)
noncomputable def L6(x:V3)(y:V3)(z:V3):Pln×Bool:=O9 (two r1P r1B) (za7 x y z)
noncomputable def oa7(x:V3)(y:V3)(z:V3):Bool:=okO (two r1P r1B) (za7 x y z)
noncomputable def nb7:Sum:=Dd9 (W8 tV) (W8 tV) (W8 tV) (λx y z=>.guard (oa7 x y z) (.ret ((two r1P r1B).enc (L6 x y z),[])))
theorem Mb8:f9 prog G 177 nb7:=Ff7 (bd Xf5 Ac1) (two r1P r1B) (o:=za7) λx y z=>q9 (by kernel_rfl)
noncomputable def rd6:List (Nat×Sum):=[(140,fb3),(85,Sb4),(83,Fa0),(141,Ib5)]
theorem gd2:i4 prog G rd6:=⟨wb7,cc7,Ja1,cc6,trivial⟩
noncomputable def Ya0(x:Pln)(y:V3):Option (b7×List b8):=let t1:=(Ba5 x);let t2:=(wa6 y);let t3:=(j7 x.n y);let t4:=(ja2 t3 x.b);(sl (Ba6 x) (sl (!t1) (some (i 0,[])) (sl (wa7 y) (sl (!t2) (some (i 0,[])) (sl (ja3 t3 x.b) (some (i t4,[])) none)) none)) none)
noncomputable def qa2(x:Pln)(y:V3):Int:=O9 (one r1I) (Ya0 x y)
noncomputable def qa3(x:Pln)(y:V3):Bool:=okO (one r1I) (Ya0 x y)
noncomputable def sb0:Sum:=va4 (W8 tP) (W8 tV) (λx y=>.guard (qa3 x y) (.ret ((one r1I).enc (qa2 x y),[])))
theorem Jb0:f9 prog G 88 sb0:=Rb0 (bd b88 gd2) (one r1I) (o:=Ya0) λx y=>q9 (by kernel_rfl)
structure gb0 where
 (U8 U9 V0 d7 c7 d8 g7:Int)
noncomputable def gd3:List (Nat×Sum):=[(88,sb0)]
theorem Sc5:i4 prog G gd3:=⟨Jb0,trivial⟩
structure gb1 where
 alt:Nat
 bs0:Bool
noncomputable def Ba7{α:Type}(kk:gb1->α)(x:gb0):α:=let t1:=(qa2 (⟨(⟨x.d7,x.c7,x.d8⟩:V3),x.g7⟩:Pln) (⟨x.U8,x.U9,x.V0⟩:V3));(sl (qa3 (⟨(⟨x.d7,x.c7,x.d8⟩:V3),x.g7⟩:Pln) (⟨x.U8,x.U9,x.V0⟩:V3)) (kk ⟨1,t1 != 0⟩) (kk ⟨0,false⟩))
noncomputable def gb2(x:gb0):gb1:=Ba7 (λr=>r) x
noncomputable def yb2(x:gb0)(r:gb1):DT (b7×List b8):=(.ite (Nat.beq r.alt 1) (.ret (b r.bs0,[⟨0,4,[[i x.d7,i x.c7,i x.d8,i x.g7]],true,false,0⟩])) .fail)
theorem rd7{α β:Type}(F:α->β)(kk:gb1->α)(x:gb0):F (Ba7 kk x)=Ba7 (λr=>F (kk r)) x:=by unfold Ba7;(repeat' apply l5 (f:=F))<;>rfl
noncomputable def nc7:Sum:=Ea0 ⟨[.agg (kLq 3),sPq 0],[⟨0,4,true,some [kLq 4]⟩],λa H=>(⟨cIq a 0 0,cIq a 0 1,cIq a 0 2,hIq H 0 0 0,hIq H 0 0 1,hIq H 0 0 2,hIq H 0 0 3⟩,())⟩ (λx=>yb2 x (gb2 x))
theorem gd4:f9 prog G 197 nc7:=B5 (enc:=λx=>⟨[.agg [i x.U8,i x.U9,i x.V0],.ptr 0 0 0 0],[⟨0,4,[[i x.d7,i x.c7,i x.d8,i x.g7]],true,false,0⟩]⟩) (λa H=>by kernel_rfl) (bd Yf6 Sc5) λx=>q9 (Qia (b:=Ba7 (λr=>(yb2 x r).run) x) (by kernel_rfl) (rd7 (λr=>(yb2 x r).run) (λr=>r) x).symm)
structure ca6 where
 i8:List V3
 (d7 c7 d8 g7:Int)
noncomputable def Oa5:List (Nat×Sum):=[(197,nc7)]
theorem Cb5:i4 prog G Oa5:=⟨gd4,trivial⟩
structure M4 where
 i8:List V3
 (is7 d7 c7 d8 g7:Int)
structure p7 where
 is8:Int
noncomputable def Ga4(p:M4)(s:p7):St:=⟨eL tV p.i8::.fn 197 [.ptr 0 0 0 0]::ra 5 (i p.is7::i s.is8::ra 10 []),[⟨0,4,[[i p.d7,i p.c7,i p.d8,i p.g7]],true,false,0⟩]⟩
noncomputable def J0{α:Type}(k:p7->α)(e:Nat->α)(z:α)(p:M4)(s:p7):α:=let t1:=(gb2 ⟨(gL tV p.i8 s.is8.toNat).x,(gL tV p.i8 s.is8.toNat).y,(gL tV p.i8 s.is8.toNat).z,p.d7,p.c7,p.d8,p.g7⟩);(sl (decide (s.is8<p.is7)) (sl (inB s.is8 (List.length p.i8)) (sl (Nat.beq t1.alt 1) (sl t1.bs0 (e 1) (k ⟨W (s.is8+1)⟩)) z) z) (e 2))
noncomputable def K5(p:M4)(s:p7):Stp p7:=J0 .next .exit .fail p s
noncomputable def na5:Lo M4 p7:=⟨En Oa5,1,Td7,[1,0,1,4,4],[0,1,7,8],.p,[⟨sLq tV::.fn 197 [.o (.ptr 0 0 0 0)]::ru2 5 (sIq::sIq::ru2 10 []),[⟨0,4,true,some [kLq 4]⟩],λa H=>(⟨aLq tV a 0,aIq a 7,hIq H 0 0 0,hIq H 0 0 1,hIq H 0 0 2,hIq H 0 0 3⟩,⟨aIq a 8⟩)⟩],K5,[(none,λp s=>⟨[i s.is8],[⟨0,4,[[i p.d7,i p.c7,i p.d8,i p.g7]],true,false,0⟩]⟩),(some 0,λp s=>upq (Ga4 p s) [(9,b (decide (s.is8<p.is7)))])],Ga4⟩
theorem yb3:na5.Ok:=Lo.ok [] (by kernel_rfl) .nil rfl (.cons (λa H=>by kernel_rfl) .nil) λp s=>(.of @J0 (λF _ _ _ _ _=>by unfold J0;(repeat' apply l5 (f:=F))<;>rfl) (by kernel_rfl))
structure ca7 where
 alt:Nat
 is0:Int
noncomputable def J7{α:Type}(kk:ca7->α)(x:ca6):α:=let t1:=(lp (K5 (⟨rt tV x.i8,(↑(List.length x.i8):Int),x.d7,x.c7,x.d8,x.g7⟩:M4)) (⟨0⟩:p7));(sl ((cnE tV x.i8)&&true) (sl (Nat.beq t1.1 1) (kk ⟨1,t1.2.is8⟩) (sl (Nat.beq t1.1 2) (kk ⟨1,-1⟩) (kk ⟨0,0⟩))) (kk ⟨0,0⟩))
noncomputable def ca8(x:ca6):ca7:=J7 (λr=>r) x
noncomputable def ra8(x:ca6)(r:ca7):DT (b7×List b8):=(.ite (Nat.beq r.alt 1) (.ret (i r.is0,[⟨0,4,[[i x.d7,i x.c7,i x.d8,i x.g7]],true,false,0⟩])) .fail)
theorem Mb9{α β:Type}(F:α->β)(kk:ca7->α)(x:ca6):F (J7 kk x)=J7 (λr=>F (kk r)) x:=by unfold J7;(repeat' apply l5 (f:=F))<;>rfl
noncomputable def Ta9:Sum:=Ea0 ⟨[sLq tV,.fn 197 [.o (.ptr 0 0 0 0)]],[⟨0,4,true,some [kLq 4]⟩],λa H=>(⟨aLq tV a 0,hIq H 0 0 0,hIq H 0 0 1,hIq H 0 0 2,hIq H 0 0 3⟩,())⟩ (λx=>ra8 x (ca8 x))
theorem Jb1:f9 prog G 144 Ta9:=B5 (enc:=λx=>⟨[eL tV x.i8,.fn 197 [.ptr 0 0 0 0]],[⟨0,4,[[i x.d7,i x.c7,i x.d8,i x.g7]],true,false,0⟩]⟩) (λa H=>by kernel_rfl) (bd ef0 Cb5) λx=>Ua7 (.s .p (.s (.s .p (.b (.u na5.ls))) .p)) [na5.pr] (by kernel_rfl) (.cons yb3 .nil) (Qia (b:=J7 (λr=>(ra8 x r).run) x) (by kernel_rfl) (Mb9 (λr=>(ra8 x r).run) (λr=>r) x).symm)
structure T2 where
 i8:List V3
 (d7 c7 d8 g7:Int)
noncomputable def sb1:List (Nat×Sum):=[(144,Ta9)]
theorem nb8:i4 prog G sb1:=⟨Jb1,trivial⟩
structure T3 where
 alt:Nat
 bs0:Bool
noncomputable def D3{α:Type}(kk:T3->α)(x:T2):α:=let t1:=(ca8 ⟨rt tV x.i8,x.d7,x.c7,x.d8,x.g7⟩);(sl ((cnE tV x.i8)&&true) (sl (Nat.beq t1.alt 1) (kk ⟨1,decide (t1.is0>=0)⟩) (kk ⟨0,false⟩)) (kk ⟨0,false⟩))
noncomputable def r7(x:T2):T3:=D3 (λr=>r) x
noncomputable def ia3(x:T2)(r:T3):DT (b7×List b8):=(.ite (Nat.beq r.alt 1) (.ret (b r.bs0,[⟨0,4,[[i x.d7,i x.c7,i x.d8,i x.g7]],true,false,0⟩])) .fail)
theorem yb4{α β:Type}(F:α->β)(kk:T3->α)(x:T2):F (D3 kk x)=D3 (λr=>F (kk r)) x:=by unfold D3;(repeat' apply l5 (f:=F))<;>rfl
noncomputable def Ga5:Sum:=Ea0 ⟨[sLq tV,.fn 197 [.o (.ptr 0 0 0 0)]],[⟨0,4,true,some [kLq 4]⟩],λa H=>(⟨aLq tV a 0,hIq H 0 0 0,hIq H 0 0 1,hIq H 0 0 2,hIq H 0 0 3⟩,())⟩ (λx=>ia3 x (r7 x))
theorem sb2:f9 prog G 174 Ga5:=B5 (enc:=λx=>⟨[eL tV x.i8,.fn 197 [.ptr 0 0 0 0]],[⟨0,4,[[i x.d7,i x.c7,i x.d8,i x.g7]],true,false,0⟩]⟩) (λa H=>by kernel_rfl) (bd xf6 nb8) λx=>q9 (Qia (b:=D3 (λr=>(ia3 x r).run) x) (by kernel_rfl) (yb4 (λr=>(ia3 x r).run) (λr=>r) x).symm)
noncomputable def Vb5:List (Nat×Sum):=[]
theorem Ic2:i4 prog G Vb5:=trivial
@[reducible] noncomputable def Ga6:Sum:=lc5 (En Vb5) pf0
theorem Qa6:f9 prog G 119 Ga6:=bd Uf3 Ic2
noncomputable def sb3:List (Nat×Sum):=[(177,nb7),(174,Ga5),(119,Ga6)]
theorem rd8:i4 prog G sb3:=⟨Mb8,sb2,Qa6,trivial⟩
structure ja4 where
 (is3 is4 is9 r8 ra4 r9 eb6:Int)
 (b9 f7:List V3)
structure L7 where
 E9:Int
noncomputable def dc0(p:ja4)(s:L7):St:=⟨.unk::.ptr 0 0 0 0::.unk::i p.is3::i p.is4::ra 4 (i p.is9::i p.r8::ra 5 (i p.ra4::i p.r9::ra 5 (i p.eb6::i s.E9::ra 35 (i 0::.unk::.ptr 1 0 0 0::.ptr 2 0 0 0::ra 8 [])))),[⟨0,1,[[eL tV p.b9]],true,false,0⟩,⟨0,1,[[eL tV p.f7]],true,false,0⟩,⟨0,1,[[b false]],true,false,0⟩]⟩
noncomputable def za8{α:Type}(k:L7->α)(e:Nat->α)(z:α)(p:ja4)(s:L7):α:=let t1:=(L6 (gL tV p.b9 s.E9.toNat) (gL tV p.b9 p.is4.toNat) (gL tV p.b9 p.is3.toNat));let t2:=(r7 ⟨rt tV p.f7,t1.1.n.x,t1.1.n.y,t1.1.n.z,t1.1.b⟩);(sl (decide (s.E9<p.eb6)) (sl (inB s.E9 (List.length p.b9)) (sl (inB p.is4 (List.length p.b9)) (sl (inB p.is3 (List.length p.b9)) (sl (oa7 (gL tV p.b9 s.E9.toNat) (gL tV p.b9 p.is4.toNat) (gL tV p.b9 p.is3.toNat)) (sl t1.2 (sl t1.2 (sl ((cnE tV p.f7)&&true) (sl (Nat.beq t2.alt 1) (e 1) z) z) (k ⟨W (s.E9+1)⟩)) (sl t1.2 z (k ⟨W (s.E9+1)⟩))) z) z) z) z) (e 2))
noncomputable def T4(p:ja4)(s:L7):Stp L7:=za8 .next .exit .fail p s
noncomputable def Jb2:Lo ja4 L7:=⟨En sb3,0,oe9,[1,0,1,4,4,1,4,4,1,1,0,4,1,1,4,4,1,1,0,4,1,1,4,4],[1,3,4,9,10,16,17,23,24,60,62,63],.p,[⟨sUq::sPq 0::sUq::sIq::sIq::ru2 4 (sIq::sIq::ru2 5 (sIq::sIq::ru2 5 (sIq::sIq::ru2 35 (.s (.o (.lit .i64 0))::sUq::sPq 1::sPq 2::ru2 8 [])))),[⟨0,1,true,some [[.c 3 (nL tV)]]⟩,⟨0,1,true,some [[.c 3 (nL tV)]]⟩,⟨0,1,true,some [[.o (.blit false)]]⟩],λa H=>(⟨aIq a 3,aIq a 4,aIq a 9,aIq a 10,aIq a 16,aIq a 17,aIq a 23,hLq tV H 0 0 0,hLq tV H 1 0 0⟩,⟨aIq a 24⟩)⟩],T4,[(none,λp s=>let t1:=(L6 (gL tV p.b9 s.E9.toNat) (gL tV p.b9 p.is4.toNat) (gL tV p.b9 p.is3.toNat));let t2:=(r7 ⟨rt tV p.f7,t1.1.n.x,t1.1.n.y,t1.1.n.z,t1.1.b⟩);⟨.unk::.ptr 0 0 0 0::.unk::i p.is3::i p.is4::i s.E9::.ptr 3 0 0 0::b t1.2::.unk::i p.is9::i p.r8::ra 5 (i p.ra4::i p.r9::ra 5 (i p.eb6::i s.E9::b (decide (s.E9<p.eb6))::i s.E9::.tup [.agg [i t1.1.n.x,i t1.1.n.y,i t1.1.n.z,i t1.1.b],b t1.2]::eL tV p.b9::i s.E9::.tptr [i (gL tV p.b9 s.E9.toNat).x,i (gL tV p.b9 s.E9.toNat).y,i (gL tV p.b9 s.E9.toNat).z]::.agg [i (gL tV p.b9 s.E9.toNat).x,i (gL tV p.b9 s.E9.toNat).y,i (gL tV p.b9 s.E9.toNat).z]::eL tV p.b9::i p.is4::.tptr [i (gL tV p.b9 p.is4.toNat).x,i (gL tV p.b9 p.is4.toNat).y,i (gL tV p.b9 p.is4.toNat).z]::.agg [i (gL tV p.b9 p.is4.toNat).x,i (gL tV p.b9 p.is4.toNat).y,i (gL tV p.b9 p.is4.toNat).z]::eL tV p.b9::i p.is3::.tptr [i (gL tV p.b9 p.is3.toNat).x,i (gL tV p.b9 p.is3.toNat).y,i (gL tV p.b9 p.is3.toNat).z]::.agg [i (gL tV p.b9 p.is3.toNat).x,i (gL tV p.b9 p.is3.toNat).y,i (gL tV p.b9 p.is3.toNat).z]::.tup [.agg [i t1.1.n.x,i t1.1.n.y,i t1.1.n.z,i t1.1.b],b t1.2]::.agg [i t1.1.n.x,i t1.1.n.y,i t1.1.n.z,i t1.1.b]::b t1.2::b t1.2::b true::.unk::.agg [i t1.1.n.x,i t1.1.n.y,i t1.1.n.z,i t1.1.b]::b false::b true::b true::.unk::u::u::u::u::b true::b true::ra 3 (i 1::.unk::.ptr 1 0 0 0::.ptr 2 0 0 0::ra 8 []))),[⟨0,1,[[eL tV p.b9]],true,false,0⟩,⟨0,1,[[eL tV p.f7]],true,false,0⟩,⟨0,1,[[b (!t2.bs0)]],true,false,0⟩,⟨0,4,[[i t1.1.n.x,i t1.1.n.y,i t1.1.n.z,i t1.1.b]],true,false,0⟩,⟨0,4,[[i t1.1.n.x,i t1.1.n.y,i t1.1.n.z,i t1.1.b]],true,false,0⟩]⟩),(some 4,λp s=>upq (dc0 p s) [(25,b (decide (s.E9<p.eb6)))])],dc0⟩
theorem gd5:Jb2.OkM:=Lo.okM [] (by kernel_rfl) .nil rfl (.cons (λa H=>by kernel_rfl) .nil) λp s=>(.of @za8 (λF _ _ _ _ _=>by unfold za8;(repeat' apply l5 (f:=F))<;>rfl) (by kernel_rfl))
structure ra9 where
 (is3 is9 r8 ra4:Int)
structure O4 where
 r9:Int
 (b9 f7:List V3)
noncomputable def dc1(p:ra9)(s:O4):St:=⟨.unk::.ptr 0 0 0 0::.unk::i p.is3::ra 5 (i p.is9::i p.r8::ra 5 (i p.ra4::i s.r9::ra 42 (i 0::.unk::.ptr 1 0 0 0::.ptr 2 0 0 0::ra 8 []))),[⟨0,1,[[eL tV s.b9]],true,false,0⟩,⟨0,1,[[eL tV s.f7]],true,false,0⟩,⟨0,1,[[b false]],true,false,0⟩]⟩
noncomputable def za9{α:Type}(k:O4->α)(e:Nat->α)(z:α)(p:ra9)(s:O4):α:=let t1:=(lp (T4 (⟨p.is3,s.r9,p.is9,p.r8,p.ra4,s.r9,(↑(s.r9.toNat-0):Int),rt tV s.b9,rt tV s.f7⟩:ja4)) (⟨0⟩:L7));(sl (decide (s.r9<p.ra4)) (sl (inB s.r9 ((List.length s.b9)+1)) (sl ((cnE tV s.b9)&&((cnE tV s.f7)&&true)) (sl (Nat.beq t1.1 1) (e 1) (sl (Nat.beq t1.1 2) (k ⟨W (s.r9+1),rt tV s.b9,rt tV s.f7⟩) z)) z) z) (e 2))
noncomputable def ba6(p:ra9)(s:O4):Stp O4:=za9 .next .exit .fail p s
noncomputable def Jb3:Lo ra9 O4:=⟨En sb3,0,oe9,[1,0,1,4,4,1,4,4,1,1,0,4,1,1,4,4],[1,3,9,10,16,17,60,62,63],.s .p (.s .p (.s (.b (.s .p (.s .p (.b (.u Jb2.lsM))))) .p)),[⟨sUq::sPq 0::sUq::sIq::ru2 5 (sIq::sIq::ru2 5 (sIq::sIq::ru2 42 (.s (.o (.lit .i64 0))::sUq::sPq 1::sPq 2::ru2 8 []))),[⟨0,1,true,some [[.c 3 (nL tV)]]⟩,⟨0,1,true,some [[.c 3 (nL tV)]]⟩,⟨0,1,true,some [[.o (.blit false)]]⟩],λa H=>(⟨aIq a 3,aIq a 9,aIq a 10,aIq a 16⟩,⟨aIq a 17,hLq tV H 0 0 0,hLq tV H 1 0 0⟩)⟩],ba6,[(none,λp s=>let t1:=(lp (T4 (⟨p.is3,s.r9,p.is9,p.r8,p.ra4,s.r9,(↑(s.r9.toNat-0):Int),rt tV s.b9,rt tV s.f7⟩:ja4)) (⟨0⟩:L7));let t2:=(L6 (gL tV (rt tV s.b9) t1.2.E9.toNat) (gL tV (rt tV s.b9) s.r9.toNat) (gL tV (rt tV s.b9) p.is3.toNat));let t3:=(r7 ⟨rt tV (rt tV s.f7),t2.1.n.x,t2.1.n.y,t2.1.n.z,t2.1.b⟩);⟨.unk::.ptr 0 0 0 0::.unk::i p.is3::i s.r9::i t1.2.E9::.ptr 3 0 0 0::b t2.2::.unk::i p.is9::i p.r8::ra 5 (i p.ra4::i s.r9::ra 5 (i (↑(s.r9.toNat-0):Int)::i t1.2.E9::b (decide (t1.2.E9<(↑(s.r9.toNat-0):Int)))::i t1.2.E9::.tup [.agg [i t2.1.n.x,i t2.1.n.y,i t2.1.n.z,i t2.1.b],b t2.2]::eL tV (rt tV s.b9)::i t1.2.E9::.tptr [i (gL tV (rt tV s.b9) t1.2.E9.toNat).x,i (gL tV (rt tV s.b9) t1.2.E9.toNat).y,i (gL tV (rt tV s.b9) t1.2.E9.toNat).z]::.agg [i (gL tV (rt tV s.b9) t1.2.E9.toNat).x,i (gL tV (rt tV s.b9) t1.2.E9.toNat).y,i (gL tV (rt tV s.b9) t1.2.E9.toNat).z]::eL tV (rt tV s.b9)::i s.r9::.tptr [i (gL tV (rt tV s.b9) s.r9.toNat).x,i (gL tV (rt tV s.b9) s.r9.toNat).y,i (gL tV (rt tV s.b9) s.r9.toNat).z]::.agg [i (gL tV (rt tV s.b9) s.r9.toNat).x,i (gL tV (rt tV s.b9) s.r9.toNat).y,i (gL tV (rt tV s.b9) s.r9.toNat).z]::eL tV (rt tV s.b9)::i p.is3::.tptr [i (gL tV (rt tV s.b9) p.is3.toNat).x,i (gL tV (rt tV s.b9) p.is3.toNat).y,i (gL tV (rt tV s.b9) p.is3.toNat).z]::.agg [i (gL tV (rt tV s.b9) p.is3.toNat).x,i (gL tV (rt tV s.b9) p.is3.toNat).y,i (gL tV (rt tV s.b9) p.is3.toNat).z]::.tup [.agg [i t2.1.n.x,i t2.1.n.y,i t2.1.n.z,i t2.1.b],b t2.2]::.agg [i t2.1.n.x,i t2.1.n.y,i t2.1.n.z,i t2.1.b]::b t2.2::b t2.2::b true::.unk::.agg [i t2.1.n.x,i t2.1.n.y,i t2.1.n.z,i t2.1.b]::b false::b true::b true::.unk::u::u::u::u::b true::b true::ra 3 (i 1::.unk::.ptr 1 0 0 0::.ptr 2 0 0 0::ra 8 []))),[⟨0,1,[[eL tV (rt tV s.b9)]],true,false,0⟩,⟨0,1,[[eL tV (rt tV s.f7)]],true,false,0⟩,⟨0,1,[[b (!t3.bs0)]],true,false,0⟩,⟨0,4,[[i t2.1.n.x,i t2.1.n.y,i t2.1.n.z,i t2.1.b]],true,false,0⟩,⟨0,4,[[i t2.1.n.x,i t2.1.n.y,i t2.1.n.z,i t2.1.b]],true,false,0⟩]⟩),(some 2,λp s=>upq (dc1 p s) [(18,b (decide (s.r9<p.ra4)))])],dc1⟩
theorem gd6:Jb3.OkM:=Lo.okM [Jb2.prM] (by kernel_rfl) (.cons gd5 .nil) rfl (.cons (λa H=>by kernel_rfl) .nil) λp s=>(.of @za9 (λF _ _ _ _ _=>by unfold za9;(repeat' apply l5 (f:=F))<;>rfl) (by kernel_rfl))
structure Oa6 where
 is9:Int
structure aa4 where
 r8:Int
 (b9 f7:List V3)
noncomputable def dc2(p:Oa6)(s:aa4):St:=⟨.unk::.ptr 0 0 0 0::ra 7 (i p.is9::i s.r8::ra 49 (i 0::.unk::.ptr 1 0 0 0::.ptr 2 0 0 0::ra 8 [])),[⟨0,1,[[eL tV s.b9]],true,false,0⟩,⟨0,1,[[eL tV s.f7]],true,false,0⟩,⟨0,1,[[b false]],true,false,0⟩]⟩
noncomputable def Aa0{α:Type}(k:aa4->α)(e:Nat->α)(z:α)(p:Oa6)(s:aa4):α:=let t1:=(lp (ba6 (⟨s.r8,p.is9,s.r8,(↑(s.r8.toNat-0):Int)⟩:ra9)) (⟨0,rt tV s.b9,rt tV s.f7⟩:O4));(sl (decide (s.r8<p.is9)) (sl (inB s.r8 ((List.length s.b9)+1)) (sl ((cnE tV s.b9)&&((cnE tV s.f7)&&true)) (sl (Nat.beq t1.1 1) (e 1) (sl (Nat.beq t1.1 2) (k ⟨W (s.r8+1),t1.2.b9,t1.2.f7⟩) z)) z) z) (e 2))
noncomputable def ua8(p:Oa6)(s:aa4):Stp aa4:=Aa0 .next .exit .fail p s
noncomputable def Jb4:Lo Oa6 aa4:=⟨En sb3,0,oe9,[1,0,1,4,4,1,4,4],[1,9,10,60,62,63],.s .p (.s .p (.s (.b (.s .p (.s .p (.b (.u Jb3.lsM))))) .p)),[⟨sUq::sPq 0::ru2 7 (sIq::sIq::ru2 49 (.s (.o (.lit .i64 0))::sUq::sPq 1::sPq 2::ru2 8 [])),[⟨0,1,true,some [[.c 3 (nL tV)]]⟩,⟨0,1,true,some [[.c 3 (nL tV)]]⟩,⟨0,1,true,some [[.o (.blit false)]]⟩],λa H=>(⟨aIq a 9⟩,⟨aIq a 10,hLq tV H 0 0 0,hLq tV H 1 0 0⟩)⟩],ua8,[(none,λp s=>let t1:=(lp (ba6 (⟨s.r8,p.is9,s.r8,(↑(s.r8.toNat-0):Int)⟩:ra9)) (⟨0,rt tV s.b9,rt tV s.f7⟩:O4));let t2:=(lp (T4 (⟨s.r8,t1.2.r9,p.is9,s.r8,(↑(s.r8.toNat-0):Int),t1.2.r9,(↑(t1.2.r9.toNat-0):Int),rt tV t1.2.b9,rt tV t1.2.f7⟩:ja4)) (⟨0⟩:L7));let t3:=(L6 (gL tV (rt tV t1.2.b9) t2.2.E9.toNat) (gL tV (rt tV t1.2.b9) t1.2.r9.toNat) (gL tV (rt tV t1.2.b9) s.r8.toNat));let t4:=(r7 ⟨rt tV (rt tV t1.2.f7),t3.1.n.x,t3.1.n.y,t3.1.n.z,t3.1.b⟩);⟨.unk::.ptr 0 0 0 0::.unk::i s.r8::i t1.2.r9::i t2.2.E9::.ptr 3 0 0 0::b t3.2::.unk::i p.is9::i s.r8::ra 5 (i (↑(s.r8.toNat-0):Int)::i t1.2.r9::ra 5 (i (↑(t1.2.r9.toNat-0):Int)::i t2.2.E9::b (decide (t2.2.E9<(↑(t1.2.r9.toNat-0):Int)))::i t2.2.E9::.tup [.agg [i t3.1.n.x,i t3.1.n.y,i t3.1.n.z,i t3.1.b],b t3.2]::eL tV (rt tV t1.2.b9)::i t2.2.E9::.tptr [i (gL tV (rt tV t1.2.b9) t2.2.E9.toNat).x,i (gL tV (rt tV t1.2.b9) t2.2.E9.toNat).y,i (gL tV (rt tV t1.2.b9) t2.2.E9.toNat).z]::.agg [i (gL tV (rt tV t1.2.b9) t2.2.E9.toNat).x,i (gL tV (rt tV t1.2.b9) t2.2.E9.toNat).y,i (gL tV (rt tV t1.2.b9) t2.2.E9.toNat).z]::eL tV (rt tV t1.2.b9)::i t1.2.r9::.tptr [i (gL tV (rt tV t1.2.b9) t1.2.r9.toNat).x,i (gL tV (rt tV t1.2.b9) t1.2.r9.toNat).y,i (gL tV (rt tV t1.2.b9) t1.2.r9.toNat).z]::.agg [i (gL tV (rt tV t1.2.b9) t1.2.r9.toNat).x,i (gL tV (rt tV t1.2.b9) t1.2.r9.toNat).y,i (gL tV (rt tV t1.2.b9) t1.2.r9.toNat).z]::eL tV (rt tV t1.2.b9)::i s.r8::.tptr [i (gL tV (rt tV t1.2.b9) s.r8.toNat).x,i (gL tV (rt tV t1.2.b9) s.r8.toNat).y,i (gL tV (rt tV t1.2.b9) s.r8.toNat).z]::.agg [i (gL tV (rt tV t1.2.b9) s.r8.toNat).x,i (gL tV (rt tV t1.2.b9) s.r8.toNat).y,i (gL tV (rt tV t1.2.b9) s.r8.toNat).z]::.tup [.agg [i t3.1.n.x,i t3.1.n.y,i t3.1.n.z,i t3.1.b],b t3.2]::.agg [i t3.1.n.x,i t3.1.n.y,i t3.1.n.z,i t3.1.b]::b t3.2::b t3.2::b true::.unk::.agg [i t3.1.n.x,i t3.1.n.y,i t3.1.n.z,i t3.1.b]::b false::b true::b true::.unk::u::u::u::u::b true::b true::ra 3 (i 1::.unk::.ptr 1 0 0 0::.ptr 2 0 0 0::ra 8 []))),[⟨0,1,[[eL tV (rt tV t1.2.b9)]],true,false,0⟩,⟨0,1,[[eL tV (rt tV t1.2.f7)]],true,false,0⟩,⟨0,1,[[b (!t4.bs0)]],true,false,0⟩,⟨0,4,[[i t3.1.n.x,i t3.1.n.y,i t3.1.n.z,i t3.1.b]],true,false,0⟩,⟨0,4,[[i t3.1.n.x,i t3.1.n.y,i t3.1.n.z,i t3.1.b]],true,false,0⟩]⟩),(some 0,λp s=>upq (dc2 p s) [(11,b (decide (s.r8<p.is9)))])],dc2⟩
theorem gd7:Jb4.OkM:=Lo.okM [Jb3.prM] (by kernel_rfl) (.cons gd6 .nil) rfl (.cons (λa H=>by kernel_rfl) .nil) λp s=>(.of @Aa0 (λF _ _ _ _ _=>by unfold Aa0;(repeat' apply l5 (f:=F))<;>rfl) (by kernel_rfl))
noncomputable def kb5(x:List V3):Option (b7×List b8):=let t1:=(lp (ua8 (⟨(↑(List.length x):Int)⟩:Oa6)) (⟨0,rt tV x,rt tV x⟩:aa4));let t2:=(lp (ba6 (⟨t1.2.r8,(↑(List.length x):Int),t1.2.r8,(↑(t1.2.r8.toNat-0):Int)⟩:ra9)) (⟨0,rt tV t1.2.b9,rt tV t1.2.f7⟩:O4));let t3:=(lp (T4 (⟨t1.2.r8,t2.2.r9,(↑(List.length x):Int),t1.2.r8,(↑(t1.2.r8.toNat-0):Int),t2.2.r9,(↑(t2.2.r9.toNat-0):Int),rt tV t2.2.b9,rt tV t2.2.f7⟩:ja4)) (⟨0⟩:L7));let t4:=(L6 (gL tV (rt tV t2.2.b9) t3.2.E9.toNat) (gL tV (rt tV t2.2.b9) t2.2.r9.toNat) (gL tV (rt tV t2.2.b9) t1.2.r8.toNat));let t5:=(r7 ⟨rt tV (rt tV t2.2.f7),t4.1.n.x,t4.1.n.y,t4.1.n.z,t4.1.b⟩);(sl ((cnE tV x)&&((cnE tV x)&&true)) (sl (Nat.beq t1.1 1) (some (b (!t5.bs0),[])) (sl (Nat.beq t1.1 2) (some (b true,[])) none)) none)
noncomputable def Eb8(x:List V3):Bool:=O9 (one r1B) (kb5 x)
noncomputable def Eb9(x:List V3):Bool:=okO (one r1B) (kb5 x)
noncomputable def Oc7:Sum:=Q9 (ta7 tV) (λx=>.guard (Eb9 x) (.ret ((one r1B).enc (Eb8 x),[])))
theorem Hd3:f9 prog G 175 Oc7:=Ea7 (bd Xf4 rd8) (one r1B) (o:=kb5) λx=>dd7 (.s .p (.s (.s .p (.b (.i (.s .p (.b (.u Jb4.lsM)))))) .p)) [Jb4.prM] (by kernel_rfl) (.cons gd7 .nil) (by kernel_rfl)
structure Qa7 where
 (U8 U9 V0 d7 c7 d8 g7:Int)
noncomputable def Ic3:List (Nat×Sum):=[(88,sb0)]
theorem Ac2:i4 prog G Ic3:=⟨Jb0,trivial⟩
structure Qa8 where
 alt:Nat
 bs0:Bool
noncomputable def oa8{α:Type}(kk:Qa8->α)(x:Qa7):α:=let t1:=(qa2 (⟨(⟨x.d7,x.c7,x.d8⟩:V3),x.g7⟩:Pln) (⟨x.U8,x.U9,x.V0⟩:V3));(sl (qa3 (⟨(⟨x.d7,x.c7,x.d8⟩:V3),x.g7⟩:Pln) (⟨x.U8,x.U9,x.V0⟩:V3)) (kk ⟨1,decide (t1>0)⟩) (kk ⟨0,false⟩))
noncomputable def Qa9(x:Qa7):Qa8:=oa8 (λr=>r) x
noncomputable def db4(x:Qa7)(r:Qa8):DT (b7×List b8):=(.ite (Nat.beq r.alt 1) (.ret (b r.bs0,[⟨0,4,[[i x.d7,i x.c7,i x.d8,i x.g7]],true,false,0⟩])) .fail)
theorem Sc6{α β:Type}(F:α->β)(kk:Qa8->α)(x:Qa7):F (oa8 kk x)=oa8 (λr=>F (kk r)) x:=by unfold oa8;(repeat' apply l5 (f:=F))<;>rfl
noncomputable def Vb6:Sum:=Ea0 ⟨[.agg (kLq 3),sPq 0],[⟨0,4,true,some [kLq 4]⟩],λa H=>(⟨cIq a 0 0,cIq a 0 1,cIq a 0 2,hIq H 0 0 0,hIq H 0 0 1,hIq H 0 0 2,hIq H 0 0 3⟩,())⟩ (λx=>db4 x (Qa9 x))
theorem Ic4:f9 prog G 178 Vb6:=B5 (enc:=λx=>⟨[.agg [i x.U8,i x.U9,i x.V0],.ptr 0 0 0 0],[⟨0,4,[[i x.d7,i x.c7,i x.d8,i x.g7]],true,false,0⟩]⟩) (λa H=>by kernel_rfl) (bd Xf6 Ac2) λx=>q9 (Qia (b:=oa8 (λr=>(db4 x r).run) x) (by kernel_rfl) (Sc6 (λr=>(db4 x r).run) (λr=>r) x).symm)
structure ca9 where
 i8:List V3
 (d7 c7 d8 g7:Int)
noncomputable def Oa7:List (Nat×Sum):=[(178,Vb6)]
theorem Cb6:i4 prog G Oa7:=⟨Ic4,trivial⟩
structure M5 where
 i8:List V3
 (is7 d7 c7 d8 g7:Int)
structure p8 where
 is8:Int
noncomputable def Ga7(p:M5)(s:p8):St:=⟨eL tV p.i8::.fn 178 [.ptr 0 0 0 0]::ra 5 (i p.is7::i s.is8::ra 10 []),[⟨0,4,[[i p.d7,i p.c7,i p.d8,i p.g7]],true,false,0⟩]⟩
noncomputable def J1{α:Type}(k:p8->α)(e:Nat->α)(z:α)(p:M5)(s:p8):α:=let t1:=(Qa9 ⟨(gL tV p.i8 s.is8.toNat).x,(gL tV p.i8 s.is8.toNat).y,(gL tV p.i8 s.is8.toNat).z,p.d7,p.c7,p.d8,p.g7⟩);(sl (decide (s.is8<p.is7)) (sl (inB s.is8 (List.length p.i8)) (sl (Nat.beq t1.alt 1) (sl t1.bs0 (e 1) (k ⟨W (s.is8+1)⟩)) z) z) (e 2))
noncomputable def K6(p:M5)(s:p8):Stp p8:=J1 .next .exit .fail p s
noncomputable def na6:Lo M5 p8:=⟨En Oa7,1,Td7,[1,0,1,4,4],[0,1,7,8],.p,[⟨sLq tV::.fn 178 [.o (.ptr 0 0 0 0)]::ru2 5 (sIq::sIq::ru2 10 []),[⟨0,4,true,some [kLq 4]⟩],λa H=>(⟨aLq tV a 0,aIq a 7,hIq H 0 0 0,hIq H 0 0 1,hIq H 0 0 2,hIq H 0 0 3⟩,⟨aIq a 8⟩)⟩],K6,[(none,λp s=>⟨[i s.is8],[⟨0,4,[[i p.d7,i p.c7,i p.d8,i p.g7]],true,false,0⟩]⟩),(some 0,λp s=>upq (Ga7 p s) [(9,b (decide (s.is8<p.is7)))])],Ga7⟩
theorem yb5:na6.Ok:=Lo.ok [] (by kernel_rfl) .nil rfl (.cons (λa H=>by kernel_rfl) .nil) λp s=>(.of @J1 (λF _ _ _ _ _=>by unfold J1;(repeat' apply l5 (f:=F))<;>rfl) (by kernel_rfl))
structure da0 where
 alt:Nat
 is0:Int
noncomputable def J8{α:Type}(kk:da0->α)(x:ca9):α:=let t1:=(lp (K6 (⟨rt tV x.i8,(↑(List.length x.i8):Int),x.d7,x.c7,x.d8,x.g7⟩:M5)) (⟨0⟩:p8));(sl ((cnE tV x.i8)&&true) (sl (Nat.beq t1.1 1) (kk ⟨1,t1.2.is8⟩) (sl (Nat.beq t1.1 2) (kk ⟨1,-1⟩) (kk ⟨0,0⟩))) (kk ⟨0,0⟩))
noncomputable def da1(x:ca9):da0:=J8 (λr=>r) x
noncomputable def sa0(x:ca9)(r:da0):DT (b7×List b8):=(.ite (Nat.beq r.alt 1) (.ret (i r.is0,[⟨0,4,[[i x.d7,i x.c7,i x.d8,i x.g7]],true,false,0⟩])) .fail)
theorem Nb0{α β:Type}(F:α->β)(kk:da0->α)(x:ca9):F (J8 kk x)=J8 (λr=>F (kk r)) x:=by unfold J8;(repeat' apply l5 (f:=F))<;>rfl
noncomputable def Ua0:Sum:=Ea0 ⟨[sLq tV,.fn 178 [.o (.ptr 0 0 0 0)]],[⟨0,4,true,some [kLq 4]⟩],λa H=>(⟨aLq tV a 0,hIq H 0 0 0,hIq H 0 0 1,hIq H 0 0 2,hIq H 0 0 3⟩,())⟩ (λx=>sa0 x (da1 x))
theorem Jb5:f9 prog G 144 Ua0:=B5 (enc:=λx=>⟨[eL tV x.i8,.fn 178 [.ptr 0 0 0 0]],[⟨0,4,[[i x.d7,i x.c7,i x.d8,i x.g7]],true,false,0⟩]⟩) (λa H=>by kernel_rfl) (bd ef0 Cb6) λx=>Ua7 (.s .p (.s (.s .p (.b (.u na6.ls))) .p)) [na6.pr] (by kernel_rfl) (.cons yb5 .nil) (Qia (b:=J8 (λr=>(sa0 x r).run) x) (by kernel_rfl) (Nb0 (λr=>(sa0 x r).run) (λr=>r) x).symm)
structure T5 where
 i8:List V3
 (d7 c7 d8 g7:Int)
noncomputable def sb4:List (Nat×Sum):=[(144,Ua0)]
theorem nb9:i4 prog G sb4:=⟨Jb5,trivial⟩
structure T6 where
 alt:Nat
 bs0:Bool
noncomputable def D4{α:Type}(kk:T6->α)(x:T5):α:=let t1:=(da1 ⟨rt tV x.i8,x.d7,x.c7,x.d8,x.g7⟩);(sl ((cnE tV x.i8)&&true) (sl (Nat.beq t1.alt 1) (kk ⟨1,decide (t1.is0>=0)⟩) (kk ⟨0,false⟩)) (kk ⟨0,false⟩))
noncomputable def T7(x:T5):T6:=D4 (λr=>r) x
noncomputable def ia4(x:T5)(r:T6):DT (b7×List b8):=(.ite (Nat.beq r.alt 1) (.ret (b r.bs0,[⟨0,4,[[i x.d7,i x.c7,i x.d8,i x.g7]],true,false,0⟩])) .fail)
theorem yb6{α β:Type}(F:α->β)(kk:T6->α)(x:T5):F (D4 kk x)=D4 (λr=>F (kk r)) x:=by unfold D4;(repeat' apply l5 (f:=F))<;>rfl
noncomputable def Ga8:Sum:=Ea0 ⟨[sLq tV,.fn 178 [.o (.ptr 0 0 0 0)]],[⟨0,4,true,some [kLq 4]⟩],λa H=>(⟨aLq tV a 0,hIq H 0 0 0,hIq H 0 0 1,hIq H 0 0 2,hIq H 0 0 3⟩,())⟩ (λx=>ia4 x (T7 x))
theorem sb5:f9 prog G 174 Ga8:=B5 (enc:=λx=>⟨[eL tV x.i8,.fn 178 [.ptr 0 0 0 0]],[⟨0,4,[[i x.d7,i x.c7,i x.d8,i x.g7]],true,false,0⟩]⟩) (λa H=>by kernel_rfl) (bd xf6 nb9) λx=>q9 (Qia (b:=D4 (λr=>(ia4 x r).run) x) (by kernel_rfl) (yb6 (λr=>(ia4 x r).run) (λr=>r) x).symm)
noncomputable def gd8:List (Nat×Sum):=[(174,Ga8)]
theorem Sc7:i4 prog G gd8:=⟨sb5,trivial⟩
noncomputable def Oa8(x:List V3)(y:Pln):Option (b7×List b8):=let t1:=(T7 ⟨rt tV x,y.n.x,y.n.y,y.n.z,y.b⟩);(sl ((cnE tV x)&&true) (sl (Nat.beq t1.alt 1) (some (b t1.bs0,[])) none) none)
noncomputable def ja5(x:List V3)(y:Pln):Bool:=O9 (one r1B) (Oa8 x y)
noncomputable def L8(x:List V3)(y:Pln):Bool:=okO (one r1B) (Oa8 x y)
noncomputable def nc8:Sum:=va4 (ta7 tV) (W8 tP) (λx y=>.guard (L8 x y) (.ret ((one r1B).enc (ja5 x y),[])))
theorem gd9:f9 prog G 120 nc8:=Rb0 (bd Uf4 Sc7) (one r1B) (o:=Oa8) λx y=>q9 (by kernel_rfl)
noncomputable def Sc8:List (Nat×Sum):=[(85,Sb4)]
theorem Ic5:i4 prog G Sc8:=⟨cc7,trivial⟩
noncomputable def Ga9(x:V3):Option (b7×List b8):=let t1:=(wa6 x);(sl (wa7 x) (some (b (!t1),[])) none)
noncomputable def Ya1(x:V3):Bool:=O9 (one r1B) (Ga9 x)
noncomputable def Ya2(x:V3):Bool:=okO (one r1B) (Ga9 x)
noncomputable def dc3:Sum:=Q9 (W8 tV) (λx=>.guard (Ya2 x) (.ret ((one r1B).enc (Ya1 x),[])))
theorem Sc9:f9 prog G 173 dc3:=Ea7 (bd Xf3 Ic5) (one r1B) (o:=Ga9) λx=>q9 (by kernel_rfl)
structure da2 where
 i8:List V3
noncomputable def Oa9:List (Nat×Sum):=[(173,dc3)]
theorem Cb7:i4 prog G Oa9:=⟨Sc9,trivial⟩
structure M6 where
 i8:List V3
 is7:Int
structure p9 where
 is8:Int
noncomputable def Ha0(p:M6)(s:p9):St:=⟨eL tV p.i8::.fn 173 []::ra 5 (i p.is7::i s.is8::ra 10 []),[]⟩
noncomputable def J2{α:Type}(k:p9->α)(e:Nat->α)(z:α)(p:M6)(s:p9):α:=let t1:=(Ya1 (gL tV p.i8 s.is8.toNat));(sl (decide (s.is8<p.is7)) (sl (inB s.is8 (List.length p.i8)) (sl (Ya2 (gL tV p.i8 s.is8.toNat)) (sl t1 (e 1) (k ⟨W (s.is8+1)⟩)) z) z) (e 2))
noncomputable def K7(p:M6)(s:p9):Stp p9:=J2 .next .exit .fail p s
noncomputable def na7:Lo M6 p9:=⟨En Oa9,0,Td7,[1,0,1,4,4],[0,1,7,8],.p,[⟨sLq tV::.s (.o (.fn 173))::ru2 5 (sIq::sIq::ru2 10 []),[],λa H=>(⟨aLq tV a 0,aIq a 7⟩,⟨aIq a 8⟩)⟩],K7,[(none,λp s=>⟨[i s.is8],[]⟩),(some 0,λp s=>upq (Ha0 p s) [(9,b (decide (s.is8<p.is7)))])],Ha0⟩
theorem yb7:na7.Ok:=Lo.ok [] (by kernel_rfl) .nil rfl (.cons (λa H=>by kernel_rfl) .nil) λp s=>(.of @J2 (λF _ _ _ _ _=>by unfold J2;(repeat' apply l5 (f:=F))<;>rfl) (by kernel_rfl))
structure da3 where
 alt:Nat
 is0:Int
noncomputable def J9{α:Type}(kk:da3->α)(x:da2):α:=let t1:=(lp (K7 (⟨rt tV x.i8,(↑(List.length x.i8):Int)⟩:M6)) (⟨0⟩:p9));(sl ((cnE tV x.i8)&&true) (sl (Nat.beq t1.1 1) (kk ⟨1,t1.2.is8⟩) (sl (Nat.beq t1.1 2) (kk ⟨1,-1⟩) (kk ⟨0,0⟩))) (kk ⟨0,0⟩))
noncomputable def da4(x:da2):da3:=J9 (λr=>r) x
noncomputable def sa1(x:da2)(r:da3):DT (b7×List b8):=(.ite (Nat.beq r.alt 1) (.ret (i r.is0,[])) .fail)
theorem Nb1{α β:Type}(F:α->β)(kk:da3->α)(x:da2):F (J9 kk x)=J9 (λr=>F (kk r)) x:=by unfold J9;(repeat' apply l5 (f:=F))<;>rfl
noncomputable def Ua1:Sum:=Ea0 ⟨[sLq tV,.s (.o (.fn 173))],[],λa H=>(⟨aLq tV a 0⟩,())⟩ (λx=>sa1 x (da4 x))
theorem Jb6:f9 prog G 144 Ua1:=B5 (enc:=λx=>⟨[eL tV x.i8,.fn 173 []],[]⟩) (λa H=>by kernel_rfl) (bd ef0 Cb7) λx=>Ua7 (.s .p (.s (.s .p (.b (.u na7.ls))) .p)) [na7.pr] (by kernel_rfl) (.cons yb7 .nil) (Qia (b:=J9 (λr=>(sa1 x r).run) x) (by kernel_rfl) (Nb1 (λr=>(sa1 x r).run) (λr=>r) x).symm)
structure T8 where
 i8:List V3
noncomputable def sb6:List (Nat×Sum):=[(144,Ua1)]
theorem ob0:i4 prog G sb6:=⟨Jb6,trivial⟩
structure T9 where
 alt:Nat
 bs0:Bool
noncomputable def D5{α:Type}(kk:T9->α)(x:T8):α:=let t1:=(da4 ⟨rt tV x.i8⟩);(sl ((cnE tV x.i8)&&true) (sl (Nat.beq t1.alt 1) (kk ⟨1,decide (t1.is0>=0)⟩) (kk ⟨0,false⟩)) (kk ⟨0,false⟩))
noncomputable def U0(x:T8):T9:=D5 (λr=>r) x
noncomputable def ia5(x:T8)(r:T9):DT (b7×List b8):=(.ite (Nat.beq r.alt 1) (.ret (b r.bs0,[])) .fail)
theorem yb8{α β:Type}(F:α->β)(kk:T9->α)(x:T8):F (D5 kk x)=D5 (λr=>F (kk r)) x:=by unfold D5;(repeat' apply l5 (f:=F))<;>rfl
noncomputable def Ha1:Sum:=Ea0 ⟨[sLq tV,.s (.o (.fn 173))],[],λa H=>(⟨aLq tV a 0⟩,())⟩ (λx=>ia5 x (U0 x))
theorem sb7:f9 prog G 174 Ha1:=B5 (enc:=λx=>⟨[eL tV x.i8,.fn 173 []],[]⟩) (λa H=>by kernel_rfl) (bd xf6 ob0) λx=>q9 (Qia (b:=D5 (λr=>(ia5 x r).run) x) (by kernel_rfl) (yb8 (λr=>(ia5 x r).run) (λr=>r) x).symm)
noncomputable def rd9:List (Nat×Sum):=[(174,Ha1),(175,Oc7)]
theorem hd4:i4 prog G rd9:=⟨sb7,Hd3,trivial⟩
noncomputable def Ya3(x:List V3):Option (b7×List b8):=let t1:=(U0 ⟨rt tV x⟩);let t2:=(Eb8 (rt tV x));(sl (decide ((↑(List.length x):Int)>48)) (some (i 2,[])) (sl ((cnE tV x)&&true) (sl (Nat.beq t1.alt 1) (sl t1.bs0 (some (i 3,[])) (sl (okE tV x) (sl (Eb9 (rt tV x)) (sl t2 (some (i 11,[])) (some (i 0,[]))) none) none)) none) none))
noncomputable def Ya4(x:List V3):Int:=O9 (one r1I) (Ya3 x)
noncomputable def Ya5(x:List V3):Bool:=okO (one r1I) (Ya3 x)
noncomputable def Tb2:Sum:=Q9 (ta7 tV) (λx=>.guard (Ya5 x) (.ret ((one r1I).enc (Ya4 x),[])))
theorem nc9:f9 prog G 118 Tb2:=Ea7 (bd Uf2 hd4) (one r1I) (o:=Ya3) λx=>q9 (by kernel_rfl)
noncomputable def Ic6:List (Nat×Sum):=[]
theorem Ac3:i4 prog G Ic6:=trivial
noncomputable def Ra0(x:Int):Bool:=(x != x)
noncomputable def Vb7:Sum:=Q9 cI (λx=>.ret ((one r1B).enc (Ra0 x),[]))
theorem Ic7:f9 prog G 220 Vb7:=Qb9 (bd Yf8 Ac3) λx=>q9 (by kernel_rfl)
noncomputable def sc7:List (Nat×Sum):=[(220,Vb7)]
theorem kc3:i4 prog G sc7:=⟨Ic7,trivial⟩
noncomputable def qa4(x:Int)(y:Int):Option (b7×List b8):=let t1:=(Ra0 x);let t2:=(Ra0 y);(sl t1 (sl t2 (some (i 0,[])) (some (i (-1),[]))) (sl t2 (some (i 1,[])) (sl (decide (x<y)) (some (i (-1),[])) (sl (decide (x>y)) (some (i 1,[])) (some (i 0,[]))))))
noncomputable def da5(x:Int)(y:Int):Int:=O9 (one r1I) (qa4 x y)
noncomputable def da6(x:Int)(y:Int):Bool:=okO (one r1I) (qa4 x y)
noncomputable def Fb0:Sum:=va4 cI cI (λx y=>.guard (da6 x y) (.ret ((one r1I).enc (da5 x y),[])))
theorem sc8:f9 prog G 189 Fb0:=Rb0 (bd Yf1 kc3) (one r1I) (o:=qa4) λx y=>q9 (by kernel_rfl)
noncomputable def oc0:List (Nat×Sum):=[]
theorem hd5:i4 prog G oc0:=trivial
structure Ha2 where
 Ia4:List Int
 is7:Int
structure O5 where
 is8:Int
noncomputable def Vb8(p:Ha2)(s:O5):St:=⟨ra 3 (i 0::.unk::.unk::eL tI p.Ia4::i p.is7::i s.is8::ra 9 []),[]⟩
noncomputable def db5{α:Type}(k:O5->α)(e:Nat->α)(z:α)(p:Ha2)(s:O5):α:=(sl (decide (s.is8<p.is7)) (sl (inB s.is8 (List.length p.Ia4)) (sl ((gL tI p.Ia4 s.is8.toNat) != 0) (e 1) (k ⟨W (s.is8+1)⟩)) z) (e 2))
noncomputable def fa9(p:Ha2)(s:O5):Stp O5:=db5 .next .exit .fail p s
noncomputable def yb9:Lo Ha2 O5:=⟨En oc0,0,pf9,[1,1,0,1,4,4],[3,6,7,8],.p,[⟨ru2 3 (.s (.o (.lit .i64 0))::sUq::sUq::sLq tI::sIq::sIq::ru2 9 []),[],λa H=>(⟨aLq tI a 6,aIq a 7⟩,⟨aIq a 8⟩)⟩],fa9,[(none,λp s=>⟨[i (gL tI p.Ia4 s.is8.toNat)],[]⟩),(some 0,λp s=>upq (Vb8 p s) [(9,b (decide (s.is8<p.is7)))])],Vb8⟩
theorem Tc0:yb9.Ok:=Lo.ok [] (by kernel_rfl) .nil rfl (.cons (λa H=>by kernel_rfl) .nil) λp s=>(.of @db5 (λF _ _ _ _ _=>by unfold db5;(repeat' apply l5 (f:=F))<;>rfl) (by kernel_rfl))
noncomputable def Ya6(x:List Int):Option (b7×List b8):=let t1:=(lp (fa9 (⟨rt tI x,(↑(List.length x):Int)⟩:Ha2)) (⟨0⟩:O5));(sl ((cnE tI x)&&true) (sl (Nat.beq t1.1 1) (some (i (gL tI (rt tI x) t1.2.is8.toNat),[])) (sl (Nat.beq t1.1 2) (some (i 0,[])) none)) none)
noncomputable def sb8(x:List Int):Int:=O9 (one r1I) (Ya6 x)
noncomputable def sb9(x:List Int):Bool:=okO (one r1I) (Ya6 x)
noncomputable def Ac4:Sum:=Q9 (ta7 tI) (λx=>.guard (sb9 x) (.ret ((one r1I).enc (sb8 x),[])))
theorem sd0:f9 prog G 188 Ac4:=Ea7 (bd Yf0 hd5) (one r1I) (o:=Ya6) λx=>Ua7 (.s .p (.s .p (.s (.s .p (.b (.u yb9.ls))) .p))) [yb9.pr] (by kernel_rfl) (.cons Tc0 .nil) (by kernel_rfl)
noncomputable def Tc1:List (Nat×Sum):=[(189,Fb0),(188,Ac4)]
theorem Ic8:i4 prog G Tc1:=⟨sc8,sd0,trivial⟩
noncomputable def Ha3(x:V3)(y:V3):Option (b7×List b8):=let t1:=(da5 x.x y.x);let t2:=(da5 x.y y.y);let t3:=(da5 x.z y.z);let t4:=(sb8 [t1,t2,t3]);(sl (da6 x.x y.x) (sl (da6 x.y y.y) (sl (da6 x.z y.z) (sl (sb9 [t1,t2,t3]) (some (i t4,[])) none) none) none) none)
noncomputable def Ya7(x:V3)(y:V3):Int:=O9 (one r1I) (Ha3 x y)
noncomputable def Ya8(x:V3)(y:V3):Bool:=okO (one r1I) (Ha3 x y)
noncomputable def zb0:Sum:=va4 (W8 tV) (W8 tV) (λx y=>.guard (Ya8 x y) (.ret ((one r1I).enc (Ya7 x y),[])))
theorem Tc2:f9 prog G 147 zb0:=Rb0 (bd Vf7 Ic8) (one r1I) (o:=Ha3) λx y=>q9 (by kernel_rfl)
end Go.Ev.Ce
namespace Go.Ev.L
open Go Go.Ev
theorem ef5(n:Int):W n=(n+9223372036854775808) % 18446744073709551616-9223372036854775808:=IntKind.wrap_i64 n
theorem N9{n:Int}(h1:-9223372036854775808<=n)(h2:n<=9223372036854775807):W n=n:=by rw[ef5];omega
theorem pe2(n:Int):∃k,W n=n+18446744073709551616*k:=⟨-((n+9223372036854775808) / 18446744073709551616),by rw[ef5];omega⟩
theorem ic4(n k:Int):W (n+18446744073709551616*k)=W n:=by rw[ef5,ef5];omega
theorem zb1(a b:Int):W (W a+b)=W (a+b):=by
 obtain⟨k,hk⟩:=pe2 a;rw[hk,show a+18446744073709551616*k+b=a+b+18446744073709551616*k by omega,ic4]
theorem Tb3(a b:Int):W (a+W b)=W (a+b):=by rw[Int.add_comm,zb1,Int.add_comm]
theorem Hd4(a b:Int):W (W a-b)=W (a-b):=by
 obtain⟨k,hk⟩:=pe2 a;rw[hk,show a+18446744073709551616*k-b=a-b+18446744073709551616*k by omega,ic4]
theorem ie1(a b:Int):W (a-W b)=W (a-b):=by
 obtain⟨k,hk⟩:=pe2 b;rw[hk,show a-(b+18446744073709551616*k)=a-b+18446744073709551616*(-k) by omega,ic4]
theorem Le0(a b:Int):W (W a*b)=W (a*b):=by
 obtain⟨k,hk⟩:=pe2 a;rw[hk,show (a+18446744073709551616*k)*b=a*b+18446744073709551616*(k*b) by grind,ic4]
theorem yf0(a b:Int):W (a*W b)=W (a*b):=by rw[Int.mul_comm,Le0,Int.mul_comm]
theorem o8{j n:Nat}(h:j<n)(hn:n<=4611686018427387904):W ((j:Int)+1)=((j+1:Nat):Int):=by
 rw[N9 (by omega) (by omega)];omega
theorem dc4{j n:Nat}(h:j<n):decide ((j:Int)<(n:Int))=true:=decide_eq_true (by omega)
theorem Tb4{j n:Nat}(h:¬ j<n):decide ((j:Int)<(n:Int))=false:=decide_eq_false (by omega)
theorem f8{j n:Nat}(h:j<n):inB (j:Int) n=true:=by
 show Nat.blt j n=true;rw[Nat.blt_eq];exact h
theorem ef6(m:Int)(n:Nat):inB m n=decide (0<=m/\m<n):=by
 unfold inB;cases m with
 |ofNat k =>
  rw[Bool.eq_iff_iff,decide_eq_true_eq];show Nat.blt k n=true↔_;rw[Nat.blt_eq];constructor
  ·intro h;exact⟨Int.natCast_nonneg k,Int.ofNat_lt.2 h⟩
  ·intro h;exact Int.ofNat_lt.1 h.2
 |negSucc k=>exact (decide_eq_false (λh=>by omega)).symm
theorem bt{c:Bool}(h:c=true){α:Type}(t e:α):sl c t e=t:=by rw[h];rfl
theorem bf{c:Bool}(h:c=false){α:Type}(t e:α):sl c t e=e:=by rw[h];rfl
theorem Xc7{n:Nat}(h:n<=1000000000000):Nat.ble (n*32) room=true:=by
 rw[Nat.ble_eq];unfold room;omega
theorem Le1 {σ : Type} {step : σ → Stp σ} {I : Nat → σ → Prop} {Q : Nat → σ → Prop} (h : ∀ m s, I m s → (∃ t, step s = .exit t ∧ Q t s) ∨ ∃ s' m', m = m' + 1 ∧ step s = .next s' ∧ I m' s') :
  ∀(m n:Nat) (s:σ),m<=n->I m s->Q (lp0 step n s).1 (lp0 step n s).2
 |m,n,s,hn,hi=>by
  rcases h m s hi with⟨t,h1,h2⟩|⟨s',m',rfl,h1,h2⟩
  ·rw[cd1 h1];exact h2
  ·cases n with
   |zero=>omega
   |succ n =>
    rw[Qd5 h1];exact Le1 h m' n s' (by omega) h2
theorem dc5 {σ : Type} {step : σ → Stp σ} {I : Nat → σ → Prop} {Q : Nat → σ → Prop} (h : ∀ m s, I m s → (∃ t, step s = .exit t ∧ Q t s) ∨ ∃ s' m', m = m' + 1 ∧ step s = .next s' ∧ I m' s')
  (m:Nat) (s:σ) (hm:m<=18446744073709551615) (hi:I m s):Q (lp step s).1 (lp step s).2:=by
 rw[Ge2];exact Le1 h m rounds s (by unfold rounds;omega) hi
section
variable{σ τ α:Type}{step:σ->Stp σ}
theorem pe3 {mk : Nat → τ → σ} {f : τ → α → τ} {fin : Nat} (t : Ty α) (l : List α) (I : Nat → τ → Prop) (hl : l.length ≤ 1000000000)
  (h:∀j a,j<l.length->I j a->step (mk j a)=.next (mk (j+1) (f a (gL t l j)))/\I (j+1) (f a (gL t l j)))
  (hf:∀a,I l.length a->step (mk l.length a)=.exit fin) (j0:Nat) (hj:j0<=l.length) (a:τ) (hi:I j0 a) :
  lp step (mk j0 a)=(fin,mk l.length ((l.drop j0).foldl f a))/\I l.length ((l.drop j0).foldl f a):=by
 have key:=dc5 (step:=step) (I:=λm s=>∃j b,m=l.length-j/\j<=l.length/\s=mk j b/\I j b/\(l.drop j).foldl f b=(l.drop j0).foldl f a)
  (Q:=λu s=>u=fin/\s=mk l.length ((l.drop j0).foldl f a)/\I l.length ((l.drop j0).foldl f a)) (λm s ⟨j,b,hm,hj,hs,hb,he⟩=>by
   subst hs;by_cases hlt:j<l.length
   ·obtain⟨h1,h2⟩:=h j b hlt hb;refine .inr ⟨_,l.length-(j+1),by omega,h1,j+1,_,rfl,by omega,rfl,h2,?_⟩
    rw[<- he,Qid hlt,List.foldl_cons];simp[gL,Qib,Qic hlt]
   ·have:j=l.length:=by omega
    subst this;have he:b=(l.drop j0).foldl f a:=by rw[<- he];simp
    subst he;exact .inl ⟨fin,hf _ hb,rfl,rfl,hb⟩) (l.length-j0) (mk j0 a) (by omega) ⟨j0,a,rfl,hj,rfl,hi,rfl⟩
 exact⟨by rw[<- key.2.1,<- key.1],key.2.2⟩
theorem Ic9 {mk : Nat → σ} {c : α → Bool} {u fin : Nat} (t : Ty α) (l : List α) (hl : l.length ≤ 1000000000)
  (h:∀j,j<l.length->step (mk j)=sl (c (gL t l j)) (.exit u) (.next (mk (j+1)))) (hf:step (mk l.length)=.exit fin) (j0:Nat) (hj:j0<=l.length) :
  (lp step (mk j0)).1=if (l.drop j0).any c then u else fin :=
 dc5 (step:=step) (I:=λm s=>∃j,m=l.length-j/\j<=l.length/\s=mk j/\(l.drop j).any c=(l.drop j0).any c)
  (Q:=λv _=>v=if (l.drop j0).any c then u else fin) (λm s ⟨j,hm,hj,hs,he⟩=>by
   subst hs;by_cases hlt:j<l.length
   ·have h1:=h j hlt;have e:gL t l j=l[j]:=by simp[gL,Qib,Qic hlt]
    have e2:(l.drop j).any c=(c l[j]||(l.drop (j+1)).any c):=by rw[Qid hlt,List.any_cons]
    rw[e] at h1;cases hc:c l[j] with
    |true =>
     rw[hc] at h1;refine .inl ⟨u,h1,?_⟩;rw[<- he,e2,hc];rfl
    |false =>
     rw[hc] at h1;refine .inr ⟨_,l.length-(j+1),by omega,h1,j+1,rfl,by omega,rfl,?_⟩
     rw[<- he,e2,hc];rfl
   ·have:j=l.length:=by omega
    subst this;refine .inl ⟨fin,hf,?_⟩;rw[<- he];simp) (l.length-j0) (mk j0) (by omega) ⟨j0,rfl,hj,rfl,rfl⟩
theorem xa0 {mk : Nat → σ} {c : α → Bool} {u fin : Nat} (t : Ty α) (l : List α) (hl : l.length ≤ 1000000000)
  (h:∀j,j<l.length->step (mk j)=sl (c (gL t l j)) (.exit u) (.next (mk (j+1)))) (hf:step (mk l.length)=.exit fin) (j0:Nat) (hj:j0<=l.length) :
  lp step (mk j0)=if (l.drop j0).any c then (u,mk (j0+(l.drop j0).findIdx c)) else (fin,mk l.length):=by
 have key:=dc5 (step:=step) (I:=λm s=>∃j,m=l.length-j/\j<=l.length/\j0<=j/\s=mk j/\(l.drop j).any c=(l.drop j0).any c/\j+(l.drop j).findIdx c=j0+(l.drop j0).findIdx c)
  (Q:=λv s=>(v,s)=if (l.drop j0).any c then (u,mk (j0+(l.drop j0).findIdx c)) else (fin,mk l.length)) (λm s ⟨j,hm,hj,hj0,hs,he,hi⟩=>by
   subst hs;by_cases hlt:j<l.length
   ·have h1:=h j hlt;have e:gL t l j=l[j]:=by simp[gL,Qib,Qic hlt]
    have e2:(l.drop j).any c=(c l[j]||(l.drop (j+1)).any c):=by rw[Qid hlt,List.any_cons]
    have e3:(l.drop j).findIdx c=if c l[j] then 0 else (l.drop (j+1)).findIdx c+1:=by rw[Qid hlt,List.findIdx_cons];cases c l[j]<;>rfl
    rw[e] at h1;cases hc:c l[j] with
    |true =>
     rw[hc] at h1;refine .inl ⟨u,h1,?_⟩;rw[<- he,e2,hc,<- hi,e3,hc];rfl
    |false =>
     rw[hc] at h1;refine .inr ⟨_,l.length-(j+1),by omega,h1,j+1,rfl,by omega,by omega,rfl,?_,?_⟩
     ·rw[<- he,e2,hc];rfl
     ·rw[<- hi,e3,hc];simp only[Qig,if_false];omega
   ·have:j=l.length:=by omega
    subst this;refine .inl ⟨fin,hf,?_⟩;rw[<- he];simp) (l.length-j0) (mk j0) (by omega) ⟨j0,rfl,hj,Qif _,rfl,rfl,rfl⟩
 exact key
end
theorem zb2{α:Type}(t:Ty α){l:List α}{j:Nat}(h:j<l.length):gL t l j∈l:=by
 simp[gL,Qib,Qic h]
theorem pb5{α:Type}(t:Ty α){l:List α}{j:Nat}(h:j<l.length):gL t l j=l[j]:=by
 simp[gL,Qib,Qic h]
def euF:Nat->Int->Int->Int
 |0,g,_=>g
 |k+1,g,n=>if n=0 then g else euF k n (Int.tmod g n)
def eu(g n:Int):Int:=euF (n.natAbs+1) g n
theorem bb8{g n:Int}(h:n≠0):(Int.tmod g n).natAbs<n.natAbs:=by
 rw[Int.natAbs_tmod];exact Nat.mod_lt _ (by omega)
theorem Vd0:∀(k m:Nat) {g n:Int},n.natAbs<k->n.natAbs<m->euF k g n=euF m g n
 |0,_,_,_,h,_=>by omega
 |_+1,0,_,_,_,h=>by omega
 |k+1,m+1,g,n,h1,h2=>by
  unfold euF;by_cases h:n=0
  ·rw[if_pos h,if_pos h]
  ·rw[if_neg h,if_neg h]
   have:=bb8 (g:=g) h
   exact Vd0 k m (by omega) (by omega)
theorem ic5(g:Int):eu g 0=g:=by simp[eu,euF]
theorem Xc8{g n:Int}(h:n≠0):eu g n=eu n (Int.tmod g n):=by
 have:=bb8 (g:=g) h
 unfold eu
 conv=>lhs;unfold euF
 rw[if_neg h];exact Vd0 _ _ (by omega) (by omega)
theorem yf1:∀(k:Nat) (g n:Int),n.natAbs<=k->(eu g n).natAbs=Int.gcd g n:=by
 intro k
 induction k with
 |zero =>
  intro g n h
  have:n=0:=by omega
  subst this;rw[ic5];simp
 |succ k ih =>
  intro g n h;by_cases h0:n=0
  ·subst h0;rw[ic5];simp
  ·have:=bb8 (g:=g) h0
   rw[Xc8 h0,ih n (Int.tmod g n) (by omega)]
   unfold Int.gcd;rw[Int.natAbs_tmod,Nat.gcd_comm g.natAbs,Nat.gcd_comm n.natAbs,<- Nat.gcd_rec]
theorem Le2(g n:Int):(eu g n).natAbs=Int.gcd g n:=yf1 _ g n (Qif _)
theorem ye1:∀(k:Nat) (g n:Int),n.natAbs<=k->0<=g->0<=n->0<=eu g n:=by
 intro k
 induction k with
 |zero =>
  intro g n h hg _
  have:n=0:=by omega
  subst this;rw[ic5];exact hg
 |succ k ih =>
  intro g n h hg hn;by_cases h0:n=0
  ·subst h0;rw[ic5];exact hg
  ·have:=bb8 (g:=g) h0
   rw[Xc8 h0];exact ih n _ (by omega) hn (Int.tmod_nonneg _ hg)
theorem yf2{g n:Int}(hg:0<=g)(hn:0<=n):eu g n=(Int.gcd g n:Int):=by
 have h1:=ye1 _ g n (Qif _) hg hn;have h2:=Le2 g n;omega
section
variable{σ:Type}{step:σ->Stp σ}{mk:Int->Int->σ}
theorem ef7(h:∀g n,n≠0->step (mk g n)=.next (mk n (Int.tmod g n)))(h0:∀g,step (mk g 0)=.exit 1)(g n:Int)(hn:n.natAbs<=9223372036854775808):lp step (mk g n)=(1,mk (eu g n) 0):=by
 have:=dc5 (step:=step) (I:=λm s=>∃a c,s=mk a c/\c.natAbs<=m/\eu a c=eu g n) (Q:=λu s=>(u,s)=(1,mk (eu g n) 0)) (λm s ⟨a,c,hs,hm,he⟩=>by
  subst hs;by_cases hc:c=0
  ·subst hc;rw[ic5] at he;subst he;exact .inl ⟨1,h0 _,rfl⟩
  ·have ht:=bb8 (g:=a) hc;exact .inr ⟨_,m-1,by omega,h a c hc,c,_,rfl,by omega,by rw[<- he,Xc8 hc]⟩) n.natAbs (mk g n) (by omega) ⟨g,n,rfl,Qif _,rfl⟩
 exact this
theorem Oc8(h:∀g n,0<n->step (mk g n)=.next (mk n (Int.tmod g n)))(h0:∀g,step (mk g 0)=.exit 1)(g n:Int)(hg:0<=g)(h1:0<=n)(hn:n<=9223372036854775808):lp step (mk g n)=(1,mk (eu g n) 0):=by
 have:=dc5 (step:=step) (I:=λm s=>∃a c,s=mk a c/\c.natAbs<=m/\0<=a/\0<=c/\eu a c=eu g n) (Q:=λu s=>(u,s)=(1,mk (eu g n) 0)) (λm s ⟨a,c,hs,hm,ha,hc0,he⟩=>by
  subst hs;by_cases hc:c=0
  ·subst hc;rw[ic5] at he;subst he;exact .inl ⟨1,h0 _,rfl⟩
  ·have ht:=bb8 (g:=a) hc;exact .inr ⟨_,m-1,by omega,h a c (by omega),c,_,rfl,by omega,hc0,Int.tmod_nonneg _ ha,by rw[<- he,Xc8 hc]⟩) n.natAbs (mk g n) (by omega) ⟨g,n,rfl,Qif _,hg,h1,rfl⟩
 exact this
end
theorem mb{a c A C:Int}(h1:-A<=a)(h2:a<=A)(h3:-C<=c)(h4:c<=C):-(A*C)<=a*c/\a*c<=A*C:=by
 have hA:a.natAbs<=A.natAbs:=by omega
 have hC:c.natAbs<=C.natAbs:=by omega
 have h5:=Nat.mul_le_mul hA hC;rw[<- Int.natAbs_mul,<- Int.natAbs_mul] at h5;have h6:0<=A*C:=Int.mul_nonneg (by omega) (by omega)
 omega
end Go.Ev.L
namespace Go.Proofs
open Go.Shelf
set_option maxRecDepth 100000 in
def Ce.sortLayV_ren:Go.Shelf.Ren:=⟨fun | 6=>146 | 15=>180 | 14=>187 | 28=>207 | 29=>208 | 20=>212 | 21=>213 | 22=>214 | 23=>215 | 24=>216 | 25=>217 | 26=>218 | 27=>219 | 46=>230 | 47=>224 | 48=>225 | 49=>231 | 50=>232 | 57=>234 | n=>n,fun | 22=>33 | 24=>27 | 25=>112 | 3=>3 | 39=>173 | 0=>0 | 53=>197 | 55=>199 | 4=>4 | 46=>191 | 45=>190 | 50=>50 | 5=>5 | 9=>9 | 66=>210 | 70=>214 | 76=>218 | 77=>219 | n=>n,fun | n=>n⟩
set_option maxRecDepth 100000 in
theorem Ce.sortLayV:Go.Proofs.SlLaysF0.n6 Tryz.prog Ce.sortLayV_ren:={
 mixed:=by kernel_rfl
 f6:=⟨Tryz.f146.name,by decide,Tryz.func146.trans (congrArg some (by kernel_rfl))⟩
 f14:=⟨Tryz.f187.name,by decide,Tryz.func187.trans (congrArg some (by kernel_rfl))⟩
 f15:=Tryz.func180.trans (congrArg some (by kernel_rfl))
 f20:=⟨Tryz.f212.name,by decide,Tryz.func212.trans (congrArg some (by kernel_rfl))⟩
 f21:=⟨Tryz.f213.name,by decide,Tryz.func213.trans (congrArg some (by kernel_rfl))⟩
 f22:=⟨Tryz.f214.name,by decide,Tryz.func214.trans (congrArg some (by kernel_rfl))⟩
 f23:=⟨Tryz.f215.name,by decide,Tryz.func215.trans (congrArg some (by kernel_rfl))⟩
 f24:=⟨Tryz.f216.name,by decide,Tryz.func216.trans (congrArg some (by kernel_rfl))⟩
 f25:=⟨Tryz.f217.name,by decide,Tryz.func217.trans (congrArg some (by kernel_rfl))⟩
 f26:=⟨Tryz.f218.name,by decide,Tryz.func218.trans (congrArg some (by kernel_rfl))⟩
 f27:=⟨Tryz.f219.name,by decide,Tryz.func219.trans (congrArg some (by kernel_rfl))⟩
 f28:=Tryz.func207.trans (congrArg some (by kernel_rfl))
 f29:=Tryz.func208.trans (congrArg some (by kernel_rfl))
 f46:=⟨Tryz.f230.name,by decide,Tryz.func230.trans (congrArg some (by kernel_rfl))⟩
 f47:=Tryz.func224.trans (congrArg some (by kernel_rfl))
 f48:=Tryz.func225.trans (congrArg some (by kernel_rfl))
 f49:=⟨Tryz.f231.name,by decide,Tryz.func231.trans (congrArg some (by kernel_rfl))⟩
 f50:=⟨Tryz.f232.name,by decide,Tryz.func232.trans (congrArg some (by kernel_rfl))⟩
 f57:=⟨Tryz.f234.name,by decide,Tryz.func234.trans (congrArg some (by kernel_rfl))⟩
 t0:=Tryz.underlying0
 a0:=Tryz.isAgg0
 z0:=Tryz.sizeOf0
 v0:=Tryz.zeroValue0
 t3:=Tryz.underlying3
 a3:=Tryz.isAgg3
 z3:=Tryz.sizeOf3
 v3:=Tryz.zeroValue3
 t4:=Tryz.underlying4
 a4:=Tryz.isAgg4
 z4:=Tryz.sizeOf4
 v4:=Tryz.zeroValue4
 t5:=Tryz.underlying5
 a5:=Tryz.isAgg5
 z5:=Tryz.sizeOf5
 v5:=Tryz.zeroValue5
 t9:=Tryz.underlying9
 a9:=Tryz.isAgg9
 z9:=Tryz.sizeOf9
 v9:=Tryz.zeroValue9
 t22:=Tryz.underlying33
 a22:=Tryz.isAgg33
 z22:=Tryz.sizeOf33
 v22:=Tryz.zeroValue33
 t25:=Tryz.underlying112
 a25:=Tryz.isAgg112
 z25:=Tryz.sizeOf112
 v25:=Tryz.zeroValue112
 t39:=Tryz.underlying173
 a39:=Tryz.isAgg173
 z39:=Tryz.sizeOf173
 v39:=Tryz.zeroValue173
 t45:=Tryz.underlying190
 a45:=Tryz.isAgg190
 z45:=Tryz.sizeOf190
 v45:=Tryz.zeroValue190
 t46:=Tryz.underlying191
 a46:=Tryz.isAgg191
 z46:=Tryz.sizeOf191
 v46:=Tryz.zeroValue191
 t50:=Tryz.underlying50
 a50:=Tryz.isAgg50
 z50:=Tryz.sizeOf50
 v50:=Tryz.zeroValue50
 t53:=Tryz.underlying197
 a53:=Tryz.isAgg197
 z53:=Tryz.sizeOf197
 v53:=Tryz.zeroValue197
 t55:=Tryz.underlying199
 a55:=Tryz.isAgg199
 z55:=Tryz.sizeOf199
 v55:=Tryz.zeroValue199
 t66:=Tryz.underlying210
 a66:=Tryz.isAgg210
 z66:=Tryz.sizeOf210
 v66:=Tryz.zeroValue210
 t70:=Tryz.underlying214
 a70:=Tryz.isAgg214
 z70:=Tryz.sizeOf214
 v70:=Tryz.zeroValue214
 t76:=Tryz.underlying218
 a76:=Tryz.isAgg218
 z76:=Tryz.sizeOf218
 v76:=Tryz.zeroValue218
 t77:=Tryz.underlying219
 a77:=Tryz.isAgg219
 z77:=Tryz.sizeOf219
 v77:=Tryz.zeroValue219 }
end Go.Proofs
namespace Go.Ev.Ce
open Go Go.Ev Go.Ev.L Go.Proofs Go.Sort
theorem pe4(x y:Int):qa4 x y=some (i (Ib6 x y),[]):=by
 unfold qa4 Ra0 Ib6;simp only[bne_self_eq_false,Gb8,decide_eq_true_eq,Qig,if_false]
 split<;>(try split)<;>rfl
theorem yf3(x y:Int):da5 x y=Ib6 x y:=by unfold da5;rw[pe4];rfl
theorem yf4(x y:Int):da6 x y=true:=by unfold da6;rw[pe4];rfl
def orI(a c d:Int):Int:=if a=0 then if c=0 then d else c else a
theorem ef8(a c d:Int):((lp (fa9 ⟨[a,c,d],3⟩) ⟨0⟩).1=1/\gL tI [a,c,d] (lp (fa9 ⟨[a,c,d],3⟩) ⟨0⟩).2.is8.toNat=orI a c d)\/((lp (fa9 ⟨[a,c,d],3⟩) ⟨0⟩).1=2/\orI a c d=0):=by
 have g0:gL tI [a,c,d] 0=a:=rfl;have g1:gL tI [a,c,d] 1=c:=rfl;have g2:gL tI [a,c,d] 2=d:=rfl;refine dc5 (step:=fa9 ⟨[a,c,d],3⟩) (I:=λm s=>(m=3/\s=⟨0⟩)\/(m=2/\s=⟨1⟩/\a=0)\/(m=1/\s=⟨2⟩/\a=0/\c=0)\/(m=0/\s=⟨3⟩/\a=0/\c=0/\d=0))
  (Q:=λt s=>(t=1/\gL tI [a,c,d] s.is8.toNat=orI a c d)\/(t=2/\orI a c d=0)) (λm s hi=>?_) 3 ⟨0⟩ (by omega) (.inl ⟨rfl,rfl⟩)
 rcases hi with⟨rfl,rfl⟩|⟨rfl,rfl,ha⟩|⟨rfl,rfl,ha,hc⟩|⟨rfl,rfl,ha,hc,hd⟩
 ·by_cases h:a=0
  ·exact .inr ⟨⟨1⟩,2,rfl,by subst h;rfl,.inr (.inl ⟨rfl,rfl,h⟩)⟩
  ·refine .inl ⟨1,?_,.inl ⟨rfl,by unfold orI;rw[if_neg h];rfl⟩⟩
   show sl (a != 0) (Stp.exit 1) (Stp.next (⟨W (0+1)⟩:O5))=_;rw[bt (by simpa using h)]
 ·by_cases h:c=0
  ·exact .inr ⟨⟨2⟩,1,rfl,by subst h;rfl,.inr (.inr (.inl ⟨rfl,rfl,ha,h⟩))⟩
  ·refine .inl ⟨1,?_,.inl ⟨rfl,by unfold orI;rw[if_pos ha,if_neg h];rfl⟩⟩
   show sl (c != 0) (Stp.exit 1) (Stp.next (⟨W (1+1)⟩:O5))=_;rw[bt (by simpa using h)]
 ·by_cases h:d=0
  ·exact .inr ⟨⟨3⟩,0,rfl,by subst h;rfl,.inr (.inr (.inr ⟨rfl,rfl,ha,hc,h⟩))⟩
  ·refine .inl ⟨1,?_,.inl ⟨rfl,by unfold orI;rw[if_pos ha,if_pos hc];rfl⟩⟩
   show sl (d != 0) (Stp.exit 1) (Stp.next (⟨W (2+1)⟩:O5))=_;rw[bt (by simpa using h)]
 ·exact .inl ⟨2,rfl,.inr ⟨rfl,by unfold orI;rw[if_pos ha,if_pos hc];exact hd⟩⟩
theorem rf0(a c d:Int):Ya6 [a,c,d]=some (i (orI a c d),[]):=by
 have h:=ef8 a c d;unfold Ya6;simp only[l9,k9];rw[show ((([a,c,d]:List Int).length:Nat):Int)=3 from rfl]
 generalize lp (fa9 ⟨[a,c,d],3⟩) ⟨0⟩=r at *
 rcases h with⟨h1,h2⟩|⟨h1,h2⟩
 ·rw[h1,h2];rfl
 ·rw[h1,h2];rfl
theorem Zf2(a c d:Int):sb8 [a,c,d]=orI a c d:=by unfold sb8;rw[rf0];rfl
theorem Zf3(a c d:Int):sb9 [a,c,d]=true:=by unfold sb9;rw[rf0];rfl
def Jb7(x y:V3):Int:=orI (Ib6 x.x y.x) (Ib6 x.y y.y) (Ib6 x.z y.z)
def LtV(x y:V3):Prop:=x.x<y.x\/x.x=y.x/\(x.y<y.y\/x.y=y.y/\x.z<y.z)
instance(x y:V3):Decidable (LtV x y):=by unfold LtV;exact inferInstance
theorem ef9(x y:V3):Jb7 x y<0↔LtV x y:=by
 have h1:=Sb5 x.x y.x;have h2:=zc6 x.x y.x;have h3:=Sb5 x.y y.y;have h4:=zc6 x.y y.y;have h5:=Sb5 x.z y.z;unfold Jb7 orI LtV;split
 ·split<;>omega
 ·omega
theorem Ua2(x y:V3):ltOf Jb7 x y=decide (LtV x y):=by
 unfold ltOf;rw[decide_eq_decide];exact ef9 x y
theorem Mf6:SWO (ltOf Jb7) where
 irrefl x:=by rw[Ua2];simp[LtV]
 trans x y z h1 h2:=by rw[Ua2,decide_eq_true_eq] at *;unfold LtV at *;omega
 ntrans x y z h1 h2:=by rw[Ua2,decide_eq_false_iff_not] at *;unfold LtV at *;omega
theorem Zf4(x y:V3)(h1:ltOf Jb7 x y=false)(h2:ltOf Jb7 y x=false):x=y:=by
 rw[Ua2,decide_eq_false_iff_not] at *
 unfold LtV at *
 obtain⟨a,b,c⟩:=x;obtain⟨a',b',c'⟩:=y
 simp only at *
 have:a=a'/\b=b'/\c=c':=by omega
 obtain⟨rfl,rfl,rfl⟩:=this;rfl
theorem Oc9(x y:V3):Ha3 x y=some (i (Jb7 x y),[]):=by
 unfold Ha3 Jb7;simp only[yf3,yf4,Zf2,Zf3,o9]
theorem yf5(x y:V3):Ya7 x y=Jb7 x y:=by unfold Ya7;rw[Oc9];rfl
theorem yf6(x y:V3):Ya8 x y=true:=by unfold Ya8;rw[Oc9];rfl
theorem yf7(x y:V3):(zb0 [.agg (tV.row x),.agg (tV.row y)] []).run=some (i (Jb7 x y),[]):=by
 have:(zb0 [.agg (tV.row x),.agg (tV.row y)] []).run=sel (Ya8 x y) (some (i (Ya7 x y),[])) none:=by kernel_rfl
 rw[this,yf6,yf5]
def Le3(p:V3):List Value:=[.int .i64 p.x,.int .i64 p.y,.int .i64 p.z]
instance:Inhabited V3:=⟨⟨0,0,0⟩⟩
def Vb9(l:List V3):List V3:=l.mergeSort λx y=>!ltOf Jb7 y x
theorem xd3(l:List V3):(Vb9 l).length=l.length:=List.length_mergeSort l
noncomputable def Ca8:Sum:=oe0 tV 147 27 Vb9
theorem ye2:Ce.sortLayV_ren.f 6=146:=by kernel_rfl
theorem hd6:Ce.sortLayV_ren.t 24=27:=by kernel_rfl
set_option maxRecDepth 100000 in
theorem Ya9:f9 prog G 146 Ca8:=by
 refine oe1 (enc:=Le3) (cf:=Jb7) ⟨_,Tryz.func146,by kernel_rfl,of_decide_eq_true (by kernel_rfl)⟩ (by decide) (λ_=>rfl) (λr h=>Ta6 (n:=3) h) (λx v hv=>?_) xd3
  (λblk off size w=>ne9 Tc2 yf7 (λ_=>rfl) (λ_=>rfl) _ _ _ _ _) (λblk cap d w hcl hH hb hs=>?_)
 ·simp[Le3] at hv
  rcases hv with rfl|rfl|rfl<;>rfl
 ·have eg:∀args w,(callFunc 147 args).run Tryz.prog w=.ok (.enter 147 args) w:=enters_of Tryz.func147 (by kernel_rfl) rfl
  have:=AnyQ.slices_SortFunc Ce.sortLayV 3 (by rw[hd6];exact Tryz.isAgg27) (by rw[hd6];exact Tryz.sizeOf27) Le3 (λ_=>rfl) (λx v hv=>by simp[Le3] at hv;rcases hv with rfl | rfl | rfl<;>rfl) Jb7 Mf6 147 #[] blk 0 cap d w eg (hcl 0 d.size) hH hb hs
  rw[ye2] at this;refine this.mono λe w' ⟨h1,d',n,os,h2,h3,h4⟩=>⟨h1,n,os,?_⟩
  have h5:=sorted_unique_holds Mf6 Zf4 d d' h2 h3;rw[h4];show _=sortWorldK Le3 3 w blk 0 n (d.toList.mergeSort λx y=>!ltOf Jb7 y x).toArray os
  rw[<- h5]
end Go.Ev.Ce
namespace Go.Ev.Ce
open Go Go.Ev Go.Ev.L Go.Proofs
set_option maxRecDepth 100000
noncomputable def kc4:List (Nat×Sum):=[]
theorem dc6:i4 prog G kc4:=trivial
structure xa1 where
 (alt ns0:Nat)
 eh0:List (List b7)
noncomputable def Z3{α:Type}(kk:xa1->α)(x:V3×List V3):α:=(sl (Nat.beq 0 0&&Nat.ble ((0+(len (u7 (λk=>(tV).row (gL tV (x.1::x.2) k)) (List.range (List.length x.2+1)))))*24) room) (kk ⟨1,(0+(len (u7 (λk=>(tV).row (gL tV (x.1::x.2) k)) (List.range (List.length x.2+1))))),(app [] (u7 (λk=>(tV).row (gL tV (x.1::x.2) k)) (List.range (List.length x.2+1))))⟩) (kk ⟨0,0,[]⟩))
noncomputable def la8(x:V3×List V3):xa1:=Z3 (λr=>r) x
noncomputable def Ma8(r:xa1):DT (b7×List b8):=(.ite (Nat.beq r.alt 1) (.ret (.sl 0 0 r.ns0 0,[⟨27,3,r.eh0,true,false,0⟩])) .fail)
theorem sc9{α β:Type}(F:α->β)(kk:xa1->α)(x:V3×List V3):F (Z3 kk x)=Z3 (λr=>F (kk r)) x:=by unfold Z3;(repeat' apply l5 (f:=F))<;>rfl
noncomputable def Sa7:Sum:=Q9 (Qd9 tV) (λx=>Ma8 (la8 x))
theorem pb6:f9 prog G 145 Sa7:=Qb9 (bd Vf6 dc6) λx=>q9 (Qia (b:=Z3 (λr=>(Ma8 r).run) x) (by kernel_rfl) (sc9 (λr=>(Ma8 r).run) (λr=>r) x).symm)
structure qa5 where
 ns0:Nat
 eh0:List (List b7)
noncomputable def Ca9:List (Nat×Sum):=[]
theorem Tb5:i4 prog G Ca9:=trivial
structure G4 where
 (ns0 os4 ns4:Nat)
structure r5 where
 (is3 is5:Int)
 eh0:List (List b7)
noncomputable def Ua3(p:G4)(s:r5):St:=⟨.sl 0 0 p.ns0 0::.unk::.unk::i s.is3::.sl 0 p.os4 p.ns4 0::i s.is5::ra 55 [],[⟨27,3,s.eh0,true,false,0⟩]⟩
noncomputable def O6{α:Type}(k:r5->α)(e:Nat->α)(z:α)(p:G4)(s:r5):α:=(sl (decide (s.is5<(↑p.ns4:Int))) (sl (inB s.is5 p.ns4) (sl (ldR tV s.eh0 (p.os4+s.is5.toNat)) (sl (inB (W (s.is5-1)) p.ns4) (sl (ldR tV s.eh0 (p.os4+(W (s.is5-1)).toNat)) (sl (!(((rdR tV s.eh0 (p.os4+s.is5.toNat)).x==(rdR tV s.eh0 (p.os4+(W (s.is5-1)).toNat)).x)&&(((rdR tV s.eh0 (p.os4+s.is5.toNat)).y==(rdR tV s.eh0 (p.os4+(W (s.is5-1)).toNat)).y)&&(((rdR tV s.eh0 (p.os4+s.is5.toNat)).z==(rdR tV s.eh0 (p.os4+(W (s.is5-1)).toNat)).z)&&true)))) (sl (inB s.is5 p.ns4) (sl (ldR tV s.eh0 (p.os4+s.is5.toNat)) (sl (inB s.is3 p.ns0) (sl ((Nat.blt (0+s.is3.toNat) (len s.eh0))&&(Nat.ble (0+3) (len (j9 s.eh0 (0+s.is3.toNat))))) (k ⟨W (s.is3+1),W (s.is5+1),setAt s.eh0 (0+s.is3.toNat) (W7 (j9 s.eh0 (0+s.is3.toNat)) 0 [i (rdR tV s.eh0 (p.os4+s.is5.toNat)).x,i (rdR tV s.eh0 (p.os4+s.is5.toNat)).y,i (rdR tV s.eh0 (p.os4+s.is5.toNat)).z])⟩) z) z) z) z) (k ⟨s.is3,W (s.is5+1),s.eh0⟩)) z) z) z) z) (e 1))
noncomputable def s8(p:G4)(s:r5):Stp r5:=O6 .next .exit .fail p s
noncomputable def xa2:Lo G4 r5:=⟨En Ca9,1,Ke0,[1,1,0,1,4,4,1,0,4,1,2,1,0,1,4,4],[0,3,4,5],.p,[⟨.s (.o (.sl 0 0 (some 0) none))::sUq::sUq::sIq::.s (.o (.sl 0 0 none none))::sIq::ru2 55 [],[⟨27,3,true,none⟩],λa H=>(⟨slN (slT a 0),slO (slT a 4),slN (slT a 4)⟩,⟨aIq a 3,aIq a 5,elT H 0⟩)⟩],s8,[(some 2,λp s=>upq (Ua3 p s) [(29,i s.is5),(30,.sl 0 p.os4 p.ns4 0),(31,i (↑p.ns4:Int)),(32,b (decide (s.is5<(↑p.ns4:Int))))])],Ua3⟩
theorem Nb2:xa2.Ok:=Lo.ok [] (by kernel_rfl) .nil rfl (.cons (λa H=>by kernel_rfl) .nil) λp s=>(.of @O6 (λF _ _ _ _ _=>by unfold O6;(repeat' apply l5 (f:=F))<;>rfl) (by kernel_rfl))
structure U1 where
 ns0:Nat
 eh0:List (List b7)
structure w6 where
 is3:Int
noncomputable def Ua4(p:U1)(s:w6):St:=⟨.sl 0 0 p.ns0 0::.unk::.unk::i s.is3::ra 57 [],[⟨27,3,p.eh0,true,false,0⟩]⟩
noncomputable def O7{α:Type}(k:w6->α)(e:Nat->α)(z:α)(p:U1)(s:w6):α:=let t1:=(lp (s8 (⟨p.ns0,0+s.is3.toNat,p.ns0-s.is3.toNat⟩:G4)) (⟨s.is3,1,p.eh0⟩:r5));(sl (decide (s.is3<(↑p.ns0:Int))) (sl (inB s.is3 p.ns0) (sl (ldR tV p.eh0 (0+s.is3.toNat)) (sl (inB (W (s.is3-1)) p.ns0) (sl (ldR tV p.eh0 (0+(W (s.is3-1)).toNat)) (sl (((rdR tV p.eh0 (0+s.is3.toNat)).x==(rdR tV p.eh0 (0+(W (s.is3-1)).toNat)).x)&&(((rdR tV p.eh0 (0+s.is3.toNat)).y==(rdR tV p.eh0 (0+(W (s.is3-1)).toNat)).y)&&(((rdR tV p.eh0 (0+s.is3.toNat)).z==(rdR tV p.eh0 (0+(W (s.is3-1)).toNat)).z)&&true))) (sl (inB s.is3 (p.ns0+1)) (sl (Nat.beq t1.1 1) (sl (inB t1.2.is3 (p.ns0+1)) (sl (inB t1.2.is3 (p.ns0+1)) (e 1) z) z) z) z) (k ⟨W (s.is3+1)⟩)) z) z) z) z) (e 2))
noncomputable def R5(p:U1)(s:w6):Stp w6:=O7 .next .exit .fail p s
noncomputable def xa3:Lo U1 w6:=⟨En Ca9,1,Ke0,[1,1,0,1,4,4],[0,3],.s .p (.s (.b (.s .p (.c (.s .p (.s (.s .p (.b (.u xa2.ls))) .p)) .p))) .p),[⟨.s (.o (.sl 0 0 (some 0) none))::sUq::sUq::sIq::ru2 57 [],[⟨27,3,true,none⟩],λa H=>(⟨slN (slT a 0),elT H 0⟩,⟨aIq a 3⟩)⟩],R5,[(none,λp s=>let t1:=(lp (s8 (⟨p.ns0,0+s.is3.toNat,p.ns0-s.is3.toNat⟩:G4)) (⟨s.is3,1,p.eh0⟩:r5));⟨[.sl 0 0 (t1.2.is3.toNat-0) 0],[⟨27,3,app (J6 t1.2.eh0 (0+t1.2.is3.toNat)) (app (List.replicate (p.ns0-t1.2.is3.toNat) [i 0,i 0,i 0]) (i9 t1.2.eh0 ((0+t1.2.is3.toNat)+(p.ns0-t1.2.is3.toNat)))),true,false,0⟩]⟩),(some 0,λp s=>upq (Ua4 p s) [(10,i s.is3),(11,.sl 0 0 p.ns0 0),(12,i (↑p.ns0:Int)),(13,b (decide (s.is3<(↑p.ns0:Int))))])],Ua4⟩
theorem Nb3:xa3.Ok:=Lo.ok [xa2.pr] (by kernel_rfl) (.cons Nb2 .nil) rfl (.cons (λa H=>by kernel_rfl) .nil) λp s=>(.of @O7 (λF _ _ _ _ _=>by unfold O7;(repeat' apply l5 (f:=F))<;>rfl) (by kernel_rfl))
structure qa6 where
 (alt ns0:Nat)
 eh0:List (List b7)
noncomputable def R6{α:Type}(kk:qa6->α)(x:qa5):α:=let t1:=(lp (R5 (⟨x.ns0,x.eh0⟩:U1)) (⟨1⟩:w6));let t2:=(lp (s8 (⟨x.ns0,0+t1.2.is3.toNat,x.ns0-t1.2.is3.toNat⟩:G4)) (⟨t1.2.is3,1,x.eh0⟩:r5));(sl (decide ((↑x.ns0:Int)<2)) (kk ⟨1,x.ns0,x.eh0⟩) (sl (Nat.beq t1.1 1) (kk ⟨1,t2.2.is3.toNat-0,app (J6 t2.2.eh0 (0+t2.2.is3.toNat)) (app (List.replicate (x.ns0-t2.2.is3.toNat) [i 0,i 0,i 0]) (i9 t2.2.eh0 ((0+t2.2.is3.toNat)+(x.ns0-t2.2.is3.toNat))))⟩) (sl (Nat.beq t1.1 2) (kk ⟨1,x.ns0,x.eh0⟩) (kk ⟨0,0,[]⟩))))
noncomputable def R7(x:qa5):qa6:=R6 (λr=>r) x
noncomputable def Da0(x:qa5)(r:qa6):DT (b7×List b8):=(.ite (Nat.beq r.alt 1) (.ret (.sl 0 0 r.ns0 0,[⟨27,3,r.eh0,true,false,0⟩])) .fail)
theorem dc7{α β:Type}(F:α->β)(kk:qa6->α)(x:qa5):F (R6 kk x)=R6 (λr=>F (kk r)) x:=by unfold R6;(repeat' apply l5 (f:=F))<;>rfl
noncomputable def Ha4:Sum:=Ea0 ⟨[.s (.o (.sl 0 0 (some 0) none))],[⟨27,3,true,none⟩],λa H=>(⟨slN (slT a 0),elT H 0⟩,())⟩ (λx=>Da0 x (R7 x))
theorem ab8:f9 prog G 148 Ha4:=B5 (enc:=λx=>⟨[.sl 0 0 x.ns0 0],[⟨27,3,x.eh0,true,false,0⟩]⟩) (λa H=>by kernel_rfl) (bd Vf8 Tb5) λx=>Ua7 (.s .p (.s .p (.s (.s .p (.b (.u xa3.ls))) .p))) [xa3.pr] (by kernel_rfl) (.cons Nb3 .nil) (Qia (b:=R6 (λr=>(Da0 x r).run) x) (by kernel_rfl) (dc7 (λr=>(Da0 x r).run) (λr=>r) x).symm)
noncomputable def Jc0:List (Nat×Sum):=[(145,Sa7),(146,Ca8),(148,Ha4)]
theorem Ac5:i4 prog G Jc0:=⟨pb6,Ya9,ab8,trivial⟩
noncomputable def Aa1(x:V3×List V3):Option (b7×List b8):=let t1:=(la8 (hC tV (λk=>(tV).row (gL tV (x.1::x.2) k)),tC tV (List.length x.2) (λk=>(tV).row (gL tV (x.1::x.2) k))));let t2:=(R7 ⟨t1.ns0,app (bL tV (Vb9 (slR tV t1.eh0 0 t1.ns0))) (i9 t1.eh0 t1.ns0)⟩);(sl (okL tV (List.length x.2+1) (λk=>(tV).row (gL tV (x.1::x.2) k))) (sl (Nat.beq t1.alt 1) (sl (Bool.and (Nat.ble t1.ns0 room) (Bool.and (Nat.ble t1.ns0 (len t1.eh0)) (okS tV t1.eh0 0 t1.ns0))) (sl (Nat.beq t2.alt 1) (some (.sl 0 0 t2.ns0 0,[⟨27,3,t2.eh0,true,false,0⟩])) none) none) none) none)
noncomputable def ob1(x:V3×List V3):List V3:=O9 (one (r1L tV)) (Aa1 x)
noncomputable def ob2(x:V3×List V3):Bool:=okO (one (r1L tV)) (Aa1 x)
noncomputable def Wb0:Sum:=Q9 (Qd9 tV) (λx=>.guard (ob2 x) (.ret ((one (r1L tV)).enc (ob1 x),[])))
theorem Jc1:f9 prog G 92 Wb0:=Ea7 (bd b92 Ac5) (one (r1L tV)) (o:=Aa1) λx=>q9 (by kernel_rfl)
noncomputable def gb3:List (Nat×Sum):=[(118,Tb2),(92,Wb0),(177,nb7),(52,zc9),(120,nc8),(121,Ta8),(119,Ga6)]
theorem hd7:i4 prog G gb3:=⟨nc9,Jc1,Mb8,rd3,gd9,Ib8,Qa6,trivial⟩
structure U2 where
 (is3 is4 is9 r8 ra4 r9 eb6:Int)
 (b9 f7:List V3)
structure D6 where
 ph:Nat
 E9:Int
 eh4:List (List b7)
 y7:Nat
 eh5:List (List b7)
noncomputable def Nb4(p:U2)(s:D6):St:=⟨.unk::.ptr 0 0 0 0::.unk::i p.is3::i p.is4::ra 4 (i p.is9::i p.r8::ra 5 (i p.ra4::i p.r9::ra 5 (i p.eb6::i s.E9::ra 35 (i 0::.unk::.ptr 1 0 0 0::.v (.slice none 0 0)::i 0::.unk::.ptr 2 0 0 0::.ptr 3 0 0 0::ra 28 [])))),[⟨0,1,[[eL tV p.b9]],true,false,0⟩,⟨0,1,[[eL tV p.f7]],true,false,0⟩,⟨0,0,[[.ptr 4 0 0 0]],true,false,0⟩,⟨0,0,[[.v (.slice none 0 0)]],true,false,0⟩,⟨143,0,s.eh4,true,false,0⟩]⟩
noncomputable def Nb5(p:U2)(s:D6):St:=⟨.unk::.ptr 0 0 0 0::.unk::i p.is3::i p.is4::ra 4 (i p.is9::i p.r8::ra 5 (i p.ra4::i p.r9::ra 5 (i p.eb6::i s.E9::ra 35 (i 0::.unk::.ptr 1 0 0 0::.v (.slice none 0 0)::i 0::.unk::.ptr 2 0 0 0::.ptr 3 0 0 0::ra 28 [])))),[⟨0,1,[[eL tV p.b9]],true,false,0⟩,⟨0,1,[[eL tV p.f7]],true,false,0⟩,⟨0,0,[[.ptr 4 0 0 0]],true,false,0⟩,⟨0,0,[[.sl 5 0 s.y7 0]],true,false,0⟩,⟨143,0,s.eh4,true,false,0⟩,⟨73,4,s.eh5,true,false,0⟩]⟩
noncomputable def Tc3(p:U2)(s:D6):St:=(sel (Nat.beq s.ph 1) (Nb5 p s) (Nb4 p s))
noncomputable def Z4{α:Type}(k:D6->α)(e:Nat->α)(z:α)(p:U2)(s:D6):α:=let t1:=(L6 (gL tV p.b9 s.E9.toNat) (gL tV p.b9 p.is4.toNat) (gL tV p.b9 p.is3.toNat));let t2:=(Ja3 t1.1);let t3:=(ja5 (rt tV p.f7) t2);let t4:=(ja5 (rt tV p.f7) t1.1);(sl (decide (s.E9<p.eb6)) (sl (inB s.E9 (List.length p.b9)) (sl (inB p.is4 (List.length p.b9)) (sl (inB p.is3 (List.length p.b9)) (sl (oa7 (gL tV p.b9 s.E9.toNat) (gL tV p.b9 p.is4.toNat) (gL tV p.b9 p.is3.toNat)) (sl t1.2 (sl t1.2 (sl (Da3 4 [(0,.int .i64),(1,.int .i64),(2,.int .i64),(3,.int .i64)] [i t1.1.n.x,i t1.1.n.y,i t1.1.n.z,i t1.1.b] s.eh4) (sl (Da3 4 [(0,.int .i64),(1,.int .i64),(2,.int .i64),(3,.int .i64)] [i t2.n.x,i t2.n.y,i t2.n.z,i t2.b] s.eh4) (k ⟨0,W (s.E9+1),s.eh4,0,[]⟩) (sl (okE tV p.f7) (sl (L8 (rt tV p.f7) t2) (sl (!t3) (k ⟨1,W (s.E9+1),V5 [(0,.int .i64),(1,.int .i64),(2,.int .i64),(3,.int .i64)] [i t2.n.x,i t2.n.y,i t2.n.z,i t2.b] [i t2.n.x,i t2.n.y,i t2.n.z,i t2.b,b true] s.eh4,1,[[i t2.n.x,i t2.n.y,i t2.n.z,i t2.b]]⟩) (k ⟨0,W (s.E9+1),V5 [(0,.int .i64),(1,.int .i64),(2,.int .i64),(3,.int .i64)] [i t2.n.x,i t2.n.y,i t2.n.z,i t2.b] [i t2.n.x,i t2.n.y,i t2.n.z,i t2.b,b true] s.eh4,0,[]⟩)) z) z)) (sl (okE tV p.f7) (sl (L8 (rt tV p.f7) t1.1) (sl (!t4) (sl (Da3 4 [(0,.int .i64),(1,.int .i64),(2,.int .i64),(3,.int .i64)] [i t2.n.x,i t2.n.y,i t2.n.z,i t2.b] (V5 [(0,.int .i64),(1,.int .i64),(2,.int .i64),(3,.int .i64)] [i t1.1.n.x,i t1.1.n.y,i t1.1.n.z,i t1.1.b] [i t1.1.n.x,i t1.1.n.y,i t1.1.n.z,i t1.1.b,b true] s.eh4)) (k ⟨1,W (s.E9+1),V5 [(0,.int .i64),(1,.int .i64),(2,.int .i64),(3,.int .i64)] [i t1.1.n.x,i t1.1.n.y,i t1.1.n.z,i t1.1.b] [i t1.1.n.x,i t1.1.n.y,i t1.1.n.z,i t1.1.b,b true] s.eh4,1,[[i t1.1.n.x,i t1.1.n.y,i t1.1.n.z,i t1.1.b]]⟩) (sl (okE tV p.f7) (sl (L8 (rt tV p.f7) t2) (sl (!t3) (k ⟨1,W (s.E9+1),V5 [(0,.int .i64),(1,.int .i64),(2,.int .i64),(3,.int .i64)] [i t2.n.x,i t2.n.y,i t2.n.z,i t2.b] [i t2.n.x,i t2.n.y,i t2.n.z,i t2.b,b true] (V5 [(0,.int .i64),(1,.int .i64),(2,.int .i64),(3,.int .i64)] [i t1.1.n.x,i t1.1.n.y,i t1.1.n.z,i t1.1.b] [i t1.1.n.x,i t1.1.n.y,i t1.1.n.z,i t1.1.b,b true] s.eh4),2,[[i t1.1.n.x,i t1.1.n.y,i t1.1.n.z,i t1.1.b],[i t2.n.x,i t2.n.y,i t2.n.z,i t2.b]]⟩) (k ⟨1,W (s.E9+1),V5 [(0,.int .i64),(1,.int .i64),(2,.int .i64),(3,.int .i64)] [i t2.n.x,i t2.n.y,i t2.n.z,i t2.b] [i t2.n.x,i t2.n.y,i t2.n.z,i t2.b,b true] (V5 [(0,.int .i64),(1,.int .i64),(2,.int .i64),(3,.int .i64)] [i t1.1.n.x,i t1.1.n.y,i t1.1.n.z,i t1.1.b] [i t1.1.n.x,i t1.1.n.y,i t1.1.n.z,i t1.1.b,b true] s.eh4),1,[[i t1.1.n.x,i t1.1.n.y,i t1.1.n.z,i t1.1.b]]⟩)) z) z)) (sl (Da3 4 [(0,.int .i64),(1,.int .i64),(2,.int .i64),(3,.int .i64)] [i t2.n.x,i t2.n.y,i t2.n.z,i t2.b] (V5 [(0,.int .i64),(1,.int .i64),(2,.int .i64),(3,.int .i64)] [i t1.1.n.x,i t1.1.n.y,i t1.1.n.z,i t1.1.b] [i t1.1.n.x,i t1.1.n.y,i t1.1.n.z,i t1.1.b,b true] s.eh4)) (k ⟨0,W (s.E9+1),V5 [(0,.int .i64),(1,.int .i64),(2,.int .i64),(3,.int .i64)] [i t1.1.n.x,i t1.1.n.y,i t1.1.n.z,i t1.1.b] [i t1.1.n.x,i t1.1.n.y,i t1.1.n.z,i t1.1.b,b true] s.eh4,0,[]⟩) (sl (okE tV p.f7) (sl (L8 (rt tV p.f7) t2) (sl (!t3) (k ⟨1,W (s.E9+1),V5 [(0,.int .i64),(1,.int .i64),(2,.int .i64),(3,.int .i64)] [i t2.n.x,i t2.n.y,i t2.n.z,i t2.b] [i t2.n.x,i t2.n.y,i t2.n.z,i t2.b,b true] (V5 [(0,.int .i64),(1,.int .i64),(2,.int .i64),(3,.int .i64)] [i t1.1.n.x,i t1.1.n.y,i t1.1.n.z,i t1.1.b] [i t1.1.n.x,i t1.1.n.y,i t1.1.n.z,i t1.1.b,b true] s.eh4),1,[[i t2.n.x,i t2.n.y,i t2.n.z,i t2.b]]⟩) (k ⟨0,W (s.E9+1),V5 [(0,.int .i64),(1,.int .i64),(2,.int .i64),(3,.int .i64)] [i t2.n.x,i t2.n.y,i t2.n.z,i t2.b] [i t2.n.x,i t2.n.y,i t2.n.z,i t2.b,b true] (V5 [(0,.int .i64),(1,.int .i64),(2,.int .i64),(3,.int .i64)] [i t1.1.n.x,i t1.1.n.y,i t1.1.n.z,i t1.1.b] [i t1.1.n.x,i t1.1.n.y,i t1.1.n.z,i t1.1.b,b true] s.eh4),0,[]⟩)) z) z))) z) z)) (k ⟨0,W (s.E9+1),s.eh4,0,[]⟩)) (sl t1.2 z (k ⟨0,W (s.E9+1),s.eh4,0,[]⟩))) z) z) z) z) (e 1))
noncomputable def Z5{α:Type}(k:D6->α)(e:Nat->α)(z:α)(p:U2)(s:D6):α:=let t1:=(L6 (gL tV p.b9 s.E9.toNat) (gL tV p.b9 p.is4.toNat) (gL tV p.b9 p.is3.toNat));let t2:=(Ja3 t1.1);let t3:=(ja5 (rt tV p.f7) t2);let t4:=(ja5 (rt tV p.f7) t1.1);let a0:=(Nat.beq s.y7 (len s.eh5)&&Nat.ble ((s.y7+1)*32) room);(sl (decide (s.E9<p.eb6)) (sl (inB s.E9 (List.length p.b9)) (sl (inB p.is4 (List.length p.b9)) (sl (inB p.is3 (List.length p.b9)) (sl (oa7 (gL tV p.b9 s.E9.toNat) (gL tV p.b9 p.is4.toNat) (gL tV p.b9 p.is3.toNat)) (sl t1.2 (sl t1.2 (sl (Da3 4 [(0,.int .i64),(1,.int .i64),(2,.int .i64),(3,.int .i64)] [i t1.1.n.x,i t1.1.n.y,i t1.1.n.z,i t1.1.b] s.eh4) (sl (Da3 4 [(0,.int .i64),(1,.int .i64),(2,.int .i64),(3,.int .i64)] [i t2.n.x,i t2.n.y,i t2.n.z,i t2.b] s.eh4) (k ⟨1,W (s.E9+1),s.eh4,s.y7,s.eh5⟩) (sl (okE tV p.f7) (sl (L8 (rt tV p.f7) t2) (sl (!t3) (sl a0 (k ⟨1,W (s.E9+1),V5 [(0,.int .i64),(1,.int .i64),(2,.int .i64),(3,.int .i64)] [i t2.n.x,i t2.n.y,i t2.n.z,i t2.b] [i t2.n.x,i t2.n.y,i t2.n.z,i t2.b,b true] s.eh4,s.y7+1,app s.eh5 [[i t2.n.x,i t2.n.y,i t2.n.z,i t2.b]]⟩) z) (k ⟨1,W (s.E9+1),V5 [(0,.int .i64),(1,.int .i64),(2,.int .i64),(3,.int .i64)] [i t2.n.x,i t2.n.y,i t2.n.z,i t2.b] [i t2.n.x,i t2.n.y,i t2.n.z,i t2.b,b true] s.eh4,s.y7,s.eh5⟩)) z) z)) (sl (okE tV p.f7) (sl (L8 (rt tV p.f7) t1.1) (sl (!t4) (sl a0 (sl (Da3 4 [(0,.int .i64),(1,.int .i64),(2,.int .i64),(3,.int .i64)] [i t2.n.x,i t2.n.y,i t2.n.z,i t2.b] (V5 [(0,.int .i64),(1,.int .i64),(2,.int .i64),(3,.int .i64)] [i t1.1.n.x,i t1.1.n.y,i t1.1.n.z,i t1.1.b] [i t1.1.n.x,i t1.1.n.y,i t1.1.n.z,i t1.1.b,b true] s.eh4)) (k ⟨1,W (s.E9+1),V5 [(0,.int .i64),(1,.int .i64),(2,.int .i64),(3,.int .i64)] [i t1.1.n.x,i t1.1.n.y,i t1.1.n.z,i t1.1.b] [i t1.1.n.x,i t1.1.n.y,i t1.1.n.z,i t1.1.b,b true] s.eh4,s.y7+1,app s.eh5 [[i t1.1.n.x,i t1.1.n.y,i t1.1.n.z,i t1.1.b]]⟩) (sl (okE tV p.f7) (sl (L8 (rt tV p.f7) t2) (sl (!t3) (sl (Nat.beq (s.y7+1) (len (app s.eh5 [[i t1.1.n.x,i t1.1.n.y,i t1.1.n.z,i t1.1.b]]))&&Nat.ble (((s.y7+1)+1)*32) room) (k ⟨1,W (s.E9+1),V5 [(0,.int .i64),(1,.int .i64),(2,.int .i64),(3,.int .i64)] [i t2.n.x,i t2.n.y,i t2.n.z,i t2.b] [i t2.n.x,i t2.n.y,i t2.n.z,i t2.b,b true] (V5 [(0,.int .i64),(1,.int .i64),(2,.int .i64),(3,.int .i64)] [i t1.1.n.x,i t1.1.n.y,i t1.1.n.z,i t1.1.b] [i t1.1.n.x,i t1.1.n.y,i t1.1.n.z,i t1.1.b,b true] s.eh4),(s.y7+1)+1,app (app s.eh5 [[i t1.1.n.x,i t1.1.n.y,i t1.1.n.z,i t1.1.b]]) [[i t2.n.x,i t2.n.y,i t2.n.z,i t2.b]]⟩) z) (k ⟨1,W (s.E9+1),V5 [(0,.int .i64),(1,.int .i64),(2,.int .i64),(3,.int .i64)] [i t2.n.x,i t2.n.y,i t2.n.z,i t2.b] [i t2.n.x,i t2.n.y,i t2.n.z,i t2.b,b true] (V5 [(0,.int .i64),(1,.int .i64),(2,.int .i64),(3,.int .i64)] [i t1.1.n.x,i t1.1.n.y,i t1.1.n.z,i t1.1.b] [i t1.1.n.x,i t1.1.n.y,i t1.1.n.z,i t1.1.b,b true] s.eh4),s.y7+1,app s.eh5 [[i t1.1.n.x,i t1.1.n.y,i t1.1.n.z,i t1.1.b]]⟩)) z) z)) z) (sl (Da3 4 [(0,.int .i64),(1,.int .i64),(2,.int .i64),(3,.int .i64)] [i t2.n.x,i t2.n.y,i t2.n.z,i t2.b] (V5 [(0,.int .i64),(1,.int .i64),(2,.int .i64),(3,.int .i64)] [i t1.1.n.x,i t1.1.n.y,i t1.1.n.z,i t1.1.b] [i t1.1.n.x,i t1.1.n.y,i t1.1.n.z,i t1.1.b,b true] s.eh4)) (k ⟨1,W (s.E9+1),V5 [(0,.int .i64),(1,.int .i64),(2,.int .i64),(3,.int .i64)] [i t1.1.n.x,i t1.1.n.y,i t1.1.n.z,i t1.1.b] [i t1.1.n.x,i t1.1.n.y,i t1.1.n.z,i t1.1.b,b true] s.eh4,s.y7,s.eh5⟩) (sl (okE tV p.f7) (sl (L8 (rt tV p.f7) t2) (sl (!t3) (sl a0 (k ⟨1,W (s.E9+1),V5 [(0,.int .i64),(1,.int .i64),(2,.int .i64),(3,.int .i64)] [i t2.n.x,i t2.n.y,i t2.n.z,i t2.b] [i t2.n.x,i t2.n.y,i t2.n.z,i t2.b,b true] (V5 [(0,.int .i64),(1,.int .i64),(2,.int .i64),(3,.int .i64)] [i t1.1.n.x,i t1.1.n.y,i t1.1.n.z,i t1.1.b] [i t1.1.n.x,i t1.1.n.y,i t1.1.n.z,i t1.1.b,b true] s.eh4),s.y7+1,app s.eh5 [[i t2.n.x,i t2.n.y,i t2.n.z,i t2.b]]⟩) z) (k ⟨1,W (s.E9+1),V5 [(0,.int .i64),(1,.int .i64),(2,.int .i64),(3,.int .i64)] [i t2.n.x,i t2.n.y,i t2.n.z,i t2.b] [i t2.n.x,i t2.n.y,i t2.n.z,i t2.b,b true] (V5 [(0,.int .i64),(1,.int .i64),(2,.int .i64),(3,.int .i64)] [i t1.1.n.x,i t1.1.n.y,i t1.1.n.z,i t1.1.b] [i t1.1.n.x,i t1.1.n.y,i t1.1.n.z,i t1.1.b,b true] s.eh4),s.y7,s.eh5⟩)) z) z))) z) z)) (k ⟨1,W (s.E9+1),s.eh4,s.y7,s.eh5⟩)) (sl t1.2 z (k ⟨1,W (s.E9+1),s.eh4,s.y7,s.eh5⟩))) z) z) z) z) (e 2))
noncomputable def V7(p:U2)(s:D6):Stp D6:=(sel (Nat.beq s.ph 1) (Z5 .next .exit .fail p s) (Z4 .next .exit .fail p s))
noncomputable def zb3:Lo U2 D6:=⟨En gb3,0,df9,[1,1,1,1,1,0,1,4,4,1,4,4,1,1,0,4,1,1,4,4,1,1,0,4,1,1,4,4],[1,3,4,9,10,16,17,23,24,60,62,63,64,66,67],.p,[⟨sUq::sPq 0::sUq::sIq::sIq::ru2 4 (sIq::sIq::ru2 5 (sIq::sIq::ru2 5 (sIq::sIq::ru2 35 (.s (.o (.lit .i64 0))::sUq::sPq 1::.s (.o .nil)::.s (.o (.lit .i64 0))::sUq::sPq 2::sPq 3::ru2 28 [])))),[⟨0,1,true,some [[.c 3 (nL tV)]]⟩,⟨0,1,true,some [[.c 3 (nL tV)]]⟩,⟨0,0,true,some [[.o (.ptr 4 0 0 0)]]⟩,⟨0,0,true,some [[.o .nil]]⟩,⟨143,0,true,none⟩],λa H=>(⟨aIq a 3,aIq a 4,aIq a 9,aIq a 10,aIq a 16,aIq a 17,aIq a 23,hLq tV H 0 0 0,hLq tV H 1 0 0⟩,⟨0,aIq a 24,elT H 4,0,[]⟩)⟩,⟨sUq::sPq 0::sUq::sIq::sIq::ru2 4 (sIq::sIq::ru2 5 (sIq::sIq::ru2 5 (sIq::sIq::ru2 35 (.s (.o (.lit .i64 0))::sUq::sPq 1::.s (.o .nil)::.s (.o (.lit .i64 0))::sUq::sPq 2::sPq 3::ru2 28 [])))),[⟨0,1,true,some [[.c 3 (nL tV)]]⟩,⟨0,1,true,some [[.c 3 (nL tV)]]⟩,⟨0,0,true,some [[.o (.ptr 4 0 0 0)]]⟩,⟨0,0,true,some [[.o (.sl 5 0 (some 0) none)]]⟩,⟨143,0,true,none⟩,⟨73,4,true,none⟩],λa H=>(⟨aIq a 3,aIq a 4,aIq a 9,aIq a 10,aIq a 16,aIq a 17,aIq a 23,hLq tV H 0 0 0,hLq tV H 1 0 0⟩,⟨1,aIq a 24,elT H 4,slN (slT (rwT (elT H 3) 0) 0),elT H 5⟩)⟩],V7,[(some 4,λp s=>upq (Nb4 p s) [(25,b (decide (s.E9<p.eb6)))]),(some 4,λp s=>upq (Nb5 p s) [(25,b (decide (s.E9<p.eb6)))])],Tc3⟩
theorem Tc4:zb3.OkM:=Lo.okM [] (by kernel_rfl) .nil rfl (.cons (λa H=>by kernel_rfl) (.cons (λa H=>by kernel_rfl) .nil)) λp s=>(.sel (Nat.beq s.ph 1) (.of @Z5 (λF _ _ _ _ _=>by unfold Z5;(repeat' apply l5 (f:=F))<;>rfl) (by kernel_rfl)) (.of @Z4 (λF _ _ _ _ _=>by unfold Z4;(repeat' apply l5 (f:=F))<;>rfl) (by kernel_rfl)))
structure U3 where
 (is3 is9 r8 ra4:Int)
structure B6 where
 ph:Nat
 r9:Int
 (b9 f7:List V3)
 eh4:List (List b7)
 y7:Nat
 eh5:List (List b7)
noncomputable def Nb6(p:U3)(s:B6):St:=⟨.unk::.ptr 0 0 0 0::.unk::i p.is3::ra 5 (i p.is9::i p.r8::ra 5 (i p.ra4::i s.r9::ra 42 (i 0::.unk::.ptr 1 0 0 0::.v (.slice none 0 0)::i 0::.unk::.ptr 2 0 0 0::.ptr 3 0 0 0::ra 28 []))),[⟨0,1,[[eL tV s.b9]],true,false,0⟩,⟨0,1,[[eL tV s.f7]],true,false,0⟩,⟨0,0,[[.ptr 4 0 0 0]],true,false,0⟩,⟨0,0,[[.v (.slice none 0 0)]],true,false,0⟩,⟨143,0,s.eh4,true,false,0⟩]⟩
noncomputable def Nb7(p:U3)(s:B6):St:=⟨.unk::.ptr 0 0 0 0::.unk::i p.is3::ra 5 (i p.is9::i p.r8::ra 5 (i p.ra4::i s.r9::ra 42 (i 0::.unk::.ptr 1 0 0 0::.v (.slice none 0 0)::i 0::.unk::.ptr 2 0 0 0::.ptr 3 0 0 0::ra 28 []))),[⟨0,1,[[eL tV s.b9]],true,false,0⟩,⟨0,1,[[eL tV s.f7]],true,false,0⟩,⟨0,0,[[.ptr 4 0 0 0]],true,false,0⟩,⟨0,0,[[.sl 5 0 s.y7 0]],true,false,0⟩,⟨143,0,s.eh4,true,false,0⟩,⟨73,4,s.eh5,true,false,0⟩]⟩
noncomputable def Tc5(p:U3)(s:B6):St:=(sel (Nat.beq s.ph 1) (Nb7 p s) (Nb6 p s))
noncomputable def Z6{α:Type}(k:B6->α)(e:Nat->α)(z:α)(p:U3)(s:B6):α:=let t1:=(lp (V7 (⟨p.is3,s.r9,p.is9,p.r8,p.ra4,s.r9,(↑(s.r9.toNat-0):Int),rt tV s.b9,rt tV s.f7⟩:U2)) (⟨0,0,s.eh4,0,[]⟩:D6));(sl (decide (s.r9<p.ra4)) (sl (inB s.r9 ((List.length s.b9)+1)) (sl ((cnE tV s.b9)&&((cnE tV s.f7)&&true)) (sl (Nat.beq t1.1 1) (k ⟨0,W (s.r9+1),rt tV s.b9,rt tV s.f7,t1.2.eh4,0,[]⟩) (sl (Nat.beq t1.1 2) (k ⟨1,W (s.r9+1),rt tV s.b9,rt tV s.f7,t1.2.eh4,t1.2.y7,t1.2.eh5⟩) z)) z) z) (e 1))
noncomputable def Z7{α:Type}(k:B6->α)(e:Nat->α)(z:α)(p:U3)(s:B6):α:=let t1:=(lp (V7 (⟨p.is3,s.r9,p.is9,p.r8,p.ra4,s.r9,(↑(s.r9.toNat-0):Int),rt tV s.b9,rt tV s.f7⟩:U2)) (⟨1,0,s.eh4,s.y7,s.eh5⟩:D6));(sl (decide (s.r9<p.ra4)) (sl (inB s.r9 ((List.length s.b9)+1)) (sl ((cnE tV s.b9)&&((cnE tV s.f7)&&true)) (sl (Nat.beq t1.1 1) (k ⟨0,W (s.r9+1),rt tV s.b9,rt tV s.f7,t1.2.eh4,0,[]⟩) (sl (Nat.beq t1.1 2) (k ⟨1,W (s.r9+1),rt tV s.b9,rt tV s.f7,t1.2.eh4,t1.2.y7,t1.2.eh5⟩) z)) z) z) (e 2))
noncomputable def ga0(p:U3)(s:B6):Stp B6:=(sel (Nat.beq s.ph 1) (Z7 .next .exit .fail p s) (Z6 .next .exit .fail p s))
noncomputable def zb4:Lo U3 B6:=⟨En gb3,0,df9,[1,1,1,1,1,0,1,4,4,1,4,4,1,1,0,4,1,1,4,4],[1,3,9,10,16,17,60,62,63,64,66,67],.s .p (.s .p (.s (.b (.s .p (.s .p (.b (.u zb3.lsM))))) .p)),[⟨sUq::sPq 0::sUq::sIq::ru2 5 (sIq::sIq::ru2 5 (sIq::sIq::ru2 42 (.s (.o (.lit .i64 0))::sUq::sPq 1::.s (.o .nil)::.s (.o (.lit .i64 0))::sUq::sPq 2::sPq 3::ru2 28 []))),[⟨0,1,true,some [[.c 3 (nL tV)]]⟩,⟨0,1,true,some [[.c 3 (nL tV)]]⟩,⟨0,0,true,some [[.o (.ptr 4 0 0 0)]]⟩,⟨0,0,true,some [[.o .nil]]⟩,⟨143,0,true,none⟩],λa H=>(⟨aIq a 3,aIq a 9,aIq a 10,aIq a 16⟩,⟨0,aIq a 17,hLq tV H 0 0 0,hLq tV H 1 0 0,elT H 4,0,[]⟩)⟩,⟨sUq::sPq 0::sUq::sIq::ru2 5 (sIq::sIq::ru2 5 (sIq::sIq::ru2 42 (.s (.o (.lit .i64 0))::sUq::sPq 1::.s (.o .nil)::.s (.o (.lit .i64 0))::sUq::sPq 2::sPq 3::ru2 28 []))),[⟨0,1,true,some [[.c 3 (nL tV)]]⟩,⟨0,1,true,some [[.c 3 (nL tV)]]⟩,⟨0,0,true,some [[.o (.ptr 4 0 0 0)]]⟩,⟨0,0,true,some [[.o (.sl 5 0 (some 0) none)]]⟩,⟨143,0,true,none⟩,⟨73,4,true,none⟩],λa H=>(⟨aIq a 3,aIq a 9,aIq a 10,aIq a 16⟩,⟨1,aIq a 17,hLq tV H 0 0 0,hLq tV H 1 0 0,elT H 4,slN (slT (rwT (elT H 3) 0) 0),elT H 5⟩)⟩],ga0,[(some 2,λp s=>upq (Nb6 p s) [(18,b (decide (s.r9<p.ra4)))]),(some 2,λp s=>upq (Nb7 p s) [(18,b (decide (s.r9<p.ra4)))])],Tc5⟩
theorem Tc6:zb4.OkM:=Lo.okM [zb3.prM] (by kernel_rfl) (.cons Tc4 .nil) rfl (.cons (λa H=>by kernel_rfl) (.cons (λa H=>by kernel_rfl) .nil)) λp s=>(.sel (Nat.beq s.ph 1) (.of @Z7 (λF _ _ _ _ _=>by unfold Z7;(repeat' apply l5 (f:=F))<;>rfl) (by kernel_rfl)) (.of @Z6 (λF _ _ _ _ _=>by unfold Z6;(repeat' apply l5 (f:=F))<;>rfl) (by kernel_rfl)))
structure ba7 where
 is9:Int
structure D7 where
 ph:Nat
 r8:Int
 (b9 f7:List V3)
 eh4:List (List b7)
 y7:Nat
 eh5:List (List b7)
noncomputable def Nb8(p:ba7)(s:D7):St:=⟨.unk::.ptr 0 0 0 0::ra 7 (i p.is9::i s.r8::ra 49 (i 0::.unk::.ptr 1 0 0 0::.v (.slice none 0 0)::i 0::.unk::.ptr 2 0 0 0::.ptr 3 0 0 0::ra 28 [])),[⟨0,1,[[eL tV s.b9]],true,false,0⟩,⟨0,1,[[eL tV s.f7]],true,false,0⟩,⟨0,0,[[.ptr 4 0 0 0]],true,false,0⟩,⟨0,0,[[.v (.slice none 0 0)]],true,false,0⟩,⟨143,0,s.eh4,true,false,0⟩]⟩
noncomputable def Nb9(p:ba7)(s:D7):St:=⟨.unk::.ptr 0 0 0 0::ra 7 (i p.is9::i s.r8::ra 49 (i 0::.unk::.ptr 1 0 0 0::.v (.slice none 0 0)::i 0::.unk::.ptr 2 0 0 0::.ptr 3 0 0 0::ra 28 [])),[⟨0,1,[[eL tV s.b9]],true,false,0⟩,⟨0,1,[[eL tV s.f7]],true,false,0⟩,⟨0,0,[[.ptr 4 0 0 0]],true,false,0⟩,⟨0,0,[[.sl 5 0 s.y7 0]],true,false,0⟩,⟨143,0,s.eh4,true,false,0⟩,⟨73,4,s.eh5,true,false,0⟩]⟩
noncomputable def Tc7(p:ba7)(s:D7):St:=(sel (Nat.beq s.ph 1) (Nb9 p s) (Nb8 p s))
noncomputable def Z8{α:Type}(k:D7->α)(e:Nat->α)(z:α)(p:ba7)(s:D7):α:=let t1:=(lp (ga0 (⟨s.r8,p.is9,s.r8,(↑(s.r8.toNat-0):Int)⟩:U3)) (⟨0,0,rt tV s.b9,rt tV s.f7,s.eh4,0,[]⟩:B6));(sl (decide (s.r8<p.is9)) (sl (inB s.r8 ((List.length s.b9)+1)) (sl ((cnE tV s.b9)&&((cnE tV s.f7)&&true)) (sl (Nat.beq t1.1 1) (k ⟨0,W (s.r8+1),t1.2.b9,t1.2.f7,t1.2.eh4,0,[]⟩) (sl (Nat.beq t1.1 2) (k ⟨1,W (s.r8+1),t1.2.b9,t1.2.f7,t1.2.eh4,t1.2.y7,t1.2.eh5⟩) z)) z) z) (e 1))
noncomputable def Z9{α:Type}(k:D7->α)(e:Nat->α)(z:α)(p:ba7)(s:D7):α:=let t1:=(lp (ga0 (⟨s.r8,p.is9,s.r8,(↑(s.r8.toNat-0):Int)⟩:U3)) (⟨1,0,rt tV s.b9,rt tV s.f7,s.eh4,s.y7,s.eh5⟩:B6));(sl (decide (s.r8<p.is9)) (sl (inB s.r8 ((List.length s.b9)+1)) (sl ((cnE tV s.b9)&&((cnE tV s.f7)&&true)) (sl (Nat.beq t1.1 1) (k ⟨0,W (s.r8+1),t1.2.b9,t1.2.f7,t1.2.eh4,0,[]⟩) (sl (Nat.beq t1.1 2) (k ⟨1,W (s.r8+1),t1.2.b9,t1.2.f7,t1.2.eh4,t1.2.y7,t1.2.eh5⟩) z)) z) z) (e 2))
noncomputable def Ra1(p:ba7)(s:D7):Stp D7:=(sel (Nat.beq s.ph 1) (Z9 .next .exit .fail p s) (Z8 .next .exit .fail p s))
noncomputable def zb5:Lo ba7 D7:=⟨En gb3,0,df9,[1,1,1,1,1,0,1,4,4,1,4,4],[1,9,10,60,62,63,64,66,67],.s .p (.s .p (.s (.b (.s .p (.s .p (.b (.u zb4.lsM))))) .p)),[⟨sUq::sPq 0::ru2 7 (sIq::sIq::ru2 49 (.s (.o (.lit .i64 0))::sUq::sPq 1::.s (.o .nil)::.s (.o (.lit .i64 0))::sUq::sPq 2::sPq 3::ru2 28 [])),[⟨0,1,true,some [[.c 3 (nL tV)]]⟩,⟨0,1,true,some [[.c 3 (nL tV)]]⟩,⟨0,0,true,some [[.o (.ptr 4 0 0 0)]]⟩,⟨0,0,true,some [[.o .nil]]⟩,⟨143,0,true,none⟩],λa H=>(⟨aIq a 9⟩,⟨0,aIq a 10,hLq tV H 0 0 0,hLq tV H 1 0 0,elT H 4,0,[]⟩)⟩,⟨sUq::sPq 0::ru2 7 (sIq::sIq::ru2 49 (.s (.o (.lit .i64 0))::sUq::sPq 1::.s (.o .nil)::.s (.o (.lit .i64 0))::sUq::sPq 2::sPq 3::ru2 28 [])),[⟨0,1,true,some [[.c 3 (nL tV)]]⟩,⟨0,1,true,some [[.c 3 (nL tV)]]⟩,⟨0,0,true,some [[.o (.ptr 4 0 0 0)]]⟩,⟨0,0,true,some [[.o (.sl 5 0 (some 0) none)]]⟩,⟨143,0,true,none⟩,⟨73,4,true,none⟩],λa H=>(⟨aIq a 9⟩,⟨1,aIq a 10,hLq tV H 0 0 0,hLq tV H 1 0 0,elT H 4,slN (slT (rwT (elT H 3) 0) 0),elT H 5⟩)⟩],Ra1,[(some 0,λp s=>upq (Nb8 p s) [(11,b (decide (s.r8<p.is9)))]),(some 0,λp s=>upq (Nb9 p s) [(11,b (decide (s.r8<p.is9)))])],Tc7⟩
theorem Tc8:zb5.OkM:=Lo.okM [zb4.prM] (by kernel_rfl) (.cons Tc6 .nil) rfl (.cons (λa H=>by kernel_rfl) (.cons (λa H=>by kernel_rfl) .nil)) λp s=>(.sel (Nat.beq s.ph 1) (.of @Z9 (λF _ _ _ _ _=>by unfold Z9;(repeat' apply l5 (f:=F))<;>rfl) (by kernel_rfl)) (.of @Z8 (λF _ _ _ _ _=>by unfold Z8;(repeat' apply l5 (f:=F))<;>rfl) (by kernel_rfl)))
noncomputable def xa4(x:V3×List V3):Option (b7×List b8):=let t1:=(Ya4 (rt tV (x.1::x.2)));let t2:=(ob1 (hC tV (λk=>(tV).row (gL tV (x.1::x.2) k)),tC tV (List.length x.2) (λk=>(tV).row (gL tV (x.1::x.2) k))));let t3:=(lp (Ra1 (⟨(↑(List.length t2):Int)⟩:ba7)) (⟨0,0,rt tV t2,rt tV t2,[],0,[]⟩:D7));(sl (okE tV (x.1::x.2)) (sl (Ya5 (rt tV (x.1::x.2))) (sl (t1 != 0) (some (.tup [.v (.slice none 0 0),i t1],[])) (sl (okL tV (List.length x.2+1) (λk=>(tV).row (gL tV (x.1::x.2) k))) (sl (ob2 (hC tV (λk=>(tV).row (gL tV (x.1::x.2) k)),tC tV (List.length x.2) (λk=>(tV).row (gL tV (x.1::x.2) k)))) (sl ((cnE tV t2)&&((cnE tV t2)&&true)) (sl (Nat.beq t3.1 1) none (sl (Nat.beq t3.1 2) (sl (Bool.and (Nat.ble t3.2.y7 room) (Bool.and (Nat.ble t3.2.y7 (len t3.2.eh5)) (okS tP t3.2.eh5 0 t3.2.y7))) (some (.tup [.sl 0 0 t3.2.y7 0,i 0],[⟨73,4,app (bL tP (nc0 (slR tP t3.2.eh5 0 t3.2.y7))) (i9 t3.2.eh5 t3.2.y7),true,false,0⟩])) none) none)) none) none) none)) none) none)
noncomputable def tb0(x:V3×List V3):List Pln×Int:=O9 (two (r1L tP) r1I) (xa4 x)
noncomputable def tb1(x:V3×List V3):Bool:=okO (two (r1L tP) r1I) (xa4 x)
noncomputable def Ac6:Sum:=Q9 (Qd9 tV) (λx=>.guard (tb1 x) (.ret ((two (r1L tP) r1I).enc (tb0 x),[])))
theorem oc1:f9 prog G 64 Ac6:=Ea7 (bd b64 hd7) (two (r1L tP) r1I) (o:=xa4) λx=>dd7 (.s .p (.s .p (.s .p (.s .p (.s .p (.s (.s .p (.b (.i (.s .p (.b (.u zb5.lsM)))))) .p)))))) [zb5.prM] (by kernel_rfl) (.cons Tc8 .nil) (by kernel_rfl)
structure Ra2 where
 (U8 U9 V0 bb1 d7 c7 d8:Int)
noncomputable def Jc2:List (Nat×Sum):=[(83,Fa0)]
theorem Ac7:i4 prog G Jc2:=⟨Ja1,trivial⟩
structure Ra3 where
 bs0:Bool
noncomputable def oa9{α:Type}(kk:Ra3->α)(x:Ra2):α:=let t1:=(j7 (⟨x.d7,x.c7,x.d8⟩:V3) (⟨x.U8,x.U9,x.V0⟩:V3));(kk ⟨t1 != 0⟩)
noncomputable def ob3(x:Ra2):Ra3:=oa9 (λr=>r) x
noncomputable def db6(x:Ra2)(r:Ra3):DT (b7×List b8):=.ret (b r.bs0,[⟨0,3,[[i x.d7,i x.c7,i x.d8]],true,false,0⟩])
theorem Tc9{α β:Type}(F:α->β)(kk:Ra3->α)(x:Ra2):F (oa9 kk x)=oa9 (λr=>F (kk r)) x:=by unfold oa9;(repeat' apply l5 (f:=F))<;>rfl
noncomputable def Wb1:Sum:=Ea0 ⟨[.agg (kLq 4),sPq 0],[⟨0,3,true,some [kLq 3]⟩],λa H=>(⟨cIq a 0 0,cIq a 0 1,cIq a 0 2,cIq a 0 3,hIq H 0 0 0,hIq H 0 0 1,hIq H 0 0 2⟩,())⟩ (λx=>db6 x (ob3 x))
theorem Jc3:f9 prog G 143 Wb1:=B5 (enc:=λx=>⟨[.agg [i x.U8,i x.U9,i x.V0,i x.bb1],.ptr 0 0 0 0],[⟨0,3,[[i x.d7,i x.c7,i x.d8]],true,false,0⟩]⟩) (λa H=>by kernel_rfl) (bd Vf5 Ac7) λx=>q9 (Qia (b:=oa9 (λr=>(db6 x r).run) x) (by kernel_rfl) (Tc9 (λr=>(db6 x r).run) (λr=>r) x).symm)
structure Y1 where
 j8:List Pln
 (d7 c7 d8:Int)
noncomputable def Ha5:List (Nat×Sum):=[(143,Wb1)]
theorem tb2:i4 prog G Ha5:=⟨Jc3,trivial⟩
structure J3 where
 j8:List Pln
 (is7 d7 c7 d8:Int)
structure o1 where
 is8:Int
noncomputable def Aa2(p:J3)(s:o1):St:=⟨eL tP p.j8::.fn 143 [.ptr 0 0 0 0]::ra 5 (i p.is7::i s.is8::ra 10 []),[⟨0,3,[[i p.d7,i p.c7,i p.d8]],true,false,0⟩]⟩
noncomputable def E8{α:Type}(k:o1->α)(e:Nat->α)(z:α)(p:J3)(s:o1):α:=let t1:=(ob3 ⟨(gL tP p.j8 s.is8.toNat).n.x,(gL tP p.j8 s.is8.toNat).n.y,(gL tP p.j8 s.is8.toNat).n.z,(gL tP p.j8 s.is8.toNat).b,p.d7,p.c7,p.d8⟩);(sl (decide (s.is8<p.is7)) (sl (inB s.is8 (List.length p.j8)) (sl t1.bs0 (e 1) (k ⟨W (s.is8+1)⟩)) z) (e 2))
noncomputable def H6(p:J3)(s:o1):Stp o1:=E8 .next .exit .fail p s
noncomputable def ia6:Lo J3 o1:=⟨En Ha5,1,oe7,[1,0,1,4,4],[0,1,7,8],.p,[⟨sLq tP::.fn 143 [.o (.ptr 0 0 0 0)]::ru2 5 (sIq::sIq::ru2 10 []),[⟨0,3,true,some [kLq 3]⟩],λa H=>(⟨aLq tP a 0,aIq a 7,hIq H 0 0 0,hIq H 0 0 1,hIq H 0 0 2⟩,⟨aIq a 8⟩)⟩],H6,[(none,λp s=>⟨[i s.is8],[⟨0,3,[[i p.d7,i p.c7,i p.d8]],true,false,0⟩]⟩),(some 0,λp s=>upq (Aa2 p s) [(9,b (decide (s.is8<p.is7)))])],Aa2⟩
theorem ob4:ia6.Ok:=Lo.ok [] (by kernel_rfl) .nil rfl (.cons (λa H=>by kernel_rfl) .nil) λp s=>(.of @E8 (λF _ _ _ _ _=>by unfold E8;(repeat' apply l5 (f:=F))<;>rfl) (by kernel_rfl))
structure Y2 where
 alt:Nat
 is0:Int
noncomputable def F9{α:Type}(kk:Y2->α)(x:Y1):α:=let t1:=(lp (H6 (⟨rt tP x.j8,(↑(List.length x.j8):Int),x.d7,x.c7,x.d8⟩:J3)) (⟨0⟩:o1));(sl ((cnE tP x.j8)&&true) (sl (Nat.beq t1.1 1) (kk ⟨1,t1.2.is8⟩) (sl (Nat.beq t1.1 2) (kk ⟨1,-1⟩) (kk ⟨0,0⟩))) (kk ⟨0,0⟩))
noncomputable def Y3(x:Y1):Y2:=F9 (λr=>r) x
noncomputable def la9(x:Y1)(r:Y2):DT (b7×List b8):=(.ite (Nat.beq r.alt 1) (.ret (i r.is0,[⟨0,3,[[i x.d7,i x.c7,i x.d8]],true,false,0⟩])) .fail)
theorem Cb8{α β:Type}(F:α->β)(kk:Y2->α)(x:Y1):F (F9 kk x)=F9 (λr=>F (kk r)) x:=by unfold F9;(repeat' apply l5 (f:=F))<;>rfl
noncomputable def Ma2:Sum:=Ea0 ⟨[sLq tP,.fn 143 [.o (.ptr 0 0 0 0)]],[⟨0,3,true,some [kLq 3]⟩],λa H=>(⟨aLq tP a 0,hIq H 0 0 0,hIq H 0 0 1,hIq H 0 0 2⟩,())⟩ (λx=>la9 x (Y3 x))
theorem zb6:f9 prog G 139 Ma2:=B5 (enc:=λx=>⟨[eL tP x.j8,.fn 143 [.ptr 0 0 0 0]],[⟨0,3,[[i x.d7,i x.c7,i x.d8]],true,false,0⟩]⟩) (λa H=>by kernel_rfl) (bd xf5 tb2) λx=>Ua7 (.s .p (.s (.s .p (.b (.u ia6.ls))) .p)) [ia6.pr] (by kernel_rfl) (.cons ob4 .nil) (Qia (b:=F9 (λr=>(la9 x r).run) x) (by kernel_rfl) (Cb8 (λr=>(la9 x r).run) (λr=>r) x).symm)
structure Q3 where
 j8:List Pln
 (d7 c7 d8:Int)
noncomputable def kb6:List (Nat×Sum):=[(139,Ma2)]
theorem db7:i4 prog G kb6:=⟨zb6,trivial⟩
structure Q4 where
 alt:Nat
 bs0:Bool
noncomputable def B1{α:Type}(kk:Q4->α)(x:Q3):α:=let t1:=(Y3 ⟨rt tP x.j8,x.d7,x.c7,x.d8⟩);(sl ((cnE tP x.j8)&&true) (sl (Nat.beq t1.alt 1) (kk ⟨1,decide (t1.is0>=0)⟩) (kk ⟨0,false⟩)) (kk ⟨0,false⟩))
noncomputable def Q5(x:Q3):Q4:=B1 (λr=>r) x
noncomputable def ba8(x:Q3)(r:Q4):DT (b7×List b8):=(.ite (Nat.beq r.alt 1) (.ret (b r.bs0,[⟨0,3,[[i x.d7,i x.c7,i x.d8]],true,false,0⟩])) .fail)
theorem ob5{α β:Type}(F:α->β)(kk:Q4->α)(x:Q3):F (B1 kk x)=B1 (λr=>F (kk r)) x:=by unfold B1;(repeat' apply l5 (f:=F))<;>rfl
noncomputable def Aa3:Sum:=Ea0 ⟨[sLq tP,.fn 143 [.o (.ptr 0 0 0 0)]],[⟨0,3,true,some [kLq 3]⟩],λa H=>(⟨aLq tP a 0,hIq H 0 0 0,hIq H 0 0 1,hIq H 0 0 2⟩,())⟩ (λx=>ba8 x (Q5 x))
theorem kb7:f9 prog G 86 Aa3:=B5 (enc:=λx=>⟨[eL tP x.j8,.fn 143 [.ptr 0 0 0 0]],[⟨0,3,[[i x.d7,i x.c7,i x.d8]],true,false,0⟩]⟩) (λa H=>by kernel_rfl) (bd b86 db7) λx=>q9 (Qia (b:=B1 (λr=>(ba8 x r).run) x) (by kernel_rfl) (ob5 (λr=>(ba8 x r).run) (λr=>r) x).symm)
noncomputable def zb7:List (Nat×Sum):=[(142,fb2),(86,Aa3)]
theorem Uc0:i4 prog G zb7:=⟨wb2,kb7,trivial⟩
structure Aa4 where
 (j8 gc0:List Pln)
 (is9 r8:Int)
 Of8:Nat
 Be5:Nat->List b7
 (Da2 d7 c7 d8 g7:Int)
structure V8 where
 Wc1:Int
noncomputable def Ob0(p:Aa4)(s:V8):St:=⟨eL tP p.j8::ra 3 (.ptr 0 0 0 0::ra 3 (eL tP p.gc0::i p.is9::i p.r8::ra 6 (.tree 4 p.Of8 p.Be5::i p.Da2::i s.Wc1::ra 18 []))),[⟨0,4,[[i p.d7,i p.c7,i p.d8,i p.g7]],true,false,0⟩]⟩
noncomputable def qa7{α:Type}(k:V8->α)(e:Nat->α)(z:α)(p:Aa4)(s:V8):α:=let t1:=(C5 (⟨p.d7,p.c7,p.d8⟩:V3) (⟨toI (hdA (p.Be5 s.Wc1.toNat)),toI (hdA (tlA (p.Be5 s.Wc1.toNat))),toI (hdA (tlA (tlA (p.Be5 s.Wc1.toNat))))⟩:V3));let t2:=(Q5 ⟨rt tP p.j8,t1.x,t1.y,t1.z⟩);(sl (decide (s.Wc1<p.Da2)) (sl (inB s.Wc1 p.Of8) (sl ((Nat.ble 4 (len (p.Be5 s.Wc1.toNat)))&&(ta2 [CK.int .i64,CK.int .i64,CK.int .i64,CK.int .i64] (p.Be5 s.Wc1.toNat))) (sl (!((t1.x==0)&&((t1.y==0)&&((t1.z==0)&&true)))) (sl ((cnE tP p.j8)&&true) (sl (Nat.beq t2.alt 1) (sl t2.bs0 (e 1) (k ⟨W (s.Wc1+1)⟩)) z) z) (k ⟨W (s.Wc1+1)⟩)) z) z) (e 2))
noncomputable def ja9(p:Aa4)(s:V8):Stp V8:=qa7 .next .exit .fail p s
noncomputable def ob6:Lo Aa4 V8:=⟨En zb7,0,xf4,[1,0,1,4,4,1,1,0,4,1,1,4,4],[0,4,8,9,10,17,18,19],.p,[⟨sLq tP::ru2 3 (sPq 0::ru2 3 (sLq tP::sIq::sIq::ru2 6 (sTq 4::sIq::sIq::ru2 18 []))),[⟨0,4,true,some [kLq 4]⟩],λa H=>(⟨aLq tP a 0,aLq tP a 8,aIq a 9,aIq a 10,aNq a 17,aGq a 17,aIq a 18,hIq H 0 0 0,hIq H 0 0 1,hIq H 0 0 2,hIq H 0 0 3⟩,⟨aIq a 19⟩)⟩],ja9,[(none,λp s=>⟨[b true],[]⟩),(some 2,λp s=>upq (Ob0 p s) [(20,b (decide (s.Wc1<p.Da2)))])],Ob0⟩
theorem Jc4:ob6.Ok:=Lo.ok [] (by kernel_rfl) .nil rfl (.cons (λa H=>by kernel_rfl) .nil) λp s=>(.of @qa7 (λF _ _ _ _ _=>by unfold qa7;(repeat' apply l5 (f:=F))<;>rfl) (by kernel_rfl))
structure Aa5 where
 is9:Int
structure V9 where
 (j8 gc0:List Pln)
 r8:Int
noncomputable def Ob1(p:Aa5)(s:V9):St:=⟨eL tP s.j8::ra 7 (eL tP s.gc0::i p.is9::i s.r8::ra 27 []),[]⟩
noncomputable def qa8{α:Type}(k:V9->α)(e:Nat->α)(z:α)(p:Aa5)(s:V9):α:=let t1:=(lp (ja9 (⟨rt tP s.j8,rt tP s.gc0,p.is9,s.r8,s.r8.toNat-0,(λk=>(λk=>(tP).row (gL tP s.j8 k)) (0+k)),(↑(s.r8.toNat-0):Int),(gL tP s.gc0 s.r8.toNat).n.x,(gL tP s.gc0 s.r8.toNat).n.y,(gL tP s.gc0 s.r8.toNat).n.z,(gL tP s.gc0 s.r8.toNat).b⟩:Aa4)) (⟨0⟩:V8));(sl (decide (s.r8<p.is9)) (sl (inB s.r8 (List.length s.gc0)) (sl (inB s.r8 ((List.length s.j8)+1)) (sl ((cnE tP s.j8)&&((cnE tP s.gc0)&&true)) (sl (Nat.beq t1.1 1) (e 1) (sl (Nat.beq t1.1 2) (k ⟨rt tP s.j8,rt tP s.gc0,W (s.r8+1)⟩) z)) z) z) z) (e 2))
noncomputable def ka0(p:Aa5)(s:V9):Stp V9:=qa8 .next .exit .fail p s
noncomputable def ob7:Lo Aa5 V9:=⟨En zb7,0,xf4,[1,0,1,4,4],[0,8,9,10],.s .p (.s .p (.s (.b (.s .p (.s .p (.b (.u ob6.ls))))) .p)),[⟨sLq tP::ru2 7 (sLq tP::sIq::sIq::ru2 27 []),[],λa H=>(⟨aIq a 9⟩,⟨aLq tP a 0,aLq tP a 8,aIq a 10⟩)⟩],ka0,[(none,λp s=>⟨[b true],[]⟩),(some 0,λp s=>upq (Ob1 p s) [(11,b (decide (s.r8<p.is9)))])],Ob1⟩
theorem Jc5:ob7.Ok:=Lo.ok [ob6.pr] (by kernel_rfl) (.cons Jc4 .nil) rfl (.cons (λa H=>by kernel_rfl) .nil) λp s=>(.of @qa8 (λF _ _ _ _ _=>by unfold qa8;(repeat' apply l5 (f:=F))<;>rfl) (by kernel_rfl))
noncomputable def Pa0(x:List Pln):Option (b7×List b8):=let t1:=(lp (ka0 (⟨(↑(List.length x):Int)⟩:Aa5)) (⟨rt tP x,rt tP x,0⟩:V9));(sl ((cnE tP x)&&((cnE tP x)&&true)) (sl (Nat.beq t1.1 1) (some (b true,[])) (sl (Nat.beq t1.1 2) (some (b false,[])) none)) none)
noncomputable def Ba8(x:List Pln):Bool:=O9 (one r1B) (Pa0 x)
noncomputable def Ba9(x:List Pln):Bool:=okO (one r1B) (Pa0 x)
noncomputable def oc2:Sum:=Q9 (ta7 tP) (λx=>.guard (Ba9 x) (.ret ((one r1B).enc (Ba8 x),[])))
theorem hd8:f9 prog G 90 oc2:=Ea7 (bd b90 Uc0) (one r1B) (o:=Pa0) λx=>Ua7 (.s .p (.s (.s .p (.b (.u ob7.ls))) .p)) [ob7.pr] (by kernel_rfl) (.cons Jc5 .nil) (by kernel_rfl)
structure Ja5 where
 (U8 U9 V0:Int)
 e7:List Pln
noncomputable def Fb1:List (Nat×Sum):=[(88,sb0),(90,oc2)]
theorem tc0:i4 prog G Fb1:=⟨Jb0,hd8,trivial⟩
structure K8 where
 lb5:List Pln
 is8:Int
 e7:List Pln
 (B7 B9 C0:Int)
structure m9 where
 ph:Nat
 is9:Int
 ns4:Nat
 eh2:List (List b7)
noncomputable def kb8(p:K8)(s:m9):St:=⟨.unk::.unk::.ptr 1 0 0 0::.unk::.v (.slice none 0 0)::.unk::.unk::eL tP p.lb5::i p.is8::i s.is9::ra 15 [],[⟨0,1,[[eL tP p.e7]],true,false,0⟩,⟨0,3,[[i p.B7,i p.B9,i p.C0]],true,false,0⟩]⟩
noncomputable def kb9(p:K8)(s:m9):St:=⟨.unk::.unk::.ptr 1 0 0 0::.unk::.sl 2 0 s.ns4 0::.unk::.unk::eL tP p.lb5::i p.is8::i s.is9::ra 15 [],[⟨0,1,[[eL tP p.e7]],true,false,0⟩,⟨0,3,[[i p.B7,i p.B9,i p.C0]],true,false,0⟩,⟨73,4,s.eh2,true,false,0⟩]⟩
noncomputable def kc5(p:K8)(s:m9):St:=(sel (Nat.beq s.ph 1) (kb9 p s) (kb8 p s))
noncomputable def K9{α:Type}(k:m9->α)(e:Nat->α)(z:α)(p:K8)(s:m9):α:=let t1:=(qa2 (gL tP p.lb5 s.is9.toNat) (⟨p.B7,p.B9,p.C0⟩:V3));(sl (decide (s.is9<p.is8)) (sl (inB s.is9 (List.length p.lb5)) (sl (qa3 (gL tP p.lb5 s.is9.toNat) (⟨p.B7,p.B9,p.C0⟩:V3)) (sl (t1==0) (k ⟨1,W (s.is9+1),1,[[i (gL tP p.lb5 s.is9.toNat).n.x,i (gL tP p.lb5 s.is9.toNat).n.y,i (gL tP p.lb5 s.is9.toNat).n.z,i (gL tP p.lb5 s.is9.toNat).b]]⟩) (k ⟨0,W (s.is9+1),0,[]⟩)) z) z) (e 1))
noncomputable def L0{α:Type}(k:m9->α)(e:Nat->α)(z:α)(p:K8)(s:m9):α:=let t1:=(qa2 (gL tP p.lb5 s.is9.toNat) (⟨p.B7,p.B9,p.C0⟩:V3));(sl (decide (s.is9<p.is8)) (sl (inB s.is9 (List.length p.lb5)) (sl (qa3 (gL tP p.lb5 s.is9.toNat) (⟨p.B7,p.B9,p.C0⟩:V3)) (sl (t1==0) (sl (Nat.beq s.ns4 (len s.eh2)&&Nat.ble ((s.ns4+1)*32) room) (k ⟨1,W (s.is9+1),s.ns4+1,app s.eh2 [[i (gL tP p.lb5 s.is9.toNat).n.x,i (gL tP p.lb5 s.is9.toNat).n.y,i (gL tP p.lb5 s.is9.toNat).n.z,i (gL tP p.lb5 s.is9.toNat).b]]⟩) z) (k ⟨1,W (s.is9+1),s.ns4,s.eh2⟩)) z) z) (e 2))
noncomputable def sa8(p:K8)(s:m9):Stp m9:=(sel (Nat.beq s.ph 1) (L0 .next .exit .fail p s) (K9 .next .exit .fail p s))
noncomputable def Sa8:Lo K8 m9:=⟨En Fb1,1,Hf2,[1,1,0,1,4,4],[2,4,7,8,9],.p,[⟨sUq::sUq::sPq 1::sUq::.s (.o .nil)::sUq::sUq::sLq tP::sIq::sIq::ru2 15 [],[⟨0,1,true,some [[.c 4 (nL tP)]]⟩,⟨0,3,true,some [kLq 3]⟩],λa H=>(⟨aLq tP a 7,aIq a 8,hLq tP H 0 0 0,hIq H 1 0 0,hIq H 1 0 1,hIq H 1 0 2⟩,⟨0,aIq a 9,0,[]⟩)⟩,⟨sUq::sUq::sPq 1::sUq::.s (.o (.sl 2 0 (some 0) none))::sUq::sUq::sLq tP::sIq::sIq::ru2 15 [],[⟨0,1,true,some [[.c 4 (nL tP)]]⟩,⟨0,3,true,some [kLq 3]⟩,⟨73,4,true,none⟩],λa H=>(⟨aLq tP a 7,aIq a 8,hLq tP H 0 0 0,hIq H 1 0 0,hIq H 1 0 1,hIq H 1 0 2⟩,⟨1,aIq a 9,slN (slT a 4),elT H 2⟩)⟩],sa8,[(some 0,λp s=>upq (kb8 p s) [(10,b (decide (s.is9<p.is8)))]),(some 0,λp s=>upq (kb9 p s) [(10,b (decide (s.is9<p.is8)))])],kc5⟩
theorem kc6:Sa8.Ok:=Lo.ok [] (by kernel_rfl) .nil rfl (.cons (λa H=>by kernel_rfl) (.cons (λa H=>by kernel_rfl) .nil)) λp s=>(.sel (Nat.beq s.ph 1) (.of @L0 (λF _ _ _ _ _=>by unfold L0;(repeat' apply l5 (f:=F))<;>rfl) (by kernel_rfl)) (.of @K9 (λF _ _ _ _ _=>by unfold K9;(repeat' apply l5 (f:=F))<;>rfl) (by kernel_rfl)))
structure Ja6 where
 alt:Nat
 bs0:Bool
 e7:List Pln
noncomputable def ka1{α:Type}(kk:Ja6->α)(x:Ja5):α:=let t1:=(lp (sa8 (⟨rt tP x.e7,(↑(List.length x.e7):Int),rt tP x.e7,x.U8,x.U9,x.V0⟩:K8)) (⟨0,0,0,[]⟩:m9));let t2:=(Ba8 []);let t3:=(Ba8 (slR tP t1.2.eh2 0 t1.2.ns4));(sl ((cnE tP x.e7)&&((cnE tP x.e7)&&true)) (sl (Nat.beq t1.1 1) (sl (Ba9 []) (kk ⟨1,!t2,rt tP x.e7⟩) (kk ⟨0,false,[]⟩)) (sl (Nat.beq t1.1 2) (sl (okS tP t1.2.eh2 0 t1.2.ns4) (sl (Ba9 (slR tP t1.2.eh2 0 t1.2.ns4)) (kk ⟨1,!t3,rt tP x.e7⟩) (kk ⟨0,false,[]⟩)) (kk ⟨0,false,[]⟩)) (kk ⟨0,false,[]⟩))) (kk ⟨0,false,[]⟩))
noncomputable def aa0(x:Ja5):Ja6:=ka1 (λr=>r) x
noncomputable def Za0(x:Ja5)(r:Ja6):DT (b7×List b8):=(.ite (Nat.beq r.alt 1) (.ret (b r.bs0,[⟨0,1,[[eL tP r.e7]],true,false,0⟩])) .fail)
theorem Jc6{α β:Type}(F:α->β)(kk:Ja6->α)(x:Ja5):F (ka1 kk x)=ka1 (λr=>F (kk r)) x:=by unfold ka1;(repeat' apply l5 (f:=F))<;>rfl
noncomputable def db8:Sum:=Ea0 ⟨[.agg (kLq 3),sPq 0],[⟨0,1,true,some [[.c 4 (nL tP)]]⟩],λa H=>(⟨cIq a 0 0,cIq a 0 1,cIq a 0 2,hLq tP H 0 0 0⟩,())⟩ (λx=>Za0 x (aa0 x))
theorem Fb2:f9 prog G 89 db8:=B5 (enc:=λx=>⟨[.agg [i x.U8,i x.U9,i x.V0],.ptr 0 0 0 0],[⟨0,1,[[eL tP x.e7]],true,false,0⟩]⟩) (λa H=>by kernel_rfl) (bd b89 tc0) λx=>Ua7 (.s .p (.s .p (.s (.s .p (.b (.u Sa8.ls))) .p))) [Sa8.pr] (by kernel_rfl) (.cons kc6 .nil) (Qia (b:=ka1 (λr=>(Za0 x r).run) x) (by kernel_rfl) (Jc6 (λr=>(Za0 x r).run) (λr=>r) x).symm)
structure da7 where
 ns0:Nat
 eh0:List (List b7)
 o6:List Pln
noncomputable def Pa1:List (Nat×Sum):=[(89,db8)]
theorem Cb9:i4 prog G Pa1:=⟨Fb2,trivial⟩
structure M7 where
 ns0:Nat
 is7:Int
 eh0:List (List b7)
structure q7 where
 is8:Int
 o6:List Pln
noncomputable def Ha6(p:M7)(s:q7):St:=⟨.sl 0 0 p.ns0 0::.fn 89 [.ptr 1 0 0 0]::ra 5 (i p.is7::i s.is8::ra 10 []),[⟨27,3,p.eh0,true,false,0⟩,⟨0,1,[[eL tP s.o6]],true,false,0⟩]⟩
noncomputable def J4{α:Type}(k:q7->α)(e:Nat->α)(z:α)(p:M7)(s:q7):α:=let t1:=(aa0 ⟨(rdR tV p.eh0 (0+s.is8.toNat)).x,(rdR tV p.eh0 (0+s.is8.toNat)).y,(rdR tV p.eh0 (0+s.is8.toNat)).z,rt tP s.o6⟩);(sl (decide (s.is8<p.is7)) (sl (inB s.is8 p.ns0) (sl (ldR tV p.eh0 (0+s.is8.toNat)) (sl ((cnE tP s.o6)&&true) (sl (Nat.beq t1.alt 1) (sl t1.bs0 (e 1) (k ⟨W (s.is8+1),t1.e7⟩)) z) z) z) z) (e 2))
noncomputable def L1(p:M7)(s:q7):Stp q7:=J4 .next .exit .fail p s
noncomputable def na8:Lo M7 q7:=⟨En Pa1,2,Td7,[1,0,1,4,4],[0,1,7,8],.p,[⟨.s (.o (.sl 0 0 (some 0) none))::.fn 89 [.o (.ptr 1 0 0 0)]::ru2 5 (sIq::sIq::ru2 10 []),[⟨27,3,true,none⟩,⟨0,1,true,some [[.c 4 (nL tP)]]⟩],λa H=>(⟨slN (slT a 0),aIq a 7,elT H 0⟩,⟨aIq a 8,hLq tP H 1 0 0⟩)⟩],L1,[(none,λp s=>let t1:=(aa0 ⟨(rdR tV p.eh0 (0+s.is8.toNat)).x,(rdR tV p.eh0 (0+s.is8.toNat)).y,(rdR tV p.eh0 (0+s.is8.toNat)).z,rt tP s.o6⟩);⟨[i s.is8],[⟨27,3,p.eh0,true,false,0⟩,⟨0,1,[[eL tP t1.e7]],true,false,0⟩]⟩),(some 0,λp s=>upq (Ha6 p s) [(9,b (decide (s.is8<p.is7)))])],Ha6⟩
theorem zb8:na8.Ok:=Lo.ok [] (by kernel_rfl) .nil rfl (.cons (λa H=>by kernel_rfl) .nil) λp s=>(.of @J4 (λF _ _ _ _ _=>by unfold J4;(repeat' apply l5 (f:=F))<;>rfl) (by kernel_rfl))
structure da8 where
 alt:Nat
 is0:Int
 o6:List Pln
noncomputable def K0{α:Type}(kk:da8->α)(x:da7):α:=let t1:=(lp (L1 (⟨x.ns0,(↑x.ns0:Int),x.eh0⟩:M7)) (⟨0,rt tP x.o6⟩:q7));let t2:=(aa0 ⟨(rdR tV x.eh0 (0+t1.2.is8.toNat)).x,(rdR tV x.eh0 (0+t1.2.is8.toNat)).y,(rdR tV x.eh0 (0+t1.2.is8.toNat)).z,rt tP t1.2.o6⟩);(sl ((cnE tP x.o6)&&true) (sl (Nat.beq t1.1 1) (kk ⟨1,t1.2.is8,t2.e7⟩) (sl (Nat.beq t1.1 2) (kk ⟨1,-1,t1.2.o6⟩) (kk ⟨0,0,[]⟩))) (kk ⟨0,0,[]⟩))
noncomputable def da9(x:da7):da8:=K0 (λr=>r) x
noncomputable def sa2(x:da7)(r:da8):DT (b7×List b8):=(.ite (Nat.beq r.alt 1) (.ret (i r.is0,[⟨27,3,x.eh0,true,false,0⟩,⟨0,1,[[eL tP r.o6]],true,false,0⟩])) .fail)
theorem Ob2{α β:Type}(F:α->β)(kk:da8->α)(x:da7):F (K0 kk x)=K0 (λr=>F (kk r)) x:=by unfold K0;(repeat' apply l5 (f:=F))<;>rfl
noncomputable def Ua5:Sum:=Ea0 ⟨[.s (.o (.sl 0 0 (some 0) none)),.fn 89 [.o (.ptr 1 0 0 0)]],[⟨27,3,true,none⟩,⟨0,1,true,some [[.c 4 (nL tP)]]⟩],λa H=>(⟨slN (slT a 0),elT H 0,hLq tP H 1 0 0⟩,())⟩ (λx=>sa2 x (da9 x))
theorem Jb8:f9 prog G 144 Ua5:=B5 (enc:=λx=>⟨[.sl 0 0 x.ns0 0,.fn 89 [.ptr 1 0 0 0]],[⟨27,3,x.eh0,true,false,0⟩,⟨0,1,[[eL tP x.o6]],true,false,0⟩]⟩) (λa H=>by kernel_rfl) (bd ef0 Cb9) λx=>Ua7 (.s .p (.s (.s .p (.b (.u na8.ls))) .p)) [na8.pr] (by kernel_rfl) (.cons zb8 .nil) (Qia (b:=K0 (λr=>(sa2 x r).run) x) (by kernel_rfl) (Ob2 (λr=>(sa2 x r).run) (λr=>r) x).symm)
structure ea0 where
 ns0:Nat
 eh0:List (List b7)
 o6:List Pln
noncomputable def Pa2:List (Nat×Sum):=[(144,Ua5),(89,db8)]
theorem Db0:i4 prog G Pa2:=⟨Jb8,Fb2,trivial⟩
structure M8 where
 ns0:Nat
structure v7 where
 (is5 is6:Int)
 eh0:List (List b7)
 o6:List Pln
noncomputable def Ha7(p:M8)(s:v7):St:=⟨.sl 0 0 p.ns0 0::.fn 89 [.ptr 1 0 0 0]::ra 3 (i s.is5::i s.is6::ra 35 []),[⟨27,3,s.eh0,true,false,0⟩,⟨0,1,[[eL tP s.o6]],true,false,0⟩]⟩
noncomputable def J5{α:Type}(k:v7->α)(e:Nat->α)(z:α)(p:M8)(s:v7):α:=let t1:=(aa0 ⟨(rdR tV s.eh0 (0+s.is6.toNat)).x,(rdR tV s.eh0 (0+s.is6.toNat)).y,(rdR tV s.eh0 (0+s.is6.toNat)).z,rt tP s.o6⟩);(sl (decide (s.is6<(↑p.ns0:Int))) (sl (inB s.is6 p.ns0) (sl (ldR tV s.eh0 (0+s.is6.toNat)) (sl ((cnE tP s.o6)&&true) (sl (Nat.beq t1.alt 1) (sl (!t1.bs0) (sl (inB s.is5 p.ns0) (sl ((Nat.blt (0+s.is5.toNat) (len s.eh0))&&(Nat.ble (0+3) (len (j9 s.eh0 (0+s.is5.toNat))))) (k ⟨W (s.is5+1),W (s.is6+1),setAt s.eh0 (0+s.is5.toNat) (W7 (j9 s.eh0 (0+s.is5.toNat)) 0 [i (rdR tV s.eh0 (0+s.is6.toNat)).x,i (rdR tV s.eh0 (0+s.is6.toNat)).y,i (rdR tV s.eh0 (0+s.is6.toNat)).z]),t1.e7⟩) z) z) (k ⟨s.is5,W (s.is6+1),s.eh0,t1.e7⟩)) z) z) z) z) (e 1))
noncomputable def D8(p:M8)(s:v7):Stp v7:=J5 .next .exit .fail p s
noncomputable def na9:Lo M8 v7:=⟨En Pa2,2,Hf3,[1,1,1,0,1,4,4],[0,1,5,6],.p,[⟨.s (.o (.sl 0 0 (some 0) none))::.fn 89 [.o (.ptr 1 0 0 0)]::ru2 3 (sIq::sIq::ru2 35 []),[⟨27,3,true,none⟩,⟨0,1,true,some [[.c 4 (nL tP)]]⟩],λa H=>(⟨slN (slT a 0)⟩,⟨aIq a 5,aIq a 6,elT H 0,hLq tP H 1 0 0⟩)⟩],D8,[(some 0,λp s=>upq (Ha7 p s) [(16,i s.is6),(17,.sl 0 0 p.ns0 0),(18,i (↑p.ns0:Int)),(19,b (decide (s.is6<(↑p.ns0:Int))))])],Ha7⟩
theorem zb9:na9.Ok:=Lo.ok [] (by kernel_rfl) .nil rfl (.cons (λa H=>by kernel_rfl) .nil) λp s=>(.of @J5 (λF _ _ _ _ _=>by unfold J5;(repeat' apply l5 (f:=F))<;>rfl) (by kernel_rfl))
structure ea1 where
 (alt ns0:Nat)
 eh0:List (List b7)
 o6:List Pln
noncomputable def K1{α:Type}(kk:ea1->α)(x:ea0):α:=let t1:=(da9 ⟨x.ns0,x.eh0,rt tP x.o6⟩);let t2:=(lp (D8 (⟨x.ns0⟩:M8)) (⟨t1.is0,W (t1.is0+1),x.eh0,rt tP t1.o6⟩:v7));(sl ((cnE tP x.o6)&&true) (sl (Nat.beq t1.alt 1) (sl (t1.is0==(-1)) (kk ⟨1,x.ns0,x.eh0,t1.o6⟩) (sl ((cnE tP t1.o6)&&true) (sl (Nat.beq t2.1 1) (sl (inB t2.2.is5 (x.ns0+1)) (sl (inB t2.2.is5 (x.ns0+1)) (kk ⟨1,t2.2.is5.toNat-0,app (J6 t2.2.eh0 (0+t2.2.is5.toNat)) (app (List.replicate (x.ns0-t2.2.is5.toNat) [i 0,i 0,i 0]) (i9 t2.2.eh0 ((0+t2.2.is5.toNat)+(x.ns0-t2.2.is5.toNat)))),t2.2.o6⟩) (kk ⟨0,0,[],[]⟩)) (kk ⟨0,0,[],[]⟩)) (kk ⟨0,0,[],[]⟩)) (kk ⟨0,0,[],[]⟩))) (kk ⟨0,0,[],[]⟩)) (kk ⟨0,0,[],[]⟩))
noncomputable def ea2(x:ea0):ea1:=K1 (λr=>r) x
noncomputable def sa3(x:ea0)(r:ea1):DT (b7×List b8):=(.ite (Nat.beq r.alt 1) (.ret (.sl 0 0 r.ns0 0,[⟨27,3,r.eh0,true,false,0⟩,⟨0,1,[[eL tP r.o6]],true,false,0⟩])) .fail)
theorem Ob3{α β:Type}(F:α->β)(kk:ea1->α)(x:ea0):F (K1 kk x)=K1 (λr=>F (kk r)) x:=by unfold K1;(repeat' apply l5 (f:=F))<;>rfl
noncomputable def Ua6:Sum:=Ea0 ⟨[.s (.o (.sl 0 0 (some 0) none)),.fn 89 [.o (.ptr 1 0 0 0)]],[⟨27,3,true,none⟩,⟨0,1,true,some [[.c 4 (nL tP)]]⟩],λa H=>(⟨slN (slT a 0),elT H 0,hLq tP H 1 0 0⟩,())⟩ (λx=>sa3 x (ea2 x))
theorem Jb9:f9 prog G 91 Ua6:=B5 (enc:=λx=>⟨[.sl 0 0 x.ns0 0,.fn 89 [.ptr 1 0 0 0]],[⟨27,3,x.eh0,true,false,0⟩,⟨0,1,[[eL tP x.o6]],true,false,0⟩]⟩) (λa H=>by kernel_rfl) (bd b91 Db0) λx=>Ua7 (.s .p (.s .p (.s .p (.s (.s .p (.b (.u na9.ls))) .p)))) [na9.pr] (by kernel_rfl) (.cons zb9 .nil) (Qia (b:=K1 (λr=>(sa3 x r).run) x) (by kernel_rfl) (Ob3 (λr=>(sa3 x r).run) (λr=>r) x).symm)
noncomputable def Ac8:List (Nat×Sum):=[(145,Sa7),(146,Ca8),(148,Ha4)]
theorem tc1:i4 prog G Ac8:=⟨pb6,Ya9,ab8,trivial⟩
structure Ja7 where
 (alt ns0:Nat)
 eh0:List (List b7)
noncomputable def ka2{α:Type}(kk:Ja7->α)(x:V3×List V3):α:=let t1:=(la8 (hC tV (λk=>(tV).row (gL tV (x.1::x.2) k)),tC tV (List.length x.2) (λk=>(tV).row (gL tV (x.1::x.2) k))));let t2:=(R7 ⟨t1.ns0,app (bL tV (Vb9 (slR tV t1.eh0 0 t1.ns0))) (i9 t1.eh0 t1.ns0)⟩);(sl (okL tV (List.length x.2+1) (λk=>(tV).row (gL tV (x.1::x.2) k))) (sl (Nat.beq t1.alt 1) (sl (Bool.and (Nat.ble t1.ns0 room) (Bool.and (Nat.ble t1.ns0 (len t1.eh0)) (okS tV t1.eh0 0 t1.ns0))) (sl (Nat.beq t2.alt 1) (kk ⟨1,t2.ns0,t2.eh0⟩) (kk ⟨0,0,[]⟩)) (kk ⟨0,0,[]⟩)) (kk ⟨0,0,[]⟩)) (kk ⟨0,0,[]⟩))
noncomputable def Ja8(x:V3×List V3):Ja7:=ka2 (λr=>r) x
noncomputable def Za1(r:Ja7):DT (b7×List b8):=(.ite (Nat.beq r.alt 1) (.ret (.sl 0 0 r.ns0 0,[⟨27,3,r.eh0,true,false,0⟩])) .fail)
theorem Jc7{α β:Type}(F:α->β)(kk:Ja7->α)(x:V3×List V3):F (ka2 kk x)=ka2 (λr=>F (kk r)) x:=by unfold ka2;(repeat' apply l5 (f:=F))<;>rfl
noncomputable def ua9:Sum:=Q9 (Qd9 tV) (λx=>Za1 (Ja8 x))
theorem Da8:f9 prog G 92 ua9:=Qb9 (bd b92 tc1) λx=>q9 (Qia (b:=ka2 (λr=>(Za1 r).run) x) (by kernel_rfl) (Jc7 (λr=>(Za1 r).run) (λr=>r) x).symm)
noncomputable def Uc1:List (Nat×Sum):=[(64,Ac6),(92,ua9),(91,Ua6)]
theorem Jc8:i4 prog G Uc1:=⟨oc1,Da8,Jb9,trivial⟩
noncomputable def Ha8(x:V3×List V3):Option (b7×List b8):=let t1:=(tb0 (hC tV (λk=>(tV).row (gL tV (x.1::x.2) k)),tC tV (List.length x.2) (λk=>(tV).row (gL tV (x.1::x.2) k))));let t2:=(Ja8 (hC tV (λk=>(tV).row (gL tV (x.1::x.2) k)),tC tV (List.length x.2) (λk=>(tV).row (gL tV (x.1::x.2) k))));let t3:=(ea2 ⟨t2.ns0,t2.eh0,rt tP t1.1⟩);(sl (okL tV (List.length x.2+1) (λk=>(tV).row (gL tV (x.1::x.2) k))) (sl (tb1 (hC tV (λk=>(tV).row (gL tV (x.1::x.2) k)),tC tV (List.length x.2) (λk=>(tV).row (gL tV (x.1::x.2) k)))) (sl (t1.2 != 0) (some (.tup [.v (.slice none 0 0),i t1.2],[])) (sl (okL tV (List.length x.2+1) (λk=>(tV).row (gL tV (x.1::x.2) k))) (sl (Nat.beq t2.alt 1) (sl ((cnE tP t1.1)&&true) (sl (Nat.beq t3.alt 1) (some (.tup [.sl 0 0 t3.ns0 0,i 0],[⟨27,3,t3.eh0,true,false,0⟩])) none) none) none) none)) none) none)
noncomputable def dc8(x:V3×List V3):List V3×Int:=O9 (two (r1L tV) r1I) (Ha8 x)
noncomputable def dc9(x:V3×List V3):Bool:=okO (two (r1L tV) r1I) (Ha8 x)
noncomputable def hd9:Sum:=Q9 (Qd9 tV) (λx=>.guard (dc9 x) (.ret ((two (r1L tV) r1I).enc (dc8 x),[])))
theorem Uc2:f9 prog G 35 hd9:=Ea7 (bd b35 Jc8) (two (r1L tV) r1I) (o:=Ha8) λx=>q9 (by kernel_rfl)
end Go.Ev.Ce
namespace Go.Ev.L
open Go Go.Ev
noncomputable def yf8:Cod Unit where
 enc _:=.v (.slice none 0 0)
 dec x:=match x with
  |.v (.slice none 0 0)=>some ()
  |_=>none
 grd _:=true
 ok x a hx _:=by
  split at hx
  ·exact .refl _
  ·cases hx
noncomputable def cE0:Cod (Addr×Nat) where
 enc z:=.v (.slice (some z.1) 0 z.2)
 dec x:=match x with
  |.v (.slice (some a) 0 c)=>some (a,c)
  |_=>none
 grd _:=true
 ok x a hx _:=by
  split at hx
  ·cases hx;exact .refl _
  ·cases hx
section
variable{α:Type}{t:Ty α}{P:Program}{G:Nat->List Value}{f:FuncId}
theorem ic6{β:Type}{c:Cod β}{k k':β->DT (b7×List b8)}(h:f9 P G f (Q9 c k))(hk:∀a r,(k' a).run=some r->(k a).run=some r):f9 P G f (Q9 c k'):=h.le λargs blks r hr=>by
 unfold Q9 at hr ⊢
 split at hr
 ·obtain⟨a,h1,hr⟩:=pa2 hr;obtain⟨g,hr⟩:=DT.run_guard_some hr;simp only[h1,onO,g];exact hk a r hr
 ·cases hr
theorem Le4{k:List α->DT (b7×List b8)}(hA:f9 P G f (Q9 (Qd9 t) λz=>k (z.1::z.2)))(hN:f9 P G f (Q9 yf8 λ_=>k []))(hE:f9 P G f (Q9 cE0 λ_=>k [])):f9 P G f (Q9 (ta7 t) k):=by
 intro args blks r out he W ρ F w args' hH hlen hargs hG;unfold Q9 at he
 split at he
 ·rename_i x;obtain⟨a,h1,he⟩:=pa2 he;obtain⟨g1,hk⟩:=DT.run_guard_some he;have nilCase:∀v',args'[0]?=some v'->v'=.slice none 0 0->a=[]->ub9 P f/\Calls P f args'.toArray w λe w'=>∃r',e=.returned r'/\M2 W ρ [] F w r out r' w':=λv' hv e ha=>by
   subst ha;refine hN [.v (.slice none 0 0)] [] r out ?_ W ρ F w args' hH hlen (λi x' y' hx hy=>?_) hG
   ·exact hk
   ·match i with
    |0=>cases hx;rw[hv] at hy;cases hy;rw[e];exact .val (.cell (.v _))
    |i+1=>cases hx
  have emptyCase:∀v' ad c,args'[0]?=some v'->v'=.slice (some ad) 0 c->a=[]->ub9 P f/\Calls P f args'.toArray w λe w'=>∃r',e=.returned r'/\M2 W ρ [] F w r out r' w':=λv' ad c hv e ha=>by
   subst ha;refine hE [.v (.slice (some ad) 0 c)] [] r out ?_ W ρ F w args' hH hlen (λi x' y' hx hy=>?_) hG
   ·exact hk
   ·match i with
    |0=>cases hx;rw[hv] at hy;cases hy;rw[e];exact .val (.cell (.v _))
    |i+1=>cases hx
  obtain⟨v',hv⟩:∃v',args'[0]?=some v':=by
   cases args' with
   |nil=>simp at hlen
   |cons v' r'=>exact⟨v',rfl⟩
  cases x with
  |tree e n get =>
   have hb:Nat.beq e t.es=true/\a=lsL t n get:=by
    have h1:(Bool.rec none (some (lsL t n get)) (Nat.beq e t.es):Option (List α))=some a:=h1;cases hb:Nat.beq e t.es with
    |false=>rw[hb] at h1;cases h1
    |true =>
     rw[hb] at h1;have h1:some (lsL t n get)=some a:=h1;injection h1 with h1;exact⟨rfl,h1.symm⟩
   cases n with
   |zero =>
    have ha:a=[]:=hb.2;have hm:=xa9 (hargs 0 _ v' rfl hv);cases hm with
    |tree _ _ _ ad cap cs hs hcap hes hF hw hr=>exact emptyCase _ ad cap hv rfl ha
    |nil=>exact nilCase _ hv rfl ha
   |succ m =>
    have ha:a=hC t get::tC t m get:=hb.2.trans (Qd8 t m get);subst ha;refine hA [.tree e (m+1) get] [] r out ?_ W ρ F w args' hH hlen hargs hG;have hc:(Qd9 t).dec (.tree e (m+1) get)=some (hC t get,tC t m get):=by
     show (Bool.rec none (some (hC t get,tC t m get)) (Nat.beq e t.es):Option (α×List α))=_;rw[hb.1]
    have hg:(Qd9 t).grd (.tree e (m+1) get)=true:=g1;simp only[Q9,hc,onO,hg];exact hk
  |v q =>
   have hq:=ca4 (hargs 0 _ v' rfl hv);unfold ta7 at h1
   simp only at h1
   split at h1
   ·rename_i heq;cases heq
   ·rename_i heq;injection heq with heq;injection h1 with h1;exact nilCase v' hv (hq.trans heq) h1.symm
   ·rename_i ad c heq;injection heq with heq;injection h1 with h1;exact emptyCase v' _ _ hv (hq.trans heq) h1.symm
   ·cases h1
  |_=>cases h1
 ·cases he
end
end Go.Ev.L
namespace Go.Ev.Ce
open Go Go.Ev Go.Ev.L Go.Proofs
set_option maxRecDepth 100000
noncomputable def id1:List (Nat×Sum):=[(118,Tb2),(92,ua9),(119,Ga6)]
theorem Uc3:i4 prog G id1:=⟨nc9,Da8,Qa6,trivial⟩
noncomputable def Pa3(x:Unit):Option (b7×List b8):=let t1:=(Ya4 []);(sl (Ya5 []) (sl (t1 != 0) (some (.tup [.v (.slice none 0 0),i t1],[])) none) none)
noncomputable def gb4(x:Unit):List Pln×Int:=O9 (two (r1L tP) r1I) (Pa3 x)
noncomputable def gb5(x:Unit):Bool:=okO (two (r1L tP) r1I) (Pa3 x)
noncomputable def Kb0:Sum:=Q9 yf8 (λx=>.guard (gb5 x) (.ret ((two (r1L tP) r1I).enc (gb4 x),[])))
theorem Ab0:f9 prog G 64 Kb0:=Ea7 (bd b64 Uc3) (two (r1L tP) r1I) (o:=Pa3) λx=>dd7 .p [] (by kernel_rfl) .nil (by kernel_rfl)
noncomputable def Jc9:List (Nat×Sum):=[(64,Kb0),(92,ua9)]
theorem Ac9:i4 prog G Jc9:=⟨Ab0,Da8,trivial⟩
noncomputable def Aa6(x:Unit):Option (b7×List b8):=let t1:=(gb4 ());(sl (gb5 ()) (sl (t1.2 != 0) (some (.tup [.v (.slice none 0 0),i t1.2],[])) none) none)
noncomputable def Ra4(x:Unit):List V3×Int:=O9 (two (r1L tV) r1I) (Aa6 x)
noncomputable def Ra5(x:Unit):Bool:=okO (two (r1L tV) r1I) (Aa6 x)
noncomputable def Wb2:Sum:=Q9 yf8 (λx=>.guard (Ra5 x) (.ret ((two (r1L tV) r1I).enc (Ra4 x),[])))
theorem Ob4:f9 prog G 35 Wb2:=Ea7 (bd b35 Ac9) (two (r1L tV) r1I) (o:=Aa6) λx=>q9 (by kernel_rfl)
noncomputable def id3:List (Nat×Sum):=[(119,Ga6)]
theorem Uc4:i4 prog G id3:=⟨Qa6,trivial⟩
noncomputable def Kb1(x:Addr×Nat):Option (b7×List b8):=none
noncomputable def oc3(x:Addr×Nat):List Pln×Int:=O9 (two (r1L tP) r1I) (Kb1 x)
noncomputable def oc4(x:Addr×Nat):Bool:=okO (two (r1L tP) r1I) (Kb1 x)
noncomputable def oc5:Sum:=Q9 cE0 (λx=>.guard (oc4 x) (.ret ((two (r1L tP) r1I).enc (oc3 x),[])))
theorem ec0:f9 prog G 64 oc5:=Ea7 (bd b64 Uc4) (two (r1L tP) r1I) (o:=Kb1) λx=>dd7 .p [] (by kernel_rfl) .nil (by kernel_rfl)
noncomputable def Kc0:List (Nat×Sum):=[(64,oc5),(92,ua9)]
theorem Bc0:i4 prog G Kc0:=⟨ec0,Da8,trivial⟩
noncomputable def ob8(x:Addr×Nat):Option (b7×List b8):=let t1:=(oc3 x);(sl (oc4 x) (sl (t1.2 != 0) (some (.tup [.v (.slice none 0 0),i t1.2],[])) none) none)
noncomputable def Uc5(x:Addr×Nat):List V3×Int:=O9 (two (r1L tV) r1I) (ob8 x)
noncomputable def Uc6(x:Addr×Nat):Bool:=okO (two (r1L tV) r1I) (ob8 x)
noncomputable def Uc7:Sum:=Q9 cE0 (λx=>.guard (Uc6 x) (.ret ((two (r1L tV) r1I).enc (Uc5 x),[])))
theorem Kc1:f9 prog G 35 Uc7:=Ea7 (bd b35 Bc0) (two (r1L tV) r1I) (o:=ob8) λx=>q9 (by kernel_rfl)
noncomputable def Ab1:List (Nat×Sum):=[]
theorem kc7:i4 prog G Ab1:=trivial
structure ga5 where
 (d7 jc5 jc6:Int)
structure D0 where
 ra4:Int
noncomputable def lb0(p:ga5)(s:D0):St:=⟨ra 14 (.sl 0 0 3 0::i 3::i s.ra4::ra 10 []),[⟨3,1,[[i p.d7],[i p.jc5],[i p.jc6]],true,false,0⟩]⟩
noncomputable def Y7{α:Type}(k:D0->α)(e:Nat->α)(z:α)(p:ga5)(s:D0):α:=(sl (decide (s.ra4<3)) (sl (inB s.ra4 3) (sl (((Nat.blt (0+s.ra4.toNat) (len [[i p.d7],[i p.jc5],[i p.jc6]]))&&(Nat.ble (0+1) (len (j9 [[i p.d7],[i p.jc5],[i p.jc6]] (0+s.ra4.toNat)))))&&(ta2 [CK.int .i64] (i9 (j9 [[i p.d7],[i p.jc5],[i p.jc6]] (0+s.ra4.toNat)) 0))) (sl (decide ((toI (hdA (i9 (j9 [[i p.d7],[i p.jc5],[i p.jc6]] (0+s.ra4.toNat)) 0)))<0)) (e 1) (sl (decide ((toI (hdA (i9 (j9 [[i p.d7],[i p.jc5],[i p.jc6]] (0+s.ra4.toNat)) 0)))>12)) (e 1) (k ⟨W (s.ra4+1)⟩))) z) z) (e 2))
noncomputable def L2(p:ga5)(s:D0):Stp D0:=Y7 .next .exit .fail p s
noncomputable def Ma9:Lo ga5 D0:=⟨En Ab1,0,pf1,[1,0,1,4,4],[14,15,16],.p,[⟨ru2 14 (.s (.o (.sl 0 0 (some 0) (some 3)))::.s (.o (.lit .i64 3))::sIq::ru2 10 []),[⟨3,1,true,some [[.o (.int .i64)],[.o (.int .i64)],[.o (.int .i64)]]⟩],λa H=>(⟨hIq H 0 0 0,hIq H 0 1 0,hIq H 0 2 0⟩,⟨aIq a 16⟩)⟩],L2,[(none,λp s=>⟨[b false],[]⟩),(some 0,λp s=>upq (lb0 p s) [(17,b (decide (s.ra4<3)))])],lb0⟩
theorem ec1:Ma9.Ok:=Lo.ok [] (by kernel_rfl) .nil rfl (.cons (λa H=>by kernel_rfl) .nil) λp s=>(.of @Y7 (λF _ _ _ _ _=>by unfold Y7;(repeat' apply l5 (f:=F))<;>rfl) (by kernel_rfl))
noncomputable def qa9(x:V3):Option (b7×List b8):=let t1:=(lp (L2 (⟨x.x,x.y,x.z⟩:ga5)) (⟨0⟩:D0));(sl (Nat.beq t1.1 1) (some (b false,[])) (sl (Nat.beq t1.1 2) (some (b true,[])) none))
noncomputable def ra0(x:V3):Bool:=O9 (one r1B) (qa9 x)
noncomputable def ra1(x:V3):Bool:=okO (one r1B) (qa9 x)
noncomputable def Za2:Sum:=Q9 (W8 tV) (λx=>.guard (ra1 x) (.ret ((one r1B).enc (ra0 x),[])))
theorem Ab2:f9 prog G 129 Za2:=Ea7 (bd Uf7 kc7) (one r1B) (o:=qa9) λx=>Ua7 (.s .p (.s (.s .p (.b (.u Ma9.ls))) .p)) [Ma9.pr] (by kernel_rfl) (.cons ec1 .nil) (by kernel_rfl)
noncomputable def id4:List (Nat×Sum):=[(183,cb3)]
theorem Uc8:i4 prog G id4:=⟨Eb5,trivial⟩
noncomputable def Pa4(x:V3)(y:V3):Int:=let t1:=(Z0 x.x);let t2:=(Z0 x.y);let t3:=(Z0 x.z);(W ((W ((W (t1*y.x))+(W (t2*y.y))))+(W (t3*y.z))))
noncomputable def oc6:Sum:=va4 (W8 tV) (W8 tV) (λx y=>.ret ((one r1I).enc (Pa4 x y),[]))
theorem id5:f9 prog G 131 oc6:=Ia9 (bd Uf9 Uc8) λx y=>q9 (by kernel_rfl)
noncomputable def sd1:List (Nat×Sum):=[(140,fb3),(138,Wa5)]
theorem id6:i4 prog G sd1:=⟨wb7,mb4,trivial⟩
noncomputable def Za3(x:Pln)(y:Int):Option (b7×List b8):=let t1:=(Ba5 x);let t2:=(O2 4194304 [y]);let t3:=(O2 2097152 [W (x.b+y)]);(sl (Ba6 x) (sl (!t1) (some (.tup [.agg [i 0,i 0,i 0,i 0],b false],[])) (sl (O3 4194304 [y]) (sl (!t2) (some (.tup [.agg [i 0,i 0,i 0,i 0],b false],[])) (sl (O3 2097152 [W (x.b+y)]) (sl (!t3) (some (.tup [.agg [i 0,i 0,i 0,i 0],b false],[])) (some (.tup [.agg [i x.n.x,i x.n.y,i x.n.z,i (W (x.b+y))],b true],[]))) none)) none)) none)
noncomputable def xa5(x:Pln)(y:Int):Pln×Bool:=O9 (two r1P r1B) (Za3 x y)
noncomputable def xa6(x:Pln)(y:Int):Bool:=okO (two r1P r1B) (Za3 x y)
noncomputable def Tb6:Sum:=va4 (W8 tP) cI (λx y=>.guard (xa6 x y) (.ret ((two r1P r1B).enc (xa5 x y),[])))
theorem oc7:f9 prog G 130 Tb6:=Rb0 (bd Uf8 id6) (two r1P r1B) (o:=Za3) λx y=>q9 (by kernel_rfl)
noncomputable def Kc2:List (Nat×Sum):=[(131,oc6)]
theorem Bc1:i4 prog G Kc2:=⟨id5,trivial⟩
noncomputable def Aa7(x:V3)(y:Pln):Int:=let t1:=(Pa4 y.n x);t1
noncomputable def ob9:Sum:=va4 (W8 tV) (W8 tP) (λx y=>.ret ((one r1I).enc (Aa7 x y),[]))
theorem Ob5:f9 prog G 75 ob9:=Ia9 (bd b75 Bc1) λx y=>q9 (by kernel_rfl)
noncomputable def Uc9:List (Nat×Sum):=[(75,ob9)]
theorem Kc3:i4 prog G Uc9:=⟨Ob5,trivial⟩
noncomputable def Za4(x:V3)(y:Pln):Int:=let t1:=(Aa7 x y);(W (0-t1))
noncomputable def ec2:Sum:=va4 (W8 tV) (W8 tP) (λx y=>.ret ((one r1I).enc (Za4 x y),[]))
theorem Vc0:f9 prog G 77 ec2:=Ia9 (bd b77 Kc3) λx y=>q9 (by kernel_rfl)
structure gb6 where
 (U8 U9 V0:Int)
 qb3:List Pln
 (Bb3 Bb4 Bb5:Int)
noncomputable def ec3:List (Nat×Sum):=[(129,Za2),(75,ob9),(130,Tb6)]
theorem Vc1:i4 prog G ec3:=⟨Ab2,Ob5,oc7,trivial⟩
structure W0 where
 (Bb3 Bb4 Bb5:Int)
 oa1:List Pln
 r9:Int
structure p4 where
 ph:Nat
 Da2:Int
 ns8:Nat
 eh0:List (List b7)
noncomputable def Fb3(p:W0)(s:p4):St:=⟨.unk::.unk::.fn 100075 [i p.Bb3,i p.Bb4,i p.Bb5]::ra 5 (.v (.slice none 0 0)::ra 7 (eL tP p.oa1::i p.r9::i s.Da2::ra 19 [])),[]⟩
noncomputable def Fb4(p:W0)(s:p4):St:=⟨.unk::.unk::.fn 100075 [i p.Bb3,i p.Bb4,i p.Bb5]::ra 5 (.sl 0 0 s.ns8 0::ra 7 (eL tP p.oa1::i p.r9::i s.Da2::ra 19 [])),[⟨73,4,s.eh0,true,false,0⟩]⟩
noncomputable def Kc4(p:W0)(s:p4):St:=(sel (Nat.beq s.ph 1) (Fb4 p s) (Fb3 p s))
noncomputable def U4{α:Type}(k:p4->α)(e:Nat->α)(z:α)(p:W0)(s:p4):α:=let t1:=(Aa7 (⟨p.Bb3,p.Bb4,p.Bb5⟩:V3) (gL tP p.oa1 s.Da2.toNat));let t2:=(xa5 (gL tP p.oa1 s.Da2.toNat) t1);(sl (decide (s.Da2<p.r9)) (sl (inB s.Da2 (List.length p.oa1)) (sl (xa6 (gL tP p.oa1 s.Da2.toNat) t1) (sl (!t2.2) (e 1) (k ⟨1,W (s.Da2+1),1,[[i t2.1.n.x,i t2.1.n.y,i t2.1.n.z,i t2.1.b]]⟩)) z) z) (e 2))
noncomputable def U5{α:Type}(k:p4->α)(e:Nat->α)(z:α)(p:W0)(s:p4):α:=let t1:=(Aa7 (⟨p.Bb3,p.Bb4,p.Bb5⟩:V3) (gL tP p.oa1 s.Da2.toNat));let t2:=(xa5 (gL tP p.oa1 s.Da2.toNat) t1);(sl (decide (s.Da2<p.r9)) (sl (inB s.Da2 (List.length p.oa1)) (sl (xa6 (gL tP p.oa1 s.Da2.toNat) t1) (sl (!t2.2) (e 1) (sl (Nat.beq s.ns8 (len s.eh0)&&Nat.ble ((s.ns8+1)*32) room) (k ⟨1,W (s.Da2+1),s.ns8+1,app s.eh0 [[i t2.1.n.x,i t2.1.n.y,i t2.1.n.z,i t2.1.b]]⟩) z)) z) z) (e 3))
noncomputable def Ja9(p:W0)(s:p4):Stp p4:=(sel (Nat.beq s.ph 1) (U5 .next .exit .fail p s) (U4 .next .exit .fail p s))
noncomputable def pb0:Lo W0 p4:=⟨En ec3,0,xf2,[1,1,1,0,1,4,4],[2,8,16,17,18],.p,[⟨sUq::sUq::.fn 100075 (kLq 3)::ru2 5 (.s (.o .nil)::ru2 7 (sLq tP::sIq::sIq::ru2 19 [])),[],λa H=>(⟨cIq a 2 0,cIq a 2 1,cIq a 2 2,aLq tP a 16,aIq a 17⟩,⟨0,aIq a 18,0,[]⟩)⟩,⟨sUq::sUq::.fn 100075 (kLq 3)::ru2 5 (.s (.o (.sl 0 0 (some 0) none))::ru2 7 (sLq tP::sIq::sIq::ru2 19 [])),[⟨73,4,true,none⟩],λa H=>(⟨cIq a 2 0,cIq a 2 1,cIq a 2 2,aLq tP a 16,aIq a 17⟩,⟨1,aIq a 18,slN (slT a 8),elT H 0⟩)⟩],Ja9,[(none,λp s=>⟨[.tup [.v (.slice none 0 0),b false]],[]⟩),(some 0,λp s=>upq (Fb3 p s) [(19,b (decide (s.Da2<p.r9)))]),(some 0,λp s=>upq (Fb4 p s) [(19,b (decide (s.Da2<p.r9)))])],Kc4⟩
theorem Kc5:pb0.Ok:=Lo.ok [] (by kernel_rfl) .nil rfl (.cons (λa H=>by kernel_rfl) (.cons (λa H=>by kernel_rfl) .nil)) λp s=>(.sel (Nat.beq s.ph 1) (.of @U5 (λF _ _ _ _ _=>by unfold U5;(repeat' apply l5 (f:=F))<;>rfl) (by kernel_rfl)) (.of @U4 (λF _ _ _ _ _=>by unfold U4;(repeat' apply l5 (f:=F))<;>rfl) (by kernel_rfl)))
structure gb7 where
 alt:Nat
 bs1:Bool
 ns0:Nat
 eh0:List (List b7)
noncomputable def Ca0{α:Type}(kk:gb7->α)(x:gb6):α:=let t1:=(ra0 (⟨x.U8,x.U9,x.V0⟩:V3));let t2:=(lp (Ja9 (⟨x.Bb3,x.Bb4,x.Bb5,rt tP x.qb3,(↑(List.length x.qb3):Int)⟩:W0)) (⟨0,0,0,[]⟩:p4));(sl (ra1 (⟨x.U8,x.U9,x.V0⟩:V3)) (sl (!t1) (kk ⟨1,false,0,[]⟩) (sl ((cnE tP x.qb3)&&true) (sl (Nat.beq t2.1 1) (kk ⟨1,false,0,[]⟩) (sl (Nat.beq t2.1 2) (kk ⟨1,true,0,[]⟩) (sl (Nat.beq t2.1 3) (kk ⟨2,false,t2.2.ns8,t2.2.eh0⟩) (kk ⟨0,false,0,[]⟩)))) (kk ⟨0,false,0,[]⟩))) (kk ⟨0,false,0,[]⟩))
noncomputable def Kb2(x:gb6):gb7:=Ca0 (λr=>r) x
noncomputable def Ab3(x:gb6)(r:gb7):DT (b7×List b8):=(.ite (Nat.beq r.alt 1) (.ret (.tup [.v (.slice none 0 0),b r.bs1],[])) (.ite (Nat.beq r.alt 2) (.ret (.tup [.sl 0 0 r.ns0 0,b true],[⟨73,4,r.eh0,true,false,0⟩])) .fail))
theorem sd2{α β:Type}(F:α->β)(kk:gb7->α)(x:gb6):F (Ca0 kk x)=Ca0 (λr=>F (kk r)) x:=by unfold Ca0;(repeat' apply l5 (f:=F))<;>rfl
noncomputable def oc8:Sum:=Ea0 ⟨[.agg (kLq 3),sLq tP,.fn 100075 (kLq 3)],[],λa H=>(⟨cIq a 0 0,cIq a 0 1,cIq a 0 2,aLq tP a 1,cIq a 2 0,cIq a 2 1,cIq a 2 2⟩,())⟩ (λx=>Ab3 x (Kb2 x))
theorem id7:f9 prog G 74 oc8:=B5 (enc:=λx=>⟨[.agg [i x.U8,i x.U9,i x.V0],eL tP x.qb3,.fn 100075 [i x.Bb3,i x.Bb4,i x.Bb5]],[]⟩) (λa H=>by kernel_rfl) (bd b74 Vc1) λx=>Ua7 (.s .p (.s .p (.s .p (.s (.s .p (.b (.u pb0.ls))) .p)))) [pb0.pr] (by kernel_rfl) (.cons Kc5 .nil) (Qia (b:=Ca0 (λr=>(Ab3 x r).run) x) (by kernel_rfl) (sd2 (λr=>(Ab3 x r).run) (λr=>r) x).symm)
noncomputable def Vd1:List (Nat×Sum):=[(74,oc8)]
theorem Hd5:i4 prog G Vd1:=⟨id7,trivial⟩
noncomputable def Ab4(x:List Pln)(y:V3):Option (b7×List b8):=let t1:=(Kb2 ⟨y.x,y.y,y.z,rt tP x,y.x,y.y,y.z⟩);(sl ((cnE tP x)&&true) (sl (Nat.beq t1.alt 1) (some (.tup [.v (.slice none 0 0),b t1.bs1],[])) (sl (Nat.beq t1.alt 2) (some (.tup [.sl 0 0 t1.ns0 0,b true],[⟨73,4,t1.eh0,true,false,0⟩])) none)) none)
noncomputable def Sa9(x:List Pln)(y:V3):List Pln×Bool:=O9 (two (r1L tP) r1B) (Ab4 x y)
noncomputable def Ta0(x:List Pln)(y:V3):Bool:=okO (two (r1L tP) r1B) (Ab4 x y)
noncomputable def tc2:Sum:=va4 (ta7 tP) (W8 tV) (λx y=>.guard (Ta0 x y) (.ret ((two (r1L tP) r1B).enc (Sa9 x y),[])))
theorem Pc0:f9 prog G 19 tc2:=Rb0 (bd b19 Hd5) (two (r1L tP) r1B) (o:=Ab4) λx y=>q9 (by kernel_rfl)
structure gb8 where
 (U8 U9 V0:Int)
 qb3:List Pln
 (Bb3 Bb4 Bb5:Int)
noncomputable def ec4:List (Nat×Sum):=[(129,Za2),(77,ec2),(130,Tb6)]
theorem Vc2:i4 prog G ec4:=⟨Ab2,Vc0,oc7,trivial⟩
structure W4 where
 (Bb3 Bb4 Bb5:Int)
 oa1:List Pln
 r9:Int
structure p5 where
 ph:Nat
 Da2:Int
 ns8:Nat
 eh0:List (List b7)
noncomputable def Fb5(p:W4)(s:p5):St:=⟨.unk::.unk::.fn 100077 [i p.Bb3,i p.Bb4,i p.Bb5]::ra 5 (.v (.slice none 0 0)::ra 7 (eL tP p.oa1::i p.r9::i s.Da2::ra 19 [])),[]⟩
noncomputable def Fb6(p:W4)(s:p5):St:=⟨.unk::.unk::.fn 100077 [i p.Bb3,i p.Bb4,i p.Bb5]::ra 5 (.sl 0 0 s.ns8 0::ra 7 (eL tP p.oa1::i p.r9::i s.Da2::ra 19 [])),[⟨73,4,s.eh0,true,false,0⟩]⟩
noncomputable def Kc6(p:W4)(s:p5):St:=(sel (Nat.beq s.ph 1) (Fb6 p s) (Fb5 p s))
noncomputable def U6{α:Type}(k:p5->α)(e:Nat->α)(z:α)(p:W4)(s:p5):α:=let t1:=(Za4 (⟨p.Bb3,p.Bb4,p.Bb5⟩:V3) (gL tP p.oa1 s.Da2.toNat));let t2:=(xa5 (gL tP p.oa1 s.Da2.toNat) t1);(sl (decide (s.Da2<p.r9)) (sl (inB s.Da2 (List.length p.oa1)) (sl (xa6 (gL tP p.oa1 s.Da2.toNat) t1) (sl (!t2.2) (e 1) (k ⟨1,W (s.Da2+1),1,[[i t2.1.n.x,i t2.1.n.y,i t2.1.n.z,i t2.1.b]]⟩)) z) z) (e 2))
noncomputable def U7{α:Type}(k:p5->α)(e:Nat->α)(z:α)(p:W4)(s:p5):α:=let t1:=(Za4 (⟨p.Bb3,p.Bb4,p.Bb5⟩:V3) (gL tP p.oa1 s.Da2.toNat));let t2:=(xa5 (gL tP p.oa1 s.Da2.toNat) t1);(sl (decide (s.Da2<p.r9)) (sl (inB s.Da2 (List.length p.oa1)) (sl (xa6 (gL tP p.oa1 s.Da2.toNat) t1) (sl (!t2.2) (e 1) (sl (Nat.beq s.ns8 (len s.eh0)&&Nat.ble ((s.ns8+1)*32) room) (k ⟨1,W (s.Da2+1),s.ns8+1,app s.eh0 [[i t2.1.n.x,i t2.1.n.y,i t2.1.n.z,i t2.1.b]]⟩) z)) z) z) (e 3))
noncomputable def Ka0(p:W4)(s:p5):Stp p5:=(sel (Nat.beq s.ph 1) (U7 .next .exit .fail p s) (U6 .next .exit .fail p s))
noncomputable def pb1:Lo W4 p5:=⟨En ec4,0,xf2,[1,1,1,0,1,4,4],[2,8,16,17,18],.p,[⟨sUq::sUq::.fn 100077 (kLq 3)::ru2 5 (.s (.o .nil)::ru2 7 (sLq tP::sIq::sIq::ru2 19 [])),[],λa H=>(⟨cIq a 2 0,cIq a 2 1,cIq a 2 2,aLq tP a 16,aIq a 17⟩,⟨0,aIq a 18,0,[]⟩)⟩,⟨sUq::sUq::.fn 100077 (kLq 3)::ru2 5 (.s (.o (.sl 0 0 (some 0) none))::ru2 7 (sLq tP::sIq::sIq::ru2 19 [])),[⟨73,4,true,none⟩],λa H=>(⟨cIq a 2 0,cIq a 2 1,cIq a 2 2,aLq tP a 16,aIq a 17⟩,⟨1,aIq a 18,slN (slT a 8),elT H 0⟩)⟩],Ka0,[(none,λp s=>⟨[.tup [.v (.slice none 0 0),b false]],[]⟩),(some 0,λp s=>upq (Fb5 p s) [(19,b (decide (s.Da2<p.r9)))]),(some 0,λp s=>upq (Fb6 p s) [(19,b (decide (s.Da2<p.r9)))])],Kc6⟩
theorem Kc7:pb1.Ok:=Lo.ok [] (by kernel_rfl) .nil rfl (.cons (λa H=>by kernel_rfl) (.cons (λa H=>by kernel_rfl) .nil)) λp s=>(.sel (Nat.beq s.ph 1) (.of @U7 (λF _ _ _ _ _=>by unfold U7;(repeat' apply l5 (f:=F))<;>rfl) (by kernel_rfl)) (.of @U6 (λF _ _ _ _ _=>by unfold U6;(repeat' apply l5 (f:=F))<;>rfl) (by kernel_rfl)))
structure gb9 where
 alt:Nat
 bs1:Bool
 ns0:Nat
 eh0:List (List b7)
noncomputable def Ca1{α:Type}(kk:gb9->α)(x:gb8):α:=let t1:=(ra0 (⟨x.U8,x.U9,x.V0⟩:V3));let t2:=(lp (Ka0 (⟨x.Bb3,x.Bb4,x.Bb5,rt tP x.qb3,(↑(List.length x.qb3):Int)⟩:W4)) (⟨0,0,0,[]⟩:p5));(sl (ra1 (⟨x.U8,x.U9,x.V0⟩:V3)) (sl (!t1) (kk ⟨1,false,0,[]⟩) (sl ((cnE tP x.qb3)&&true) (sl (Nat.beq t2.1 1) (kk ⟨1,false,0,[]⟩) (sl (Nat.beq t2.1 2) (kk ⟨1,true,0,[]⟩) (sl (Nat.beq t2.1 3) (kk ⟨2,false,t2.2.ns8,t2.2.eh0⟩) (kk ⟨0,false,0,[]⟩)))) (kk ⟨0,false,0,[]⟩))) (kk ⟨0,false,0,[]⟩))
noncomputable def Kb3(x:gb8):gb9:=Ca1 (λr=>r) x
noncomputable def Ab5(x:gb8)(r:gb9):DT (b7×List b8):=(.ite (Nat.beq r.alt 1) (.ret (.tup [.v (.slice none 0 0),b r.bs1],[])) (.ite (Nat.beq r.alt 2) (.ret (.tup [.sl 0 0 r.ns0 0,b true],[⟨73,4,r.eh0,true,false,0⟩])) .fail))
theorem sd3{α β:Type}(F:α->β)(kk:gb9->α)(x:gb8):F (Ca1 kk x)=Ca1 (λr=>F (kk r)) x:=by unfold Ca1;(repeat' apply l5 (f:=F))<;>rfl
noncomputable def oc9:Sum:=Ea0 ⟨[.agg (kLq 3),sLq tP,.fn 100077 (kLq 3)],[],λa H=>(⟨cIq a 0 0,cIq a 0 1,cIq a 0 2,aLq tP a 1,cIq a 2 0,cIq a 2 1,cIq a 2 2⟩,())⟩ (λx=>Ab5 x (Kb3 x))
theorem id8:f9 prog G 74 oc9:=B5 (enc:=λx=>⟨[.agg [i x.U8,i x.U9,i x.V0],eL tP x.qb3,.fn 100077 [i x.Bb3,i x.Bb4,i x.Bb5]],[]⟩) (λa H=>by kernel_rfl) (bd b74 Vc2) λx=>Ua7 (.s .p (.s .p (.s .p (.s (.s .p (.b (.u pb1.ls))) .p)))) [pb1.pr] (by kernel_rfl) (.cons Kc7 .nil) (Qia (b:=Ca1 (λr=>(Ab5 x r).run) x) (by kernel_rfl) (sd3 (λr=>(Ab5 x r).run) (λr=>r) x).symm)
noncomputable def sd4:List (Nat×Sum):=[(74,oc9)]
theorem id9:i4 prog G sd4:=⟨id8,trivial⟩
noncomputable def Za5(x:List Pln)(y:V3):Option (b7×List b8):=let t1:=(Kb3 ⟨y.x,y.y,y.z,rt tP x,y.x,y.y,y.z⟩);(sl ((cnE tP x)&&true) (sl (Nat.beq t1.alt 1) (some (.tup [.v (.slice none 0 0),b t1.bs1],[])) (sl (Nat.beq t1.alt 2) (some (.tup [.sl 0 0 t1.ns0 0,b true],[⟨73,4,t1.eh0,true,false,0⟩])) none)) none)
noncomputable def Za6(x:List Pln)(y:V3):List Pln×Bool:=O9 (two (r1L tP) r1B) (Za5 x y)
noncomputable def Za7(x:List Pln)(y:V3):Bool:=okO (two (r1L tP) r1B) (Za5 x y)
noncomputable def Bc2:Sum:=va4 (ta7 tP) (W8 tV) (λx y=>.guard (Za7 x y) (.ret ((two (r1L tP) r1B).enc (Za6 x y),[])))
theorem sd5:f9 prog G 21 Bc2:=Rb0 (bd b21 id9) (two (r1L tP) r1B) (o:=Za5) λx y=>q9 (by kernel_rfl)
theorem ye3(P:Ja2)(g n:Int)(hn:n.natAbs<=9223372036854775808):lp (Na4 P) ⟨g,n⟩=(1,⟨eu g n,0⟩) :=
 ef7 (mk:=λg n=>(⟨g,n⟩:pa6)) (λg n h=>by simp[Na4,Fa2,Gb8,h]) (λg=>by simp[Na4,Fa2,Gb8]) g n hn
theorem ye4(l:List Int)(hl:l.length<=1000000000)(hb:∀x∈l,x.natAbs<=9223372036854775808):lp (Ba4 ⟨(l.length:Int)⟩) ⟨0,l,0⟩=(1,⟨l.foldl eu 0,l,l.length⟩):=by
 have := pe3 (step := Ba4 ⟨(l.length : Int)⟩) (mk := fun j a => (⟨a, l, (j : Int)⟩ : pa7)) (f := eu) (fin := 1) tI l (fun _ _ => True) hl (fun j a hj _ => ⟨by
   simp only[Ba4,Fa3,Int.toNat_natCast,l9,k9,ye3 _ _ _ (hb _ (zb2 tI hj)),o8 hj (by omega)]
   rw[bt (dc4 hj),bt (f8 hj)]
   rfl,trivial⟩) (λa _=>by simp[Ba4,Fa3,Gb8]) 0 (Nat.zero_le _) 0 trivial
 simpa using this.1
theorem Bc3:∀(l:List Int) (g:Int),(l.foldl eu g).natAbs=l.foldl (λa x=>Nat.gcd a x.natAbs) g.natAbs
 |[],_=>rfl
 |x::l,g=>by rw[List.foldl_cons,Bc3 l,List.foldl_cons,Le2];rfl
theorem yf9(l:List Int)(hl:l.length<=1000000000)(hb:∀x∈l,x.natAbs<=9223372036854775807)(h0:(l.foldl eu 0).natAbs<=9223372036854775807):wb3 l=some (i ((l.foldl eu 0).natAbs:Int),[]):=by
 unfold wb3;simp only[l9,k9,ye4 l hl (λx hx=>Nat.le_succ_of_le (hb x hx))]
 generalize l.foldl eu 0=e at *
 have:W (0-e)=-e:=by rw[N9 (by omega) (by omega)];omega
 rw[this];show some (i (if -e>e then -e else e),[])=_
 congr 3
 split<;>omega
noncomputable def rm(p:Pln)(x:Pt):Int:=W (p.b*x.pw-(p.n.x*x.px+p.n.y*x.py+p.n.z*x.pz))
theorem pe5(p:Pln)(x:Pt):Fa1 p x=rm p x:=by
 unfold Fa1 j7 rm;simp only[zb1,Tb3,Hd4,ie1]
structure Bd(p:Pln):Prop where
 x1:-4608<=p.n.x
 x2:p.n.x<=4608
 y1:-4608<=p.n.y
 y2:p.n.y<=4608
 z1:-4608<=p.n.z
 z2:p.n.z<=4608
 b1:-2097152<=p.b
 b2:p.b<=2097152
def mv(p q r:Pln):V3 :=
 ⟨(c8 q.n r.n).x*p.b+(c8 r.n p.n).x*q.b+(c8 p.n q.n).x*r.b,
  (c8 q.n r.n).y*p.b+(c8 r.n p.n).y*q.b+(c8 p.n q.n).y*r.b,
  (c8 q.n r.n).z*p.b+(c8 r.n p.n).z*q.b+(c8 p.n q.n).z*r.b⟩
def gc(v:V3)(w:Int):Int:=(Nat.gcd (Nat.gcd v.x.natAbs v.y.natAbs) (Nat.gcd v.z.natAbs w.natAbs):Nat)
def mpt(p q r:Pln):Pt×Bool :=
 if mw p q r=0 then (⟨0,0,0,0⟩,false)
 else if mw p q r<0 then (⟨Int.tdiv (-(mv p q r).x) (gc (mv p q r) (mw p q r)),Int.tdiv (-(mv p q r).y) (gc (mv p q r) (mw p q r)),Int.tdiv (-(mv p q r).z) (gc (mv p q r) (mw p q r)),Int.tdiv (-(mw p q r)) (gc (mv p q r) (mw p q r))⟩,true)
 else (⟨Int.tdiv (mv p q r).x (gc (mv p q r) (mw p q r)),Int.tdiv (mv p q r).y (gc (mv p q r) (mw p q r)),Int.tdiv (mv p q r).z (gc (mv p q r) (mw p q r)),Int.tdiv (mw p q r) (gc (mv p q r) (mw p q r))⟩,true)
def Sm(n:Int)(x:Int):Prop:=-n<=x/\x<=n
theorem ec5{a b:V3}(ha:Sm 4608 a.x/\Sm 4608 a.y/\Sm 4608 a.z)(hb:Sm 4608 b.x/\Sm 4608 b.y/\Sm 4608 b.z):Sm 42467328 (c8 a b).x/\Sm 42467328 (c8 a b).y/\Sm 42467328 (c8 a b).z:=by
 obtain⟨⟨a1,a2⟩,⟨a3,a4⟩,a5,a6⟩:=ha;obtain⟨⟨b1,b2⟩,⟨b3,b4⟩,b5,b6⟩:=hb;have h1:=mb a3 a4 b5 b6;have h2:=mb a5 a6 b3 b4;have h3:=mb a5 a6 b1 b2;have h4:=mb a1 a2 b5 b6;have h5:=mb a1 a2 b3 b4;have h6:=mb a3 a4 b1 b2;unfold Sm c8
 simp only
 omega
theorem Bd.n{p:Pln}(h:Bd p):Sm 4608 p.n.x/\Sm 4608 p.n.y/\Sm 4608 p.n.z:=⟨⟨h.x1,h.x2⟩,⟨h.y1,h.y2⟩,h.z1,h.z2⟩
theorem rf1{p q r:Pln}(hp:Bd p)(hq:Bd q)(hr:Bd r):Sm 600000000000 (mw p q r):=by
 obtain⟨⟨c1,c2⟩,⟨c3,c4⟩,c5,c6⟩:=ec5 hq.n hr.n;have h1:=mb hp.x1 hp.x2 c1 c2;have h2:=mb hp.y1 hp.y2 c3 c4;have h3:=mb hp.z1 hp.z2 c5 c6;unfold Sm mw dot;omega
theorem rf2{p q r:Pln}(hp:Bd p)(hq:Bd q)(hr:Bd r):Sm 300000000000000 (mv p q r).x/\Sm 300000000000000 (mv p q r).y/\Sm 300000000000000 (mv p q r).z:=by
 obtain⟨⟨c1,c2⟩,⟨c3,c4⟩,c5,c6⟩:=ec5 hq.n hr.n;obtain⟨⟨d1,d2⟩,⟨d3,d4⟩,d5,d6⟩:=ec5 hr.n hp.n;obtain⟨⟨e1,e2⟩,⟨e3,e4⟩,e5,e6⟩:=ec5 hp.n hq.n;have a1:=mb c1 c2 hp.b1 hp.b2;have a2:=mb c3 c4 hp.b1 hp.b2;have a3:=mb c5 c6 hp.b1 hp.b2;have b1:=mb d1 d2 hq.b1 hq.b2;have b2:=mb d3 d4 hq.b1 hq.b2;have b3:=mb d5 d6 hq.b1 hq.b2;have f1:=mb e1 e2 hr.b1 hr.b2;have f2:=mb e3 e4 hr.b1 hr.b2;have f3:=mb e5 e6 hr.b1 hr.b2;unfold Sm mv
 simp only
 omega
theorem Bc4(a b:V3):C5 a b=⟨W (c8 a b).x,W (c8 a b).y,W (c8 a b).z⟩:=by
 unfold C5 c8;simp only[Hd4,ie1]
theorem ff0(a b:V3):ib6 a b=⟨W (c8 a b).x,W (c8 a b).y,W (c8 a b).z⟩:=by
 unfold ib6 c8;simp only[Hd4,ie1]
theorem zf0(p q r:Pln):dot r.n (c8 p.n q.n)=mw p q r:=by unfold mw dot c8;grind
theorem Zf5(a b c d:Nat):[a,b,c,d].foldl Nat.gcd 0=Nat.gcd (Nat.gcd a b) (Nat.gcd c d):=by
 simp only[List.foldl_cons,List.foldl_nil,Nat.gcd_zero_left];rw[Nat.gcd_assoc]
theorem Hd6{v:V3}{w:Int}(h:w≠0):0<gc v w:=by
 unfold gc
 have:0<Nat.gcd v.z.natAbs w.natAbs:=Qie _ (by omega)
 have:=Qie (Nat.gcd v.x.natAbs v.y.natAbs) this
 omega
theorem rf3{v:V3}{w:Int}(h:w≠0):gc v w<=w.natAbs:=by
 unfold gc;have h1:Nat.gcd v.z.natAbs w.natAbs<=w.natAbs:=Nat.gcd_le_right _ (by omega)
 have h2:0<Nat.gcd v.z.natAbs w.natAbs:=Qie _ (by omega)
 have h3:=Nat.gcd_le_right (m:=Nat.gcd v.x.natAbs v.y.natAbs) (n:=Nat.gcd v.z.natAbs w.natAbs) h2;omega
theorem lb1{x:Int}(h:Sm 1000000000000000000 x):W x=x:=N9 (by have:=h.1;omega) (by have:=h.2;omega)
theorem Sm.mono{n m x:Int}(h:Sm n x)(hn:n<=m):Sm m x:=⟨by have:=h.1;omega,by have:=h.2;omega⟩
theorem Q6{n x g:Int}(h:Sm n x)(hg:0<g):Sm n (Int.tdiv x g):=by
 have h1:(Int.tdiv x g).natAbs<=x.natAbs:=by rw[Int.natAbs_tdiv];exact Nat.div_le_self _ _
 have:=h.1;have:=h.2
 constructor<;>omega
theorem ie2{p q r:Pln}(hp:Bd p)(hq:Bd q)(hr:Bd r)(h:(mpt p q r).2=true):0<(mpt p q r).1.pw/\Sm 300000000000000 (mpt p q r).1.px/\Sm 300000000000000 (mpt p q r).1.py/\Sm 300000000000000 (mpt p q r).1.pz/\(mpt p q r).1.pw<=600000000000:=by
 have hw:=rf1 hp hq hr;obtain⟨v1,v2,v3⟩:=rf2 hp hq hr;have neg:∀{n x:Int},Sm n x->Sm n (-x):=λh=>⟨by have:=h.2;omega,by have:=h.1;omega⟩
 have pos:∀{x:Int},0<x->x.natAbs=(mw p q r).natAbs->0<Int.tdiv x (gc (mv p q r) (mw p q r)):=λ{x} hx he=>by
  have h0:mw p q r≠0:=by omega
  have h1:=Hd6 (v:=mv p q r) h0;have h2:=rf3 (v:=mv p q r) h0;rw[Int.tdiv_eq_ediv_of_nonneg (by omega)]
  exact Int.ediv_pos_of_pos_of_dvd hx (by omega) (by
   rw[<- Int.dvd_natAbs,he];exact Int.natCast_dvd_natCast.2 (Nat.dvd_trans (Nat.gcd_dvd_right _ _) (Nat.gcd_dvd_right _ _)))
 unfold mpt at h ⊢;by_cases h0:mw p q r=0
 ·rw[if_pos h0] at h;cases h
 ·rw[if_neg h0];have hg:=Hd6 (v:=mv p q r) h0;by_cases h1:mw p q r<0
  ·rw[if_pos h1];exact⟨pos (by omega) (by omega),Q6 (neg v1) hg,Q6 (neg v2) hg,Q6 (neg v3) hg,(Q6 (neg hw) hg).2⟩
  ·rw[if_neg h1];exact⟨pos (by omega) rfl,Q6 v1 hg,Q6 v2 hg,Q6 v3 hg,(Q6 hw hg).2⟩
theorem pe6{p q r:Pln}(hp:Bd p)(hq:Bd q)(hr:Bd r):ib8 ⟨p,q,r⟩=some (.tup [.agg (tX.row (mpt p q r).1),b (mpt p q r).2],[]):=by
 have hw:=rf1 hp hq hr;obtain⟨v1,v2,v3⟩:=rf2 hp hq hr;have e1:j7 r.n (C5 p.n q.n)=mw p q r:=by
  rw[Bc4];unfold j7;simp only[zb1,Tb3,yf0];show W (dot r.n (c8 p.n q.n))=_;rw[zf0,lb1 (hw.mono (by omega))]
 have e2:j5 (j5 (j5 ⟨0,0,0⟩ (pa5 (C5 q.n r.n) p.b)) (pa5 (C5 r.n p.n) q.b)) (pa5 (C5 p.n q.n) r.b)=mv p q r:=by
  rw[Bc4,Bc4,Bc4];unfold j5 pa5;simp only[zb1,Tb3,Le0,Int.zero_add];show (⟨W (mv p q r).x,W (mv p q r).y,W (mv p q r).z⟩:V3)=_;rw[lb1 (v1.mono (by omega)),lb1 (v2.mono (by omega)),lb1 (v3.mono (by omega))]
 unfold ib8;simp only[e1,e2];have hb:∀x∈[(mv p q r).x,(mv p q r).y,(mv p q r).z,mw p q r],x.natAbs<=9223372036854775807:=by
  intro x hx;simp only[List.mem_cons,List.not_mem_nil,or_false] at hx;unfold Sm at *
  rcases hx with rfl|rfl|rfl|rfl<;>omega
 have hf:([(mv p q r).x,(mv p q r).y,(mv p q r).z,mw p q r].foldl eu 0).natAbs=Nat.gcd (Nat.gcd (mv p q r).x.natAbs (mv p q r).y.natAbs) (Nat.gcd (mv p q r).z.natAbs (mw p q r).natAbs):=by
  rw[Bc3,<- Zf5];rfl
 unfold mpt;by_cases h0:mw p q r=0
 ·rw[bt (by rw[h0];rfl),if_pos h0]
  rfl
 ·have hz:(mw p q r==0)=false:=by simpa using h0
  rw[bf hz,if_neg h0];have hgp:=Hd6 (v:=mv p q r) h0;have hgl:=rf3 (v:=mv p q r) h0;have hge:=yf9 _ (by simp) hb (by rw[hf];unfold gc at hgl;unfold Sm at hw;omega)
  have hgv:Rb8 [(mv p q r).x,(mv p q r).y,(mv p q r).z,mw p q r]=gc (mv p q r) (mw p q r):=by
   unfold Rb8;rw[hge,hf];rfl
  have hgg:Rb9 [(mv p q r).x,(mv p q r).y,(mv p q r).z,mw p q r]=true:=by
   unfold Rb9;rw[hge];rfl
  rw[hgv,bt hgg];generalize hG:gc (mv p q r) (mw p q r)=G at *
  have hGW:W (0-G)=-G:=by unfold Sm at hw;rw[N9 (by omega) (by omega)];omega
  have hGn:(-G==0)=false:=by simp;omega
  have hGp:(G==0)=false:=by simp;omega
  by_cases h1:mw p q r<0
  ·rw[bt (decide_eq_true h1),if_pos h1];simp only[hGW];rw[bf hGn,bf hGn,bf hGn,bf hGn];simp only[Int.tdiv_neg,<- Int.neg_tdiv];have neg:∀{n x:Int},Sm n x->Sm n (-x):=λh=>⟨by have:=h.2;omega,by have:=h.1;omega⟩
   rw[lb1 ((Q6 (neg v1) hgp).mono (by omega)),lb1 ((Q6 (neg v2) hgp).mono (by omega)),lb1 ((Q6 (neg v3) hgp).mono (by omega)),lb1 ((Q6 (neg hw) hgp).mono (by omega))]
   rfl
  ·rw[bf (decide_eq_false h1),if_neg h1,bf hGp,bf hGp,bf hGp,bf hGp];rw[lb1 ((Q6 v1 hgp).mono (by omega)),lb1 ((Q6 v2 hgp).mono (by omega)),lb1 ((Q6 v3 hgp).mono (by omega)),lb1 ((Q6 hw hgp).mono (by omega))]
   rfl
theorem zf1{p q r:Pln}(hp:Bd p)(hq:Bd q)(hr:Bd r):ib9 ⟨p,q,r⟩=mpt p q r:=by unfold ib9;rw[pe6 hp hq hr];rfl
theorem zf2{p q r:Pln}(hp:Bd p)(hq:Bd q)(hr:Bd r):jb0 ⟨p,q,r⟩=true:=by unfold jb0;rw[pe6 hp hq hr];rfl
end Go.Ev.Ce
