/- Own work. -/
import Derived.Test.YtdigbcehbdiibaaGreatDoorEvOeTr
set_option linter.all false
noncomputable section
def Qka:=@Int.mul_zero
def Qkb:=@Int.sub_self
def Qkc:=@Int.mul_nonpos_of_nonneg_of_nonpos
def Qkd:=@List.mem_append
def Qke:=@Int.mul_neg_of_pos_of_neg
def Qkf:=@Int.mul_pos_of_neg_of_neg
def Qkg:=@List.length_map
def Qkh:=@Int.mul_pos
def Qki:=@Go.Ev.L.Lo.okq
namespace Go.Ev.Ce
open Go Go.Ev Go.Ev.L Go.Proofs
set_option maxRecDepth 100000
def Ua1(x:V3)(y:Int):ROq:=(sl (decide ((if x.z>(if x.y>x.x then x.y else x.x) then x.z else (if x.y>x.x then x.y else x.x))>y)) (some (b true,[])) (some ((b (decide ((if x.z<(if x.y<x.x then x.y else x.x) then x.z else (if x.y<x.x then x.y else x.x))<(W (0-y))))),[])))
def Ua2(x:V3)(y:Int):Bool:=G5 (one r1B) (Ua1 x y)
def Ua3(x:V3)(y:Int):Bool:=okO (one r1B) (Ua1 x y)
def Rb4:Sum:=fa5 (ia6 tV) cI (λx y=>.guard (Ua3 x y) (.ret ((one r1B).enc (Ua2 x y),[])))
theorem rc9:e7 prog G 71 Rb4:=Lb0 (bd b71 Ra4) (one r1B) (o:=Ua1)
def O9(x:List V3):ROq:=(sl (decide ((↑(List.length x):Int)<4)) (some (b true,[])) (some (b (decide ((↑(List.length x):Int)>16)),[])))
def Z2(x:List V3):Bool:=G5 (one r1B) (O9 x)
def Z3(x:List V3):Bool:=okO (one r1B) (O9 x)
def Ua4:Sum:=G4 (Oa4 tV) (λx=>.guard (Z3 x) (.ret ((one r1B).enc (Z2 x),[])))
theorem Ib4:e7 prog G 67 Ua4:=Ja2 (bd b67 Ra4) (one r1B) (o:=O9)
def Rb5:List (Nat×Sum):=[(71,Rb4)]
theorem Ib5:j8 prog G Rb5:=⟨rc9,trivial⟩
def Q5(x:V3):ROq:=let t1:=(Ua2 x 12);(sl (Ua3 x 12) (some (b t1,[])) none)
def ca8(x:V3):Bool:=G5 (one r1B) (Q5 x)
def ca9(x:V3):Bool:=okO (one r1B) (Q5 x)
def ab3:Sum:=G4 (ia6 tV) (λx=>.guard (ca9 x) (.ret ((one r1B).enc (ca8 x),[])))
theorem Rb6:e7 prog G 70 ab3:=Ja2 (bd b70 Ib5) (one r1B) (o:=Q5)
def Rb7:List (Nat×Sum):=[(71,Rb4)]
theorem Ib6:j8 prog G Rb7:=⟨rc9,trivial⟩
def Q6(x:V3):ROq:=let t1:=(Ua2 x 1000);(sl (Ua3 x 1000) (some (b t1,[])) none)
def da0(x:V3):Bool:=G5 (one r1B) (Q6 x)
def da1(x:V3):Bool:=okO (one r1B) (Q6 x)
def ab4:Sum:=G4 (ia6 tV) (λx=>.guard (da1 x) (.ret ((one r1B).enc (da0 x),[])))
theorem Rb8:e7 prog G 72 ab4:=Ja2 (bd b72 Ib6) (one r1B) (o:=Q6)
def Q7(x:Int):ROq:=(sl (decide (x<1)) (some (b true,[])) (some (b (decide (x>1048576)),[])))
def da2(x:Int):Bool:=G5 (one r1B) (Q7 x)
def da3(x:Int):Bool:=okO (one r1B) (Q7 x)
def ab5:Sum:=G4 cI (λx=>.guard (da3 x) (.ret ((one r1B).enc (da2 x),[])))
theorem Rb9:e7 prog G 73 ab5:=Ja2 (bd b73 Ra4) (one r1B) (o:=Q7)
def Zb4:List (Nat×Sum):=[(56,eb2)]
theorem Sb0:j8 prog G Zb4:=⟨lb6,trivial⟩
def U1(x:List V3):ROq:=let t1:=(Ca1 (rt tV x));(sl (okE tV x) (sl (Ca2 (rt tV x)) (some (b (t1 != 0),[])) none) none)
def ga5(x:List V3):Bool:=G5 (one r1B) (U1 x)
def ga6(x:List V3):Bool:=okO (one r1B) (U1 x)
def fb3:Sum:=G4 (Oa4 tV) (λx=>.guard (ga6 x) (.ret ((one r1B).enc (ga5 x),[])))
theorem Zb5:e7 prog G 76 fb3:=Ja2 (bd b76 Sb0) (one r1B) (o:=U1)
structure ya6 where
 (pb4 pb5 pb6:Int)
 a8:List V3
def Sb1:List (Nat×Sum):=[(25,Gd2)]
theorem Ib7:j8 prog G Sb1:=⟨oe8,trivial⟩
def ya8{α:Type}(kk:Pb9->α)(x:ya6):α:=let y0:=(⟨x.pb4,x.pb5,x.pb6⟩:V3);let t1:=(ec8 (rt tV x.a8) y0);(sl (okE tV x.a8) (sl (ec9 (rt tV x.a8) y0) (kk ⟨1,!t1⟩) (kk ⟨0,false⟩)) (kk ⟨0,false⟩))
def da4(x:ya6):Pb9:=ya8 (λr=>r) x
def Ua5(x:ya6)(r:Pb9):DT (a7×List b7):=(Da1 r.alt 1 (b r.bs0,[bq 0 1 [[eL tV x.a8]]]) .fail)
def ab6:Sum:=Aa7 ⟨[.agg (kLq 3),sPq 0],[⟨0,1,true,some [[.c 3 (nL tV)]]⟩],λa H=>(⟨cIq a 0 0,cIq a 0 1,cIq a 0 2,hLq tV H 0 0 0⟩,())⟩ (λx=>Ua5 x (da4 x))
theorem Sb2:e7 prog G 77 ab6:=s8 (enc:=λx=>⟨[.agg [i x.pb4,i x.pb5,i x.pb6],.ptr 0 0 0 0],[bq 0 1 [[eL tV x.a8]]]⟩) (λa H=>by kernel_rfl) (bd b77 Ib7) λx=>ka3 (mEq @ya8 (λr=>(Ua5 x r).run) x)
def Q8(x:Tol):ROq:=let y0:=(List.range (List.length x.inn));(sl (Nat.beq 2 2&&Nat.ble ((2+(len (l6 (λk=>(tLs tV).row (gL (tLs tV) x.inn k)) y0)))*24) room) (some ((.sl 0 0 (2+(len (l6 (λk=>(tLs tV).row (gL (tLs tV) x.inn k)) y0))) 0),[(bq 25 1 (app [[eL tV x.ou],[eL tV x.ho]] (l6 (λk=>(tLs tV).row (gL (tLs tV) x.inn k)) y0)))])) none)
def aa8(x:Tol):List (List V3):=G5 (one (r1L (tLs tV))) (Q8 x)
def aa9(x:Tol):Bool:=okO (one (r1L (tLs tV))) (Q8 x)
def sa6:Sum:=G4 cT (λx=>.guard (aa9 x) (.ret ((one (r1L (tLs tV))).enc (aa8 x),[])))
theorem Ha0:e7 prog G 69 sa6:=Ja2 (bd b69 Ra4) (one (r1L (tLs tV))) (o:=Q8)
def kc8:List (Nat×Sum):=[(66,Eb4)]
theorem fc0:j8 prog G kc8:=⟨od4,trivial⟩
def ba0(x:Tol):ROq:=(sl (decide ((↑(ByteArray.size x.nm):Int)>0)) (sl (decide ((↑(ByteArray.size x.nm):Int)<=12)) (sl (pe0 x.nm ⟨#[97,98,99,100,101,102,103,104,105,106,107,108,109,110,111,112,113,114,115,116,117,118,119,120,121,122,48,49,50,51,52,53,54,55,56,57]⟩) (some ((b (ByteArray.toList (He3 x.nm ⟨#[97,98,99,100,101,102,103,104,105,106,107,108,109,110,111,112,113,114,115,116,117,118,119,120,121,122,48,49,50,51,52,53,54,55,56,57]⟩)==ByteArray.toList ⟨#[]⟩)),[])) none) (some (b false,[]))) (some (b false,[])))
def ba1(x:Tol):Bool:=G5 (one r1B) (ba0 x)
def sa7(x:Tol):Bool:=okO (one r1B) (ba0 x)
def ob7:Sum:=G4 cT (λx=>.guard (sa7 x) (.ret ((one r1B).enc (ba1 x),[])))
theorem kc9:e7 prog G 34 ob7:=Ja2 (bd b34 fc0) (one r1B) (o:=ba0)
structure ta8 where
 fa3:List (List V3)
def Qa6:List (Nat×Sum):=[(67,Ua4)]
theorem Eb5:j8 prog G Qa6:=⟨Ib4,trivial⟩
structure K7 where
 fa3:List (List V3)
 is7:Int
def Ha8(p:K7)(s:fa7):St:=⟨eL (tLs tV) p.fa3::.fn 67 []::ra 5 (i p.is7::i s.is8::ra 10 []),[]⟩
def P5{α:Type}(k:fa7->α)(e:Nat->α)(z:α)(p:K7)(s:fa7):α:=let y0:=(gL (tLs tV) p.fa3 s.is8.toNat);let t1:=(Z2 (rt tV y0));(sl (decide (s.is8<p.is7)) (sl (inB s.is8 (List.length p.fa3)) (sl (okE tV y0) (sl (Z3 (rt tV y0)) (sl t1 (e 1) (k ⟨W (s.is8+1)⟩)) z) z) z) (e 2))
def J3(p:K7)(s:fa7):Stp fa7:=P5 .next .exit .fail p s
def la8:Lo K7 fa7:=⟨En Qa6,0,Ze7,[1,0,1,4,4],[0,1,7,8],.p,[⟨.s (.c 1 (nL (tLs tV)))::.s (.o (.fn 67))::ru2 5 (sIq::sIq::ru2 10 []),[],λa H=>(⟨aLq (tLs tV) a 0,aIq a 7⟩,⟨aIq a 8⟩)⟩],J3,[(none,λp s=>⟨[i s.is8],[]⟩),(some 0,λp s=>upq (Ha8 p s) [(9,b (decide (s.is8<p.is7)))])],Ha8⟩
theorem yb0:la8.Ok:=Qki [] .nil λp s=>(.ofq @P5)
def ua0{α:Type}(kk:wa7->α)(x:ta8):α:=let t1:=(lp (J3 (⟨rt (tLs tV) x.fa3,(↑(List.length x.fa3):Int)⟩:K7)) (⟨0⟩:fa7));(sl ((cnE (tLs tV) x.fa3)&&true) (sl (Nat.beq t1.1 1) (kk ⟨1,t1.2.is8⟩) (sl (Nat.beq t1.1 2) (kk ⟨1,-1⟩) (kk ⟨0,0⟩))) (kk ⟨0,0⟩))
def Z4(x:ta8):wa7:=ua0 (λr=>r) x
def Qa7(x:ta8)(r:wa7):DT (a7×List b7):=(Da1 r.alt 1 (i r.is0,[]) .fail)
def Ua6:Sum:=Aa7 ⟨[.s (.c 1 (nL (tLs tV))),.s (.o (.fn 67))],[],λa H=>(⟨aLq (tLs tV) a 0⟩,())⟩ (λx=>Qa7 x (Z4 x))
theorem Ib8:e7 prog G 108 Ua6:=s8 (enc:=λx=>⟨[eL (tLs tV) x.fa3,.fn 67 []],[]⟩) (λa H=>by kernel_rfl) (bd Of6 Eb5) λx=>O4 (.s .p (.s (.s .p (.b (.u la8.ls))) .p)) [la8.pr] (.cons yb0 .nil) (mEq @ua0 (λr=>(Qa7 x r).run) x)
def tb4:List (Nat×Sum):=[(108,Ua6)]
theorem ob8:j8 prog G tb4:=⟨Ib8,trivial⟩
def ga9{α:Type}(kk:Pb9->α)(x:ta8):α:=let t1:=(Z4 ⟨rt (tLs tV) x.fa3⟩);(sl ((cnE (tLs tV) x.fa3)&&true) (sl (Nat.beq t1.alt 1) (kk ⟨1,decide (t1.is0>=0)⟩) (kk ⟨0,false⟩)) (kk ⟨0,false⟩))
def R8(x:ta8):Pb9:=ga9 (λr=>r) x
def Ea7(x:ta8)(r:Pb9):DT (a7×List b7):=(Da1 r.alt 1 (b r.bs0,[]) .fail)
def Ha9:Sum:=Aa7 ⟨[.s (.c 1 (nL (tLs tV))),.s (.o (.fn 67))],[],λa H=>(⟨aLq (tLs tV) a 0⟩,())⟩ (λx=>Ea7 x (R8 x))
theorem tb5:e7 prog G 68 Ha9:=s8 (enc:=λx=>⟨[eL (tLs tV) x.fa3,.fn 67 []],[]⟩) (λa H=>by kernel_rfl) (bd b68 ob8) λx=>ka3 (mEq @ga9 (λr=>(Ea7 x r).run) x)
def Zb6:List (Nat×Sum):=[(69,sa6),(68,Ha9)]
theorem Sb3:j8 prog G Zb6:=⟨Ha0,tb5,trivial⟩
def U2(x:Tol):ROq:=let y1:=(↑(List.length x.inn):Int);let y0:=(⟨x.nm,rt tV x.ou,rt (tLs tV) x.inn,rt tV x.ho,rt tI x.li,x.ru,rt tV x.fo⟩:Tol);let t1:=(aa8 y0);let t2:=(R8 ⟨rt (tLs tV) t1⟩);(sl (decide (y1>0)) (sl (decide (y1<=3)) (sl ((↑(List.length x.li):Int)==y1) (sl (decide ((↑(List.length x.fo):Int)>0)) (sl (decide ((↑(List.length x.fo):Int)<=4)) (sl ((okE tV x.ou)&&((okE (tLs tV) x.inn)&&((okE tV x.ho)&&((okE tI x.li)&&((okE tV x.fo)&&true))))) (sl (aa9 y0) (sl ((cnE (tLs tV) t1)&&true) (sl (Nat.beq t2.alt 1) (some (b (!t2.bs0),[])) none) none) none) none) (some (b false,[]))) (some (b false,[]))) (some (b false,[]))) (some (b false,[]))) (some (b false,[])))
def U3(x:Tol):Bool:=G5 (one r1B) (U2 x)
def ha0(x:Tol):Bool:=okO (one r1B) (U2 x)
def fb4:Sum:=G4 cT (λx=>.guard (ha0 x) (.ret ((one r1B).enc (U3 x),[])))
theorem Zb7:e7 prog G 35 fb4:=Ja2 (bd b35 Sb3) (one r1B) (o:=U2)
def Ua7:List (Nat×Sum):=[(70,ab3)]
theorem Ib9:j8 prog G Ua7:=⟨Rb6,trivial⟩
def Ma3(p:M3)(s:fa7):St:=⟨eL tV p.d6::.fn 70 []::ra 5 (i p.is7::i s.is8::ra 10 []),[]⟩
def R9{α:Type}(k:fa7->α)(e:Nat->α)(z:α)(p:M3)(s:fa7):α:=let t1:=(ca8 (gL tV p.d6 s.is8.toNat));(sl (decide (s.is8<p.is7)) (sl (inB s.is8 (List.length p.d6)) (sl (ca9 (gL tV p.d6 s.is8.toNat)) (sl t1 (e 1) (k ⟨W (s.is8+1)⟩)) z) z) (e 2))
def K8(p:M3)(s:fa7):Stp fa7:=R9 .next .exit .fail p s
def pa2:Lo M3 fa7:=⟨En Ua7,0,gd7,[1,0,1,4,4],[0,1,7,8],.p,[⟨sLq tV::.s (.o (.fn 70))::ru2 5 (sIq::sIq::ru2 10 []),[],λa H=>(⟨aLq tV a 0,aIq a 7⟩,⟨aIq a 8⟩)⟩],K8,[(none,λp s=>⟨[i s.is8],[]⟩),(some 0,λp s=>upq (Ma3 p s) [(9,b (decide (s.is8<p.is7)))])],Ma3⟩
theorem Eb6:pa2.Ok:=Qki [] .nil λp s=>(.ofq @R9)
def za1{α:Type}(kk:wa7->α)(x:Sa3):α:=let t1:=(lp (K8 (⟨rt tV x.d6,(↑(List.length x.d6):Int)⟩:M3)) (⟨0⟩:fa7));(sl ((cnE tV x.d6)&&true) (sl (Nat.beq t1.1 1) (kk ⟨1,t1.2.is8⟩) (sl (Nat.beq t1.1 2) (kk ⟨1,-1⟩) (kk ⟨0,0⟩))) (kk ⟨0,0⟩))
def da5(x:Sa3):wa7:=za1 (λr=>r) x
def Ua8(x:Sa3)(r:wa7):DT (a7×List b7):=(Da1 r.alt 1 (i r.is0,[]) .fail)
def ab7:Sum:=Aa7 ⟨[sLq tV,.s (.o (.fn 70))],[],λa H=>(⟨aLq tV a 0⟩,())⟩ (λx=>Ua8 x (da5 x))
theorem Sb4:e7 prog G 109 ab7:=s8 (enc:=λx=>⟨[eL tV x.d6,.fn 70 []],[]⟩) (λa H=>by kernel_rfl) (bd xe9 Ib9) λx=>O4 (.s .p (.s (.s .p (.b (.u pa2.ls))) .p)) [pa2.pr] (.cons Eb6 .nil) (mEq @za1 (λr=>(Ua8 x r).run) x)
def yb1:List (Nat×Sum):=[(109,ab7)]
theorem tb6:j8 prog G yb1:=⟨Sb4,trivial⟩
def ma1{α:Type}(kk:Pb9->α)(x:Sa3):α:=let t1:=(da5 ⟨rt tV x.d6⟩);(sl ((cnE tV x.d6)&&true) (sl (Nat.beq t1.alt 1) (kk ⟨1,decide (t1.is0>=0)⟩) (kk ⟨0,false⟩)) (kk ⟨0,false⟩))
def U4(x:Sa3):Pb9:=ma1 (λr=>r) x
def Ia0(x:Sa3)(r:Pb9):DT (a7×List b7):=(Da1 r.alt 1 (b r.bs0,[]) .fail)
def Ma4:Sum:=Aa7 ⟨[sLq tV,.s (.o (.fn 70))],[],λa H=>(⟨aLq tV a 0⟩,())⟩ (λx=>Ia0 x (U4 x))
theorem yb2:e7 prog G 74 Ma4:=s8 (enc:=λx=>⟨[eL tV x.d6,.fn 70 []],[]⟩) (λa H=>by kernel_rfl) (bd b74 tb6) λx=>ka3 (mEq @ma1 (λr=>(Ia0 x r).run) x)
def Ua9:List (Nat×Sum):=[(72,ab4)]
theorem Jb0:j8 prog G Ua9:=⟨Rb8,trivial⟩
def Ma5(p:M3)(s:fa7):St:=⟨eL tV p.d6::.fn 72 []::ra 5 (i p.is7::i s.is8::ra 10 []),[]⟩
def S1{α:Type}(k:fa7->α)(e:Nat->α)(z:α)(p:M3)(s:fa7):α:=let t1:=(da0 (gL tV p.d6 s.is8.toNat));(sl (decide (s.is8<p.is7)) (sl (inB s.is8 (List.length p.d6)) (sl (da1 (gL tV p.d6 s.is8.toNat)) (sl t1 (e 1) (k ⟨W (s.is8+1)⟩)) z) z) (e 2))
def K9(p:M3)(s:fa7):Stp fa7:=S1 .next .exit .fail p s
def pa3:Lo M3 fa7:=⟨En Ua9,0,gd7,[1,0,1,4,4],[0,1,7,8],.p,[⟨sLq tV::.s (.o (.fn 72))::ru2 5 (sIq::sIq::ru2 10 []),[],λa H=>(⟨aLq tV a 0,aIq a 7⟩,⟨aIq a 8⟩)⟩],K9,[(none,λp s=>⟨[i s.is8],[]⟩),(some 0,λp s=>upq (Ma5 p s) [(9,b (decide (s.is8<p.is7)))])],Ma5⟩
theorem Eb7:pa3.Ok:=Qki [] .nil λp s=>(.ofq @S1)
def za4{α:Type}(kk:wa7->α)(x:Sa3):α:=let t1:=(lp (K9 (⟨rt tV x.d6,(↑(List.length x.d6):Int)⟩:M3)) (⟨0⟩:fa7));(sl ((cnE tV x.d6)&&true) (sl (Nat.beq t1.1 1) (kk ⟨1,t1.2.is8⟩) (sl (Nat.beq t1.1 2) (kk ⟨1,-1⟩) (kk ⟨0,0⟩))) (kk ⟨0,0⟩))
def da6(x:Sa3):wa7:=za4 (λr=>r) x
def Va0(x:Sa3)(r:wa7):DT (a7×List b7):=(Da1 r.alt 1 (i r.is0,[]) .fail)
def ab8:Sum:=Aa7 ⟨[sLq tV,.s (.o (.fn 72))],[],λa H=>(⟨aLq tV a 0⟩,())⟩ (λx=>Va0 x (da6 x))
theorem Sb5:e7 prog G 109 ab8:=s8 (enc:=λx=>⟨[eL tV x.d6,.fn 72 []],[]⟩) (λa H=>by kernel_rfl) (bd xe9 Jb0) λx=>O4 (.s .p (.s (.s .p (.b (.u pa3.ls))) .p)) [pa3.pr] (.cons Eb7 .nil) (mEq @za4 (λr=>(Va0 x r).run) x)
def yb3:List (Nat×Sum):=[(109,ab8)]
theorem tb7:j8 prog G yb3:=⟨Sb5,trivial⟩
def ma4{α:Type}(kk:Pb9->α)(x:Sa3):α:=let t1:=(da6 ⟨rt tV x.d6⟩);(sl ((cnE tV x.d6)&&true) (sl (Nat.beq t1.alt 1) (kk ⟨1,decide (t1.is0>=0)⟩) (kk ⟨0,false⟩)) (kk ⟨0,false⟩))
def U5(x:Sa3):Pb9:=ma4 (λr=>r) x
def Ia1(x:Sa3)(r:Pb9):DT (a7×List b7):=(Da1 r.alt 1 (b r.bs0,[]) .fail)
def Ma6:Sum:=Aa7 ⟨[sLq tV,.s (.o (.fn 72))],[],λa H=>(⟨aLq tV a 0⟩,())⟩ (λx=>Ia1 x (U5 x))
theorem yb4:e7 prog G 74 Ma6:=s8 (enc:=λx=>⟨[eL tV x.d6,.fn 72 []],[]⟩) (λa H=>by kernel_rfl) (bd b74 tb7) λx=>ka3 (mEq @ma4 (λr=>(Ia1 x r).run) x)
def Ma7:Sum:=Ue4 (λl=>match l with | [_,.fn n _]=>Nat.beq n 70 | _=>false) Ma4 Ma6
theorem yb5:e7 prog G 74 Ma7:=Xd8 yb2 yb4
structure za5 where
 Na8:List Int
def Va1:List (Nat×Sum):=[(73,ab5)]
theorem Jb1:j8 prog G Va1:=⟨Rb9,trivial⟩
structure M8 where
 Na8:List Int
 is7:Int
def Ma8(p:M8)(s:fa7):St:=⟨eL tI p.Na8::.fn 73 []::ra 5 (i p.is7::i s.is8::ra 10 []),[]⟩
def S3{α:Type}(k:fa7->α)(e:Nat->α)(z:α)(p:M8)(s:fa7):α:=let t1:=(da2 (gL tI p.Na8 s.is8.toNat));(sl (decide (s.is8<p.is7)) (sl (inB s.is8 (List.length p.Na8)) (sl (da3 (gL tI p.Na8 s.is8.toNat)) (sl t1 (e 1) (k ⟨W (s.is8+1)⟩)) z) z) (e 2))
def L0(p:M8)(s:fa7):Stp fa7:=S3 .next .exit .fail p s
def pa4:Lo M8 fa7:=⟨En Va1,0,Cf7,[1,0,1,4,4],[0,1,7,8],.p,[⟨sLq tI::.s (.o (.fn 73))::ru2 5 (sIq::sIq::ru2 10 []),[],λa H=>(⟨aLq tI a 0,aIq a 7⟩,⟨aIq a 8⟩)⟩],L0,[(none,λp s=>⟨[i s.is8],[]⟩),(some 0,λp s=>upq (Ma8 p s) [(9,b (decide (s.is8<p.is7)))])],Ma8⟩
theorem Eb8:pa4.Ok:=Qki [] .nil λp s=>(.ofq @S3)
def za7{α:Type}(kk:wa7->α)(x:za5):α:=let t1:=(lp (L0 (⟨rt tI x.Na8,(↑(List.length x.Na8):Int)⟩:M8)) (⟨0⟩:fa7));(sl ((cnE tI x.Na8)&&true) (sl (Nat.beq t1.1 1) (kk ⟨1,t1.2.is8⟩) (sl (Nat.beq t1.1 2) (kk ⟨1,-1⟩) (kk ⟨0,0⟩))) (kk ⟨0,0⟩))
def da7(x:za5):wa7:=za7 (λr=>r) x
def Va2(x:za5)(r:wa7):DT (a7×List b7):=(Da1 r.alt 1 (i r.is0,[]) .fail)
def ab9:Sum:=Aa7 ⟨[sLq tI,.s (.o (.fn 73))],[],λa H=>(⟨aLq tI a 0⟩,())⟩ (λx=>Va2 x (da7 x))
theorem Sb6:e7 prog G 45 ab9:=s8 (enc:=λx=>⟨[eL tI x.Na8,.fn 73 []],[]⟩) (λa H=>by kernel_rfl) (bd b45 Jb1) λx=>O4 (.s .p (.s (.s .p (.b (.u pa4.ls))) .p)) [pa4.pr] (.cons Eb8 .nil) (mEq @za7 (λr=>(Va2 x r).run) x)
def yb6:List (Nat×Sum):=[(45,ab9)]
theorem tb8:j8 prog G yb6:=⟨Sb6,trivial⟩
def ma7{α:Type}(kk:Pb9->α)(x:za5):α:=let t1:=(da7 ⟨rt tI x.Na8⟩);(sl ((cnE tI x.Na8)&&true) (sl (Nat.beq t1.alt 1) (kk ⟨1,decide (t1.is0>=0)⟩) (kk ⟨0,false⟩)) (kk ⟨0,false⟩))
def U6(x:za5):Pb9:=ma7 (λr=>r) x
def Ia2(x:za5)(r:Pb9):DT (a7×List b7):=(Da1 r.alt 1 (b r.bs0,[]) .fail)
def Ma9:Sum:=Aa7 ⟨[sLq tI,.s (.o (.fn 73))],[],λa H=>(⟨aLq tI a 0⟩,())⟩ (λx=>Ia2 x (U6 x))
theorem yb7:e7 prog G 75 Ma9:=s8 (enc:=λx=>⟨[eL tI x.Na8,.fn 73 []],[]⟩) (λa H=>by kernel_rfl) (bd b75 tb8) λx=>ka3 (mEq @ma7 (λr=>(Ia2 x r).run) x)
def fb5:List (Nat×Sum):=[(69,sa6),(74,Ma7),(75,Ma9)]
theorem Zb8:j8 prog G fb5:=⟨Ha0,yb5,yb7,trivial⟩
structure E3 where
 de7:List (List V3)
 m9:Int
 mb5:ByteArray
 Ga1:List V3
 N4:List (List V3)
 Ga2:List V3
 J7:List Int
 mb6:Int
 Ga3:List V3
structure C0 where
 bc1:Int
def Va3(p:E3)(s:C0):St:=⟨.unk::.ptr 0 0 0 0::.unk::.fn 70 []::.fn 72 []::.fn 73 []::ra 3 (eL (tLs tV) p.de7::i p.m9::i s.bc1::ra 33 []),[bq 0 7 [[.v (.string p.mb5),eL tV p.Ga1,eL (tLs tV) p.N4,eL tV p.Ga2,eL tI p.J7,i p.mb6,eL tV p.Ga3]]]⟩
def X2{α:Type}(k:C0->α)(e:Nat->α)(z:α)(p:E3)(s:C0):α:=let y0:=(gL (tLs tV) p.de7 s.bc1.toNat);let t1:=(U4 ⟨rt tV y0⟩);(sl (decide (s.bc1<p.m9)) (sl (inB s.bc1 (List.length p.de7)) (sl ((cnE tV y0)&&true) (sl (Nat.beq t1.alt 1) (sl t1.bs0 (e 1) (k ⟨W (s.bc1+1)⟩)) z) z) z) (e 2))
def G8(p:E3)(s:C0):Stp C0:=X2 .next .exit .fail p s
def za8:Lo E3 C0:=⟨En fb5,0,Lf8,[1,1,1,1,0,1,4,4],[1,3,4,5,9,10,11],.p,[⟨sUq::sPq 0::sUq::.s (.o (.fn 70))::.s (.o (.fn 72))::.s (.o (.fn 73))::ru2 3 (.s (.c 1 (nL (tLs tV)))::sIq::sIq::ru2 33 []),[⟨0,7,true,some [[.o .val,.c 3 (nL tV),.c 1 (nL (tLs tV)),.c 3 (nL tV),.c 1 (nL tI),.o (.int .i64),.c 3 (nL tV)]]⟩],λa H=>(⟨aLq (tLs tV) a 9,aIq a 10,Z9 (slT (rwT (elT H 0) 0) 0),hLq tV H 0 0 1,hLq (tLs tV) H 0 0 2,hLq tV H 0 0 3,hLq tI H 0 0 4,hIq H 0 0 5,hLq tV H 0 0 6⟩,⟨aIq a 11⟩)⟩],G8,[(none,λp s=>⟨[b false],[]⟩),(some 0,λp s=>upq (Va3 p s) [(12,b (decide (s.bc1<p.m9)))])],Va3⟩
theorem Sb7:za8.Ok:=Qki [] .nil λp s=>(.ofq @X2)
def X5(x:Tol):ROq:=let y0:=(⟨x.nm,rt tV x.ou,rt (tLs tV) x.inn,rt tV x.ho,rt tI x.li,x.ru,rt tV x.fo⟩:Tol);let t1:=(aa8 y0);let t2:=(lp (G8 (⟨rt (tLs tV) t1,(↑(List.length t1):Int),x.nm,rt tV x.ou,rt (tLs tV) x.inn,rt tV x.ho,rt tI x.li,x.ru,rt tV x.fo⟩:E3)) (⟨0⟩:C0));let t3:=(U6 ⟨rt tI (rt tI x.li)⟩);let t4:=(U5 ⟨rt tV (rt tV x.fo)⟩);(sl ((okE tV x.ou)&&((okE (tLs tV) x.inn)&&((okE tV x.ho)&&((okE tI x.li)&&((okE tV x.fo)&&true))))) (sl (aa9 y0) (sl ((cnE (tLs tV) t1)&&((cnE tV x.ou)&&((cnE (tLs tV) x.inn)&&((cnE tV x.ho)&&((cnE tI x.li)&&((cnE tV x.fo)&&true)))))) (sl (Nat.beq t2.1 1) (some (b false,[])) (sl (Nat.beq t2.1 2) (sl ((cnE tI (rt tI x.li))&&true) (sl (Nat.beq t3.alt 1) (sl (!t3.bs0) (sl (decide (x.ru>=0)) (sl (decide (x.ru<=2)) (sl ((cnE tV (rt tV x.fo))&&true) (sl (Nat.beq t4.alt 1) (some (b (!t4.bs0),[])) none) none) (some (b false,[]))) (some (b false,[]))) (some (b false,[]))) none) none) none)) none) none) none)
def X6(x:Tol):Bool:=G5 (one r1B) (X5 x)
def na9(x:Tol):Bool:=okO (one r1B) (X5 x)
def hb8:Sum:=G4 cT (λx=>.guard (na9 x) (.ret ((one r1B).enc (X6 x),[])))
theorem fc1:e7 prog G 36 hb8:=kc5 (bd b36 Zb8) (one r1B) (o:=X5) λx=>O4 (.s .p (.s .p (.s .p (.s .p (.s (.s .p (.b (.u za8.ls))) .p))))) [za8.pr] (.cons Sb7 .nil)
def Qa8:List (Nat×Sum):=[(76,fb3)]
theorem Eb9:j8 prog G Qa8:=⟨Zb5,trivial⟩
def Ia3(p:K7)(s:fa7):St:=⟨eL (tLs tV) p.fa3::.fn 76 []::ra 5 (i p.is7::i s.is8::ra 10 []),[]⟩
def P6{α:Type}(k:fa7->α)(e:Nat->α)(z:α)(p:K7)(s:fa7):α:=let y0:=(gL (tLs tV) p.fa3 s.is8.toNat);let t1:=(ga5 (rt tV y0));(sl (decide (s.is8<p.is7)) (sl (inB s.is8 (List.length p.fa3)) (sl (okE tV y0) (sl (ga6 (rt tV y0)) (sl t1 (e 1) (k ⟨W (s.is8+1)⟩)) z) z) z) (e 2))
def J4(p:K7)(s:fa7):Stp fa7:=P6 .next .exit .fail p s
def ma8:Lo K7 fa7:=⟨En Qa8,0,Ze7,[1,0,1,4,4],[0,1,7,8],.p,[⟨.s (.c 1 (nL (tLs tV)))::.s (.o (.fn 76))::ru2 5 (sIq::sIq::ru2 10 []),[],λa H=>(⟨aLq (tLs tV) a 0,aIq a 7⟩,⟨aIq a 8⟩)⟩],J4,[(none,λp s=>⟨[i s.is8],[]⟩),(some 0,λp s=>upq (Ia3 p s) [(9,b (decide (s.is8<p.is7)))])],Ia3⟩
theorem yb8:ma8.Ok:=Qki [] .nil λp s=>(.ofq @P6)
def ua3{α:Type}(kk:wa7->α)(x:ta8):α:=let t1:=(lp (J4 (⟨rt (tLs tV) x.fa3,(↑(List.length x.fa3):Int)⟩:K7)) (⟨0⟩:fa7));(sl ((cnE (tLs tV) x.fa3)&&true) (sl (Nat.beq t1.1 1) (kk ⟨1,t1.2.is8⟩) (sl (Nat.beq t1.1 2) (kk ⟨1,-1⟩) (kk ⟨0,0⟩))) (kk ⟨0,0⟩))
def Z5(x:ta8):wa7:=ua3 (λr=>r) x
def Qa9(x:ta8)(r:wa7):DT (a7×List b7):=(Da1 r.alt 1 (i r.is0,[]) .fail)
def Va4:Sum:=Aa7 ⟨[.s (.c 1 (nL (tLs tV))),.s (.o (.fn 76))],[],λa H=>(⟨aLq (tLs tV) a 0⟩,())⟩ (λx=>Qa9 x (Z5 x))
theorem Jb2:e7 prog G 108 Va4:=s8 (enc:=λx=>⟨[eL (tLs tV) x.fa3,.fn 76 []],[]⟩) (λa H=>by kernel_rfl) (bd Of6 Eb9) λx=>O4 (.s .p (.s (.s .p (.b (.u ma8.ls))) .p)) [ma8.pr] (.cons yb8 .nil) (mEq @ua3 (λr=>(Qa9 x r).run) x)
def tb9:List (Nat×Sum):=[(108,Va4)]
theorem ob9:j8 prog G tb9:=⟨Jb2,trivial⟩
def ha3{α:Type}(kk:Pb9->α)(x:ta8):α:=let t1:=(Z5 ⟨rt (tLs tV) x.fa3⟩);(sl ((cnE (tLs tV) x.fa3)&&true) (sl (Nat.beq t1.alt 1) (kk ⟨1,decide (t1.is0>=0)⟩) (kk ⟨0,false⟩)) (kk ⟨0,false⟩))
def S4(x:ta8):Pb9:=ha3 (λr=>r) x
def Ea8(x:ta8)(r:Pb9):DT (a7×List b7):=(Da1 r.alt 1 (b r.bs0,[]) .fail)
def Ia4:Sum:=Aa7 ⟨[.s (.c 1 (nL (tLs tV))),.s (.o (.fn 76))],[],λa H=>(⟨aLq (tLs tV) a 0⟩,())⟩ (λx=>Ea8 x (S4 x))
theorem ub0:e7 prog G 68 Ia4:=s8 (enc:=λx=>⟨[eL (tLs tV) x.fa3,.fn 76 []],[]⟩) (λa H=>by kernel_rfl) (bd b68 ob9) λx=>ka3 (mEq @ha3 (λr=>(Ea8 x r).run) x)
def lc0:List (Nat×Sum):=[(69,sa6),(68,Ia4)]
theorem fc2:j8 prog G lc0:=⟨Ha0,ub0,trivial⟩
def ba2(x:Tol):ROq:=let y0:=(⟨x.nm,rt tV x.ou,rt (tLs tV) x.inn,rt tV x.ho,rt tI x.li,x.ru,rt tV x.fo⟩:Tol);let t1:=(aa8 y0);let t2:=(S4 ⟨rt (tLs tV) t1⟩);(sl ((okE tV x.ou)&&((okE (tLs tV) x.inn)&&((okE tV x.ho)&&((okE tI x.li)&&((okE tV x.fo)&&true))))) (sl (aa9 y0) (sl ((cnE (tLs tV) t1)&&true) (sl (Nat.beq t2.alt 1) (some (b (!t2.bs0),[])) none) none) none) none)
def ba3(x:Tol):Bool:=G5 (one r1B) (ba2 x)
def sa8(x:Tol):Bool:=okO (one r1B) (ba2 x)
def pb0:Sum:=G4 cT (λx=>.guard (sa8 x) (.ret ((one r1B).enc (ba3 x),[])))
theorem lc1:e7 prog G 37 pb0:=Ja2 (bd b37 fc2) (one r1B) (o:=ba2)
structure P0 where
 is8:Int
 mb5:ByteArray
 Ga1:List V3
 N4:List (List V3)
 Ga2:List V3
 J7:List Int
 mb6:Int
 Ga3:List V3
def Ra0(p:P0)(s:L9):St:=⟨.unk::.ptr 0 0 0 0::ra 6 (i p.is8::i s.is9::ra 17 []),[bq 0 7 [[.v (.string p.mb5),eL tV p.Ga1,eL (tLs tV) p.N4,eL tV p.Ga2,eL tI p.J7,i p.mb6,eL tV p.Ga3]]]⟩
def U7{α:Type}(k:L9->α)(e:Nat->α)(z:α)(p:P0)(s:L9):α:=(sl (decide (s.is9<p.is8)) (sl (inB s.is9 (List.length p.J7)) (sl (inB (W (s.is9+1)) (List.length p.J7)) (sl (decide ((gL tI p.J7 s.is9.toNat)>=(gL tI p.J7 (W (s.is9+1)).toNat))) (e 1) (k ⟨W (s.is9+1)⟩)) z) z) (e 2))
def F4(p:P0)(s:L9):Stp L9:=U7 .next .exit .fail p s
def ua4:Lo P0 L9:=⟨En tbN,0,Lf9,[1,0,1,4,4],[1,8,9],.p,[⟨sUq::sPq 0::ru2 6 (sIq::sIq::ru2 17 []),[⟨0,7,true,some [[.o .val,.c 3 (nL tV),.c 1 (nL (tLs tV)),.c 3 (nL tV),.c 1 (nL tI),.o (.int .i64),.c 3 (nL tV)]]⟩],λa H=>(⟨aIq a 8,Z9 (slT (rwT (elT H 0) 0) 0),hLq tV H 0 0 1,hLq (tLs tV) H 0 0 2,hLq tV H 0 0 3,hLq tI H 0 0 4,hIq H 0 0 5,hLq tV H 0 0 6⟩,⟨aIq a 9⟩)⟩],F4,[(none,λp s=>⟨[b false],[]⟩),(some 0,λp s=>upq (Ra0 p s) [(10,b (decide (s.is9<p.is8)))])],Ra0⟩
theorem Jb3:ua4.Ok:=Qki [] .nil λp s=>(.ofq @U7)
def U8(x:Tol):ROq:=let t1:=(lp (F4 (⟨(↑((List.length x.li)-1):Int),x.nm,rt tV x.ou,rt (tLs tV) x.inn,rt tV x.ho,rt tI x.li,x.ru,rt tV x.fo⟩:P0)) (⟨0⟩:L9));(sl (inB 1 ((List.length x.li)+1)) (sl ((cnE tV x.ou)&&((cnE (tLs tV) x.inn)&&((cnE tV x.ho)&&((cnE tI x.li)&&((cnE tV x.fo)&&true))))) (sl (Nat.beq t1.1 1) (some (b false,[])) (sl (Nat.beq t1.1 2) (some (b true,[])) none)) none) none)
def U9(x:Tol):Bool:=G5 (one r1B) (U8 x)
def ha4(x:Tol):Bool:=okO (one r1B) (U8 x)
def fb6:Sum:=G4 cT (λx=>.guard (ha4 x) (.ret ((one r1B).enc (U9 x),[])))
theorem Zb9:e7 prog G 38 fb6:=kc5 (bd b38 Ra4) (one r1B) (o:=U8) λx=>O4 (.s .p (.s (.s .p (.b (.u ua4.ls))) .p)) [ua4.pr] (.cons Jb3 .nil)
structure za9 where
 (d6 a8:List V3)
def Va5:List (Nat×Sum):=[(77,ab6)]
theorem Jb4:j8 prog G Va5:=⟨Sb2,trivial⟩
structure s6 where
 is8:Int
 a8:List V3
def Na0(p:M3)(s:s6):St:=⟨eL tV p.d6::.fn 77 [.ptr 0 0 0 0]::ra 5 (i p.is7::i s.is8::ra 10 []),[bq 0 1 [[eL tV s.a8]]]⟩
def S5{α:Type}(k:s6->α)(e:Nat->α)(z:α)(p:M3)(s:s6):α:=let y0:=(gL tV p.d6 s.is8.toNat);let t1:=(da4 ⟨y0.x,y0.y,y0.z,rt tV s.a8⟩);(sl (decide (s.is8<p.is7)) (sl (inB s.is8 (List.length p.d6)) (sl ((cnE tV s.a8)&&true) (sl (Nat.beq t1.alt 1) (sl t1.bs0 (e 1) (k ⟨W (s.is8+1),rt tV s.a8⟩)) z) z) z) (e 2))
def E4(p:M3)(s:s6):Stp s6:=S5 .next .exit .fail p s
def pa5:Lo M3 s6:=⟨En Va5,1,gd7,[1,0,1,4,4],[0,1,7,8],.p,[⟨sLq tV::.fn 77 [.o (.ptr 0 0 0 0)]::ru2 5 (sIq::sIq::ru2 10 []),[⟨0,1,true,some [[.c 3 (nL tV)]]⟩],λa H=>(⟨aLq tV a 0,aIq a 7⟩,⟨aIq a 8,hLq tV H 0 0 0⟩)⟩],E4,[(none,λp s=>⟨[i s.is8],[bq 0 1 [[eL tV (rt tV s.a8)]]]⟩),(some 0,λp s=>upq (Na0 p s) [(9,b (decide (s.is8<p.is7)))])],Na0⟩
theorem Fb0:pa5.Ok:=Qki [] .nil λp s=>(.ofq @S5)
structure Aa0 where
 alt:Nat
 is0:Int
 a8:List V3
def Aa1{α:Type}(kk:Aa0->α)(x:za9):α:=let t1:=(lp (E4 (⟨rt tV x.d6,(↑(List.length x.d6):Int)⟩:M3)) (⟨0,rt tV x.a8⟩:s6));(sl ((cnE tV x.d6)&&((cnE tV x.a8)&&true)) (sl (Nat.beq t1.1 1) (kk ⟨1,t1.2.is8,rt tV t1.2.a8⟩) (sl (Nat.beq t1.1 2) (kk ⟨1,-1,t1.2.a8⟩) (kk ⟨0,0,[]⟩))) (kk ⟨0,0,[]⟩))
def da8(x:za9):Aa0:=Aa1 (λr=>r) x
def Va6(x:za9)(r:Aa0):DT (a7×List b7):=(Da1 r.alt 1 (i r.is0,[bq 0 1 [[eL tV r.a8]]]) .fail)
def bb0:Sum:=Aa7 ⟨[sLq tV,.fn 77 [.o (.ptr 0 0 0 0)]],[⟨0,1,true,some [[.c 3 (nL tV)]]⟩],λa H=>(⟨aLq tV a 0,hLq tV H 0 0 0⟩,())⟩ (λx=>Va6 x (da8 x))
theorem Sb8:e7 prog G 109 bb0:=s8 (enc:=λx=>⟨[eL tV x.d6,.fn 77 [.ptr 0 0 0 0]],[bq 0 1 [[eL tV x.a8]]]⟩) (λa H=>by kernel_rfl) (bd xe9 Jb4) λx=>O4 (.s .p (.s (.s .p (.b (.u pa5.ls))) .p)) [pa5.pr] (.cons Fb0 .nil) (mEq @Aa1 (λr=>(Va6 x r).run) x)
def yb9:List (Nat×Sum):=[(109,bb0)]
theorem ub1:j8 prog G yb9:=⟨Sb8,trivial⟩
structure na0 where
 alt:Nat
 bs0:Bool
 a8:List V3
def na1{α:Type}(kk:na0->α)(x:za9):α:=let t1:=(da8 ⟨rt tV x.d6,rt tV x.a8⟩);(sl ((cnE tV x.d6)&&((cnE tV x.a8)&&true)) (sl (Nat.beq t1.alt 1) (kk ⟨1,decide (t1.is0>=0),t1.a8⟩) (kk ⟨0,false,[]⟩)) (kk ⟨0,false,[]⟩))
def V0(x:za9):na0:=na1 (λr=>r) x
def Ia5(x:za9)(r:na0):DT (a7×List b7):=(Da1 r.alt 1 (b r.bs0,[bq 0 1 [[eL tV r.a8]]]) .fail)
def Na1:Sum:=Aa7 ⟨[sLq tV,.fn 77 [.o (.ptr 0 0 0 0)]],[⟨0,1,true,some [[.c 3 (nL tV)]]⟩],λa H=>(⟨aLq tV a 0,hLq tV H 0 0 0⟩,())⟩ (λx=>Ia5 x (V0 x))
theorem zb0:e7 prog G 74 Na1:=s8 (enc:=λx=>⟨[eL tV x.d6,.fn 77 [.ptr 0 0 0 0]],[bq 0 1 [[eL tV x.a8]]]⟩) (λa H=>by kernel_rfl) (bd b74 ub1) λx=>ka3 (mEq @na1 (λr=>(Ia5 x r).run) x)
def fb7:List (Nat×Sum):=[(74,Na1)]
theorem ac0:j8 prog G fb7:=⟨zb0,trivial⟩
structure Q9 where
 de8:List (List V3)
 Jf3:Int
structure C1 where
 Se2:Int
 a8:List V3
def Va7(p:Q9)(s:C1):St:=⟨ra 3 (.ptr 0 0 0 0::ra 7 (eL (tLs tV) p.de8::i p.Jf3::i s.Se2::ra 8 [])),[bq 0 1 [[eL tV s.a8]]]⟩
def X3{α:Type}(k:C1->α)(e:Nat->α)(z:α)(p:Q9)(s:C1):α:=let y0:=(gL (tLs tV) p.de8 s.Se2.toNat);let t1:=(V0 ⟨rt tV y0,rt tV s.a8⟩);(sl (decide (s.Se2<p.Jf3)) (sl (inB s.Se2 (List.length p.de8)) (sl ((cnE tV y0)&&((cnE tV s.a8)&&true)) (sl (Nat.beq t1.alt 1) (sl t1.bs0 (e 1) (k ⟨W (s.Se2+1),y0⟩)) z) z) z) (e 2))
def G9(p:Q9)(s:C1):Stp C1:=X3 .next .exit .fail p s
def Aa2:Lo Q9 C1:=⟨En fb7,0,Mf0,[1,1,0,1,4,4],[3,11,12,13],.p,[⟨ru2 3 (sPq 0::ru2 7 (.s (.c 1 (nL (tLs tV)))::sIq::sIq::ru2 8 [])),[⟨0,1,true,some [[.c 3 (nL tV)]]⟩],λa H=>(⟨aLq (tLs tV) a 11,aIq a 12⟩,⟨aIq a 13,hLq tV H 0 0 0⟩)⟩],G9,[(none,λp s=>⟨[b false],[]⟩),(some 0,λp s=>upq (Va7 p s) [(14,b (decide (s.Se2<p.Jf3)))])],Va7⟩
theorem Sb9:Aa2.Ok:=Qki [] .nil λp s=>(.ofq @X3)
def X7(x:Tol):ROq:=let t1:=(lp (G9 (⟨rt (tLs tV) x.inn,(↑(List.length x.inn):Int)⟩:Q9)) (⟨0,rt tV x.ou⟩:C1));(sl ((cnE (tLs tV) x.inn)&&((cnE tV x.ou)&&true)) (sl (Nat.beq t1.1 1) (some (b false,[])) (sl (Nat.beq t1.1 2) (some (b true,[])) none)) none)
def X8(x:Tol):Bool:=G5 (one r1B) (X7 x)
def oa0(x:Tol):Bool:=okO (one r1B) (X7 x)
def hb9:Sum:=G4 cT (λx=>.guard (oa0 x) (.ret ((one r1B).enc (X8 x),[])))
theorem fc3:e7 prog G 39 hb9:=kc5 (bd b39 ac0) (one r1B) (o:=X7) λx=>O4 (.s .p (.s .p (.s (.s .p (.b (.u Aa2.ls))) .p))) [Aa2.pr] (.cons Sb9 .nil)
def Dc0:List (Nat×Sum):=[(34,ob7),(35,fb4),(36,hb8),(37,pb0),(38,fb6),(39,hb9)]
theorem Gd8:j8 prog G Dc0:=⟨kc9,Zb7,fc1,lc1,Zb9,fc3,trivial⟩
structure n7 where
 H5:ByteArray
 u7:List V3
 p4:List (List V3)
 u9:List V3
 v7:List Int
 H6:Int
 v8:List V3
 H7:ByteArray
 w4:List V3
 p5:List (List V3)
 w5:List V3
 w6:List Int
 H8:Int
 w7:List V3
 H9:ByteArray
 w8:List V3
 p6:List (List V3)
 w9:List V3
 z6:List Int
 I0:Int
 z7:List V3
 I1:ByteArray
 z8:List V3
 p7:List (List V3)
 A0:List V3
 A1:List Int
 I4:Int
 A2:List V3
 I5:ByteArray
 A3:List V3
 p8:List (List V3)
 A4:List V3
 A5:List Int
 I6:Int
 A6:List V3
 I7:ByteArray
 A7:List V3
 p9:List (List V3)
 A8:List V3
 A9:List Int
 I8:Int
 B0:List V3
structure i7 where
 ph:Nat
def cd7(p:n7)(s:i7):St:=⟨ra 4 (i 0::ra 22 (.sl 0 0 6 0::i 6::i 0::ra 11 [])),[bq 77 2 [[.fn 100034 [.v (.string p.H5),eL tV p.u7,eL (tLs tV) p.p4,eL tV p.u9,eL tI p.v7,i p.H6,eL tV p.v8],i 10],[.fn 100035 [.v (.string p.H7),eL tV p.w4,eL (tLs tV) p.p5,eL tV p.w5,eL tI p.w6,i p.H8,eL tV p.w7],i 2],[.fn 100036 [.v (.string p.H9),eL tV p.w8,eL (tLs tV) p.p6,eL tV p.w9,eL tI p.z6,i p.I0,eL tV p.z7],i 3],[.fn 100037 [.v (.string p.I1),eL tV p.z8,eL (tLs tV) p.p7,eL tV p.A0,eL tI p.A1,i p.I4,eL tV p.A2],i 11],[.fn 100038 [.v (.string p.I5),eL tV p.A3,eL (tLs tV) p.p8,eL tV p.A4,eL tI p.A5,i p.I6,eL tV p.A6],i 7],[.fn 100039 [.v (.string p.I7),eL tV p.A7,eL (tLs tV) p.p9,eL tV p.A8,eL tI p.A9,i p.I8,eL tV p.B0],i 15]]]⟩
def cd8(p:n7)(s:i7):St:=⟨ra 4 (i 0::ra 22 (.sl 0 0 6 0::i 6::i 1::ra 11 [])),[bq 77 2 [[.fn 100034 [.v (.string p.H5),eL tV p.u7,eL (tLs tV) p.p4,eL tV p.u9,eL tI p.v7,i p.H6,eL tV p.v8],i 10],[.fn 100035 [.v (.string p.H7),eL tV p.w4,eL (tLs tV) p.p5,eL tV p.w5,eL tI p.w6,i p.H8,eL tV p.w7],i 2],[.fn 100036 [.v (.string p.H9),eL tV p.w8,eL (tLs tV) p.p6,eL tV p.w9,eL tI p.z6,i p.I0,eL tV p.z7],i 3],[.fn 100037 [.v (.string p.I1),eL tV p.z8,eL (tLs tV) p.p7,eL tV p.A0,eL tI p.A1,i p.I4,eL tV p.A2],i 11],[.fn 100038 [.v (.string p.I5),eL tV p.A3,eL (tLs tV) p.p8,eL tV p.A4,eL tI p.A5,i p.I6,eL tV p.A6],i 7],[.fn 100039 [.v (.string p.I7),eL tV p.A7,eL (tLs tV) p.p9,eL tV p.A8,eL tI p.A9,i p.I8,eL tV p.B0],i 15]]]⟩
def cd9(p:n7)(s:i7):St:=⟨ra 4 (i 0::ra 22 (.sl 0 0 6 0::i 6::i 2::ra 11 [])),[bq 77 2 [[.fn 100034 [.v (.string p.H5),eL tV p.u7,eL (tLs tV) p.p4,eL tV p.u9,eL tI p.v7,i p.H6,eL tV p.v8],i 10],[.fn 100035 [.v (.string p.H7),eL tV p.w4,eL (tLs tV) p.p5,eL tV p.w5,eL tI p.w6,i p.H8,eL tV p.w7],i 2],[.fn 100036 [.v (.string p.H9),eL tV p.w8,eL (tLs tV) p.p6,eL tV p.w9,eL tI p.z6,i p.I0,eL tV p.z7],i 3],[.fn 100037 [.v (.string p.I1),eL tV p.z8,eL (tLs tV) p.p7,eL tV p.A0,eL tI p.A1,i p.I4,eL tV p.A2],i 11],[.fn 100038 [.v (.string p.I5),eL tV p.A3,eL (tLs tV) p.p8,eL tV p.A4,eL tI p.A5,i p.I6,eL tV p.A6],i 7],[.fn 100039 [.v (.string p.I7),eL tV p.A7,eL (tLs tV) p.p9,eL tV p.A8,eL tI p.A9,i p.I8,eL tV p.B0],i 15]]]⟩
def dd0(p:n7)(s:i7):St:=⟨ra 4 (i 0::ra 22 (.sl 0 0 6 0::i 6::i 3::ra 11 [])),[bq 77 2 [[.fn 100034 [.v (.string p.H5),eL tV p.u7,eL (tLs tV) p.p4,eL tV p.u9,eL tI p.v7,i p.H6,eL tV p.v8],i 10],[.fn 100035 [.v (.string p.H7),eL tV p.w4,eL (tLs tV) p.p5,eL tV p.w5,eL tI p.w6,i p.H8,eL tV p.w7],i 2],[.fn 100036 [.v (.string p.H9),eL tV p.w8,eL (tLs tV) p.p6,eL tV p.w9,eL tI p.z6,i p.I0,eL tV p.z7],i 3],[.fn 100037 [.v (.string p.I1),eL tV p.z8,eL (tLs tV) p.p7,eL tV p.A0,eL tI p.A1,i p.I4,eL tV p.A2],i 11],[.fn 100038 [.v (.string p.I5),eL tV p.A3,eL (tLs tV) p.p8,eL tV p.A4,eL tI p.A5,i p.I6,eL tV p.A6],i 7],[.fn 100039 [.v (.string p.I7),eL tV p.A7,eL (tLs tV) p.p9,eL tV p.A8,eL tI p.A9,i p.I8,eL tV p.B0],i 15]]]⟩
def dd1(p:n7)(s:i7):St:=⟨ra 4 (i 0::ra 22 (.sl 0 0 6 0::i 6::i 4::ra 11 [])),[bq 77 2 [[.fn 100034 [.v (.string p.H5),eL tV p.u7,eL (tLs tV) p.p4,eL tV p.u9,eL tI p.v7,i p.H6,eL tV p.v8],i 10],[.fn 100035 [.v (.string p.H7),eL tV p.w4,eL (tLs tV) p.p5,eL tV p.w5,eL tI p.w6,i p.H8,eL tV p.w7],i 2],[.fn 100036 [.v (.string p.H9),eL tV p.w8,eL (tLs tV) p.p6,eL tV p.w9,eL tI p.z6,i p.I0,eL tV p.z7],i 3],[.fn 100037 [.v (.string p.I1),eL tV p.z8,eL (tLs tV) p.p7,eL tV p.A0,eL tI p.A1,i p.I4,eL tV p.A2],i 11],[.fn 100038 [.v (.string p.I5),eL tV p.A3,eL (tLs tV) p.p8,eL tV p.A4,eL tI p.A5,i p.I6,eL tV p.A6],i 7],[.fn 100039 [.v (.string p.I7),eL tV p.A7,eL (tLs tV) p.p9,eL tV p.A8,eL tI p.A9,i p.I8,eL tV p.B0],i 15]]]⟩
def dd2(p:n7)(s:i7):St:=⟨ra 4 (i 0::ra 22 (.sl 0 0 6 0::i 6::i 5::ra 11 [])),[bq 77 2 [[.fn 100034 [.v (.string p.H5),eL tV p.u7,eL (tLs tV) p.p4,eL tV p.u9,eL tI p.v7,i p.H6,eL tV p.v8],i 10],[.fn 100035 [.v (.string p.H7),eL tV p.w4,eL (tLs tV) p.p5,eL tV p.w5,eL tI p.w6,i p.H8,eL tV p.w7],i 2],[.fn 100036 [.v (.string p.H9),eL tV p.w8,eL (tLs tV) p.p6,eL tV p.w9,eL tI p.z6,i p.I0,eL tV p.z7],i 3],[.fn 100037 [.v (.string p.I1),eL tV p.z8,eL (tLs tV) p.p7,eL tV p.A0,eL tI p.A1,i p.I4,eL tV p.A2],i 11],[.fn 100038 [.v (.string p.I5),eL tV p.A3,eL (tLs tV) p.p8,eL tV p.A4,eL tI p.A5,i p.I6,eL tV p.A6],i 7],[.fn 100039 [.v (.string p.I7),eL tV p.A7,eL (tLs tV) p.p9,eL tV p.A8,eL tI p.A9,i p.I8,eL tV p.B0],i 15]]]⟩
def ac4(p:n7)(s:i7):St:=⟨ra 4 (i 0::ra 22 (.sl 0 0 6 0::i 6::i 6::ra 11 [])),[bq 77 2 [[.fn 100034 [.v (.string p.H5),eL tV p.u7,eL (tLs tV) p.p4,eL tV p.u9,eL tI p.v7,i p.H6,eL tV p.v8],i 10],[.fn 100035 [.v (.string p.H7),eL tV p.w4,eL (tLs tV) p.p5,eL tV p.w5,eL tI p.w6,i p.H8,eL tV p.w7],i 2],[.fn 100036 [.v (.string p.H9),eL tV p.w8,eL (tLs tV) p.p6,eL tV p.w9,eL tI p.z6,i p.I0,eL tV p.z7],i 3],[.fn 100037 [.v (.string p.I1),eL tV p.z8,eL (tLs tV) p.p7,eL tV p.A0,eL tI p.A1,i p.I4,eL tV p.A2],i 11],[.fn 100038 [.v (.string p.I5),eL tV p.A3,eL (tLs tV) p.p8,eL tV p.A4,eL tI p.A5,i p.I6,eL tV p.A6],i 7],[.fn 100039 [.v (.string p.I7),eL tV p.A7,eL (tLs tV) p.p9,eL tV p.A8,eL tI p.A9,i p.I8,eL tV p.B0],i 15]]]⟩
def od5(p:n7)(s:i7):St:=(sel (Nat.beq s.ph 6) (ac4 p s) (sel (Nat.beq s.ph 5) (dd2 p s) (sel (Nat.beq s.ph 4) (dd1 p s) (sel (Nat.beq s.ph 3) (dd0 p s) (sel (Nat.beq s.ph 2) (cd9 p s) (sel (Nat.beq s.ph 1) (cd8 p s) (cd7 p s)))))))
def Pa3{α:Type}(k:i7->α)(e:Nat->α)(z:α)(p:n7)(s:i7):α:=let y0:=(⟨p.H5,rt tV p.u7,rt (tLs tV) p.p4,rt tV p.u9,rt tI p.v7,p.H6,rt tV p.v8⟩:Tol);let t1:=(ba1 y0);(sl ((okE tV p.u7)&&((okE (tLs tV) p.p4)&&((okE tV p.u9)&&((okE tI p.v7)&&((okE tV p.v8)&&true))))) (sl (sa7 y0) (sl (!t1) (e 1) (k ⟨1⟩)) z) z)
def Pa4{α:Type}(k:i7->α)(e:Nat->α)(z:α)(p:n7)(s:i7):α:=let y0:=(⟨p.H7,rt tV p.w4,rt (tLs tV) p.p5,rt tV p.w5,rt tI p.w6,p.H8,rt tV p.w7⟩:Tol);let t1:=(U3 y0);(sl ((okE tV p.w4)&&((okE (tLs tV) p.p5)&&((okE tV p.w5)&&((okE tI p.w6)&&((okE tV p.w7)&&true))))) (sl (ha0 y0) (sl (!t1) (e 2) (k ⟨2⟩)) z) z)
def Pa5{α:Type}(k:i7->α)(e:Nat->α)(z:α)(p:n7)(s:i7):α:=let y0:=(⟨p.H9,rt tV p.w8,rt (tLs tV) p.p6,rt tV p.w9,rt tI p.z6,p.I0,rt tV p.z7⟩:Tol);let t1:=(X6 y0);(sl ((okE tV p.w8)&&((okE (tLs tV) p.p6)&&((okE tV p.w9)&&((okE tI p.z6)&&((okE tV p.z7)&&true))))) (sl (na9 y0) (sl (!t1) (e 3) (k ⟨3⟩)) z) z)
def Pa6{α:Type}(k:i7->α)(e:Nat->α)(z:α)(p:n7)(s:i7):α:=let y0:=(⟨p.I1,rt tV p.z8,rt (tLs tV) p.p7,rt tV p.A0,rt tI p.A1,p.I4,rt tV p.A2⟩:Tol);let t1:=(ba3 y0);(sl ((okE tV p.z8)&&((okE (tLs tV) p.p7)&&((okE tV p.A0)&&((okE tI p.A1)&&((okE tV p.A2)&&true))))) (sl (sa8 y0) (sl (!t1) (e 4) (k ⟨4⟩)) z) z)
def Pa7{α:Type}(k:i7->α)(e:Nat->α)(z:α)(p:n7)(s:i7):α:=let y0:=(⟨p.I5,rt tV p.A3,rt (tLs tV) p.p8,rt tV p.A4,rt tI p.A5,p.I6,rt tV p.A6⟩:Tol);let t1:=(U9 y0);(sl ((okE tV p.A3)&&((okE (tLs tV) p.p8)&&((okE tV p.A4)&&((okE tI p.A5)&&((okE tV p.A6)&&true))))) (sl (ha4 y0) (sl (!t1) (e 5) (k ⟨5⟩)) z) z)
def Pa8{α:Type}(k:i7->α)(e:Nat->α)(z:α)(p:n7)(s:i7):α:=let y0:=(⟨p.I7,rt tV p.A7,rt (tLs tV) p.p9,rt tV p.A8,rt tI p.A9,p.I8,rt tV p.B0⟩:Tol);let t1:=(X8 y0);(sl ((okE tV p.A7)&&((okE (tLs tV) p.p9)&&((okE tV p.A8)&&((okE tI p.A9)&&((okE tV p.B0)&&true))))) (sl (oa0 y0) (sl (!t1) (e 6) (k ⟨6⟩)) z) z)
def ac5{α:Type}(k:i7->α)(e:Nat->α)(z:α)(p:n7)(s:i7):α:=(e 7)
def r8(p:n7)(s:i7):Stp i7:=(sel (Nat.beq s.ph 6) (ac5 .next .exit .fail p s) (sel (Nat.beq s.ph 5) (Pa8 .next .exit .fail p s) (sel (Nat.beq s.ph 4) (Pa7 .next .exit .fail p s) (sel (Nat.beq s.ph 3) (Pa6 .next .exit .fail p s) (sel (Nat.beq s.ph 2) (Pa5 .next .exit .fail p s) (sel (Nat.beq s.ph 1) (Pa4 .next .exit .fail p s) (Pa3 .next .exit .fail p s)))))))
def Fb1:Lo n7 i7:=⟨En Dc0,0,Lf5,[1,1,1,1,0,1,4,4],[4,27,28,29],.p,[⟨ru2 4 (.s (.o (.lit .i64 0))::ru2 22 (.s (.o (.sl 0 0 (some 0) (some 6)))::.s (.o (.lit .i64 6))::.s (.o (.lit .i64 0))::ru2 11 [])),[⟨77,2,true,some [[.fn 100034 [.o .val,.c 3 (nL tV),.c 1 (nL (tLs tV)),.c 3 (nL tV),.c 1 (nL tI),.o (.int .i64),.c 3 (nL tV)],.o (.lit .i64 10)],[.fn 100035 [.o .val,.c 3 (nL tV),.c 1 (nL (tLs tV)),.c 3 (nL tV),.c 1 (nL tI),.o (.int .i64),.c 3 (nL tV)],.o (.lit .i64 2)],[.fn 100036 [.o .val,.c 3 (nL tV),.c 1 (nL (tLs tV)),.c 3 (nL tV),.c 1 (nL tI),.o (.int .i64),.c 3 (nL tV)],.o (.lit .i64 3)],[.fn 100037 [.o .val,.c 3 (nL tV),.c 1 (nL (tLs tV)),.c 3 (nL tV),.c 1 (nL tI),.o (.int .i64),.c 3 (nL tV)],.o (.lit .i64 11)],[.fn 100038 [.o .val,.c 3 (nL tV),.c 1 (nL (tLs tV)),.c 3 (nL tV),.c 1 (nL tI),.o (.int .i64),.c 3 (nL tV)],.o (.lit .i64 7)],[.fn 100039 [.o .val,.c 3 (nL tV),.c 1 (nL (tLs tV)),.c 3 (nL tV),.c 1 (nL tI),.o (.int .i64),.c 3 (nL tV)],.o (.lit .i64 15)]]⟩],λa H=>(⟨Z9 (slT (cellsOf (slT (rwT (elT H 0) 0) 0)) 0),wLq tV H 0 0 0 1,wLq (tLs tV) H 0 0 0 2,wLq tV H 0 0 0 3,wLq tI H 0 0 0 4,wIq H 0 0 0 5,wLq tV H 0 0 0 6,Z9 (slT (cellsOf (slT (rwT (elT H 0) 1) 0)) 0),wLq tV H 0 1 0 1,wLq (tLs tV) H 0 1 0 2,wLq tV H 0 1 0 3,wLq tI H 0 1 0 4,wIq H 0 1 0 5,wLq tV H 0 1 0 6,Z9 (slT (cellsOf (slT (rwT (elT H 0) 2) 0)) 0),wLq tV H 0 2 0 1,wLq (tLs tV) H 0 2 0 2,wLq tV H 0 2 0 3,wLq tI H 0 2 0 4,wIq H 0 2 0 5,wLq tV H 0 2 0 6,Z9 (slT (cellsOf (slT (rwT (elT H 0) 3) 0)) 0),wLq tV H 0 3 0 1,wLq (tLs tV) H 0 3 0 2,wLq tV H 0 3 0 3,wLq tI H 0 3 0 4,wIq H 0 3 0 5,wLq tV H 0 3 0 6,Z9 (slT (cellsOf (slT (rwT (elT H 0) 4) 0)) 0),wLq tV H 0 4 0 1,wLq (tLs tV) H 0 4 0 2,wLq tV H 0 4 0 3,wLq tI H 0 4 0 4,wIq H 0 4 0 5,wLq tV H 0 4 0 6,Z9 (slT (cellsOf (slT (rwT (elT H 0) 5) 0)) 0),wLq tV H 0 5 0 1,wLq (tLs tV) H 0 5 0 2,wLq tV H 0 5 0 3,wLq tI H 0 5 0 4,wIq H 0 5 0 5,wLq tV H 0 5 0 6⟩,⟨0⟩)⟩,⟨ru2 4 (.s (.o (.lit .i64 0))::ru2 22 (.s (.o (.sl 0 0 (some 0) (some 6)))::.s (.o (.lit .i64 6))::.s (.o (.lit .i64 1))::ru2 11 [])),[⟨77,2,true,some [[.fn 100034 [.o .val,.c 3 (nL tV),.c 1 (nL (tLs tV)),.c 3 (nL tV),.c 1 (nL tI),.o (.int .i64),.c 3 (nL tV)],.o (.lit .i64 10)],[.fn 100035 [.o .val,.c 3 (nL tV),.c 1 (nL (tLs tV)),.c 3 (nL tV),.c 1 (nL tI),.o (.int .i64),.c 3 (nL tV)],.o (.lit .i64 2)],[.fn 100036 [.o .val,.c 3 (nL tV),.c 1 (nL (tLs tV)),.c 3 (nL tV),.c 1 (nL tI),.o (.int .i64),.c 3 (nL tV)],.o (.lit .i64 3)],[.fn 100037 [.o .val,.c 3 (nL tV),.c 1 (nL (tLs tV)),.c 3 (nL tV),.c 1 (nL tI),.o (.int .i64),.c 3 (nL tV)],.o (.lit .i64 11)],[.fn 100038 [.o .val,.c 3 (nL tV),.c 1 (nL (tLs tV)),.c 3 (nL tV),.c 1 (nL tI),.o (.int .i64),.c 3 (nL tV)],.o (.lit .i64 7)],[.fn 100039 [.o .val,.c 3 (nL tV),.c 1 (nL (tLs tV)),.c 3 (nL tV),.c 1 (nL tI),.o (.int .i64),.c 3 (nL tV)],.o (.lit .i64 15)]]⟩],λa H=>(⟨Z9 (slT (cellsOf (slT (rwT (elT H 0) 0) 0)) 0),wLq tV H 0 0 0 1,wLq (tLs tV) H 0 0 0 2,wLq tV H 0 0 0 3,wLq tI H 0 0 0 4,wIq H 0 0 0 5,wLq tV H 0 0 0 6,Z9 (slT (cellsOf (slT (rwT (elT H 0) 1) 0)) 0),wLq tV H 0 1 0 1,wLq (tLs tV) H 0 1 0 2,wLq tV H 0 1 0 3,wLq tI H 0 1 0 4,wIq H 0 1 0 5,wLq tV H 0 1 0 6,Z9 (slT (cellsOf (slT (rwT (elT H 0) 2) 0)) 0),wLq tV H 0 2 0 1,wLq (tLs tV) H 0 2 0 2,wLq tV H 0 2 0 3,wLq tI H 0 2 0 4,wIq H 0 2 0 5,wLq tV H 0 2 0 6,Z9 (slT (cellsOf (slT (rwT (elT H 0) 3) 0)) 0),wLq tV H 0 3 0 1,wLq (tLs tV) H 0 3 0 2,wLq tV H 0 3 0 3,wLq tI H 0 3 0 4,wIq H 0 3 0 5,wLq tV H 0 3 0 6,Z9 (slT (cellsOf (slT (rwT (elT H 0) 4) 0)) 0),wLq tV H 0 4 0 1,wLq (tLs tV) H 0 4 0 2,wLq tV H 0 4 0 3,wLq tI H 0 4 0 4,wIq H 0 4 0 5,wLq tV H 0 4 0 6,Z9 (slT (cellsOf (slT (rwT (elT H 0) 5) 0)) 0),wLq tV H 0 5 0 1,wLq (tLs tV) H 0 5 0 2,wLq tV H 0 5 0 3,wLq tI H 0 5 0 4,wIq H 0 5 0 5,wLq tV H 0 5 0 6⟩,⟨1⟩)⟩,⟨ru2 4 (.s (.o (.lit .i64 0))::ru2 22 (.s (.o (.sl 0 0 (some 0) (some 6)))::.s (.o (.lit .i64 6))::.s (.o (.lit .i64 2))::ru2 11 [])),[⟨77,2,true,some [[.fn 100034 [.o .val,.c 3 (nL tV),.c 1 (nL (tLs tV)),.c 3 (nL tV),.c 1 (nL tI),.o (.int .i64),.c 3 (nL tV)],.o (.lit .i64 10)],[.fn 100035 [.o .val,.c 3 (nL tV),.c 1 (nL (tLs tV)),.c 3 (nL tV),.c 1 (nL tI),.o (.int .i64),.c 3 (nL tV)],.o (.lit .i64 2)],[.fn 100036 [.o .val,.c 3 (nL tV),.c 1 (nL (tLs tV)),.c 3 (nL tV),.c 1 (nL tI),.o (.int .i64),.c 3 (nL tV)],.o (.lit .i64 3)],[.fn 100037 [.o .val,.c 3 (nL tV),.c 1 (nL (tLs tV)),.c 3 (nL tV),.c 1 (nL tI),.o (.int .i64),.c 3 (nL tV)],.o (.lit .i64 11)],[.fn 100038 [.o .val,.c 3 (nL tV),.c 1 (nL (tLs tV)),.c 3 (nL tV),.c 1 (nL tI),.o (.int .i64),.c 3 (nL tV)],.o (.lit .i64 7)],[.fn 100039 [.o .val,.c 3 (nL tV),.c 1 (nL (tLs tV)),.c 3 (nL tV),.c 1 (nL tI),.o (.int .i64),.c 3 (nL tV)],.o (.lit .i64 15)]]⟩],λa H=>(⟨Z9 (slT (cellsOf (slT (rwT (elT H 0) 0) 0)) 0),wLq tV H 0 0 0 1,wLq (tLs tV) H 0 0 0 2,wLq tV H 0 0 0 3,wLq tI H 0 0 0 4,wIq H 0 0 0 5,wLq tV H 0 0 0 6,Z9 (slT (cellsOf (slT (rwT (elT H 0) 1) 0)) 0),wLq tV H 0 1 0 1,wLq (tLs tV) H 0 1 0 2,wLq tV H 0 1 0 3,wLq tI H 0 1 0 4,wIq H 0 1 0 5,wLq tV H 0 1 0 6,Z9 (slT (cellsOf (slT (rwT (elT H 0) 2) 0)) 0),wLq tV H 0 2 0 1,wLq (tLs tV) H 0 2 0 2,wLq tV H 0 2 0 3,wLq tI H 0 2 0 4,wIq H 0 2 0 5,wLq tV H 0 2 0 6,Z9 (slT (cellsOf (slT (rwT (elT H 0) 3) 0)) 0),wLq tV H 0 3 0 1,wLq (tLs tV) H 0 3 0 2,wLq tV H 0 3 0 3,wLq tI H 0 3 0 4,wIq H 0 3 0 5,wLq tV H 0 3 0 6,Z9 (slT (cellsOf (slT (rwT (elT H 0) 4) 0)) 0),wLq tV H 0 4 0 1,wLq (tLs tV) H 0 4 0 2,wLq tV H 0 4 0 3,wLq tI H 0 4 0 4,wIq H 0 4 0 5,wLq tV H 0 4 0 6,Z9 (slT (cellsOf (slT (rwT (elT H 0) 5) 0)) 0),wLq tV H 0 5 0 1,wLq (tLs tV) H 0 5 0 2,wLq tV H 0 5 0 3,wLq tI H 0 5 0 4,wIq H 0 5 0 5,wLq tV H 0 5 0 6⟩,⟨2⟩)⟩,⟨ru2 4 (.s (.o (.lit .i64 0))::ru2 22 (.s (.o (.sl 0 0 (some 0) (some 6)))::.s (.o (.lit .i64 6))::.s (.o (.lit .i64 3))::ru2 11 [])),[⟨77,2,true,some [[.fn 100034 [.o .val,.c 3 (nL tV),.c 1 (nL (tLs tV)),.c 3 (nL tV),.c 1 (nL tI),.o (.int .i64),.c 3 (nL tV)],.o (.lit .i64 10)],[.fn 100035 [.o .val,.c 3 (nL tV),.c 1 (nL (tLs tV)),.c 3 (nL tV),.c 1 (nL tI),.o (.int .i64),.c 3 (nL tV)],.o (.lit .i64 2)],[.fn 100036 [.o .val,.c 3 (nL tV),.c 1 (nL (tLs tV)),.c 3 (nL tV),.c 1 (nL tI),.o (.int .i64),.c 3 (nL tV)],.o (.lit .i64 3)],[.fn 100037 [.o .val,.c 3 (nL tV),.c 1 (nL (tLs tV)),.c 3 (nL tV),.c 1 (nL tI),.o (.int .i64),.c 3 (nL tV)],.o (.lit .i64 11)],[.fn 100038 [.o .val,.c 3 (nL tV),.c 1 (nL (tLs tV)),.c 3 (nL tV),.c 1 (nL tI),.o (.int .i64),.c 3 (nL tV)],.o (.lit .i64 7)],[.fn 100039 [.o .val,.c 3 (nL tV),.c 1 (nL (tLs tV)),.c 3 (nL tV),.c 1 (nL tI),.o (.int .i64),.c 3 (nL tV)],.o (.lit .i64 15)]]⟩],λa H=>(⟨Z9 (slT (cellsOf (slT (rwT (elT H 0) 0) 0)) 0),wLq tV H 0 0 0 1,wLq (tLs tV) H 0 0 0 2,wLq tV H 0 0 0 3,wLq tI H 0 0 0 4,wIq H 0 0 0 5,wLq tV H 0 0 0 6,Z9 (slT (cellsOf (slT (rwT (elT H 0) 1) 0)) 0),wLq tV H 0 1 0 1,wLq (tLs tV) H 0 1 0 2,wLq tV H 0 1 0 3,wLq tI H 0 1 0 4,wIq H 0 1 0 5,wLq tV H 0 1 0 6,Z9 (slT (cellsOf (slT (rwT (elT H 0) 2) 0)) 0),wLq tV H 0 2 0 1,wLq (tLs tV) H 0 2 0 2,wLq tV H 0 2 0 3,wLq tI H 0 2 0 4,wIq H 0 2 0 5,wLq tV H 0 2 0 6,Z9 (slT (cellsOf (slT (rwT (elT H 0) 3) 0)) 0),wLq tV H 0 3 0 1,wLq (tLs tV) H 0 3 0 2,wLq tV H 0 3 0 3,wLq tI H 0 3 0 4,wIq H 0 3 0 5,wLq tV H 0 3 0 6,Z9 (slT (cellsOf (slT (rwT (elT H 0) 4) 0)) 0),wLq tV H 0 4 0 1,wLq (tLs tV) H 0 4 0 2,wLq tV H 0 4 0 3,wLq tI H 0 4 0 4,wIq H 0 4 0 5,wLq tV H 0 4 0 6,Z9 (slT (cellsOf (slT (rwT (elT H 0) 5) 0)) 0),wLq tV H 0 5 0 1,wLq (tLs tV) H 0 5 0 2,wLq tV H 0 5 0 3,wLq tI H 0 5 0 4,wIq H 0 5 0 5,wLq tV H 0 5 0 6⟩,⟨3⟩)⟩,⟨ru2 4 (.s (.o (.lit .i64 0))::ru2 22 (.s (.o (.sl 0 0 (some 0) (some 6)))::.s (.o (.lit .i64 6))::.s (.o (.lit .i64 4))::ru2 11 [])),[⟨77,2,true,some [[.fn 100034 [.o .val,.c 3 (nL tV),.c 1 (nL (tLs tV)),.c 3 (nL tV),.c 1 (nL tI),.o (.int .i64),.c 3 (nL tV)],.o (.lit .i64 10)],[.fn 100035 [.o .val,.c 3 (nL tV),.c 1 (nL (tLs tV)),.c 3 (nL tV),.c 1 (nL tI),.o (.int .i64),.c 3 (nL tV)],.o (.lit .i64 2)],[.fn 100036 [.o .val,.c 3 (nL tV),.c 1 (nL (tLs tV)),.c 3 (nL tV),.c 1 (nL tI),.o (.int .i64),.c 3 (nL tV)],.o (.lit .i64 3)],[.fn 100037 [.o .val,.c 3 (nL tV),.c 1 (nL (tLs tV)),.c 3 (nL tV),.c 1 (nL tI),.o (.int .i64),.c 3 (nL tV)],.o (.lit .i64 11)],[.fn 100038 [.o .val,.c 3 (nL tV),.c 1 (nL (tLs tV)),.c 3 (nL tV),.c 1 (nL tI),.o (.int .i64),.c 3 (nL tV)],.o (.lit .i64 7)],[.fn 100039 [.o .val,.c 3 (nL tV),.c 1 (nL (tLs tV)),.c 3 (nL tV),.c 1 (nL tI),.o (.int .i64),.c 3 (nL tV)],.o (.lit .i64 15)]]⟩],λa H=>(⟨Z9 (slT (cellsOf (slT (rwT (elT H 0) 0) 0)) 0),wLq tV H 0 0 0 1,wLq (tLs tV) H 0 0 0 2,wLq tV H 0 0 0 3,wLq tI H 0 0 0 4,wIq H 0 0 0 5,wLq tV H 0 0 0 6,Z9 (slT (cellsOf (slT (rwT (elT H 0) 1) 0)) 0),wLq tV H 0 1 0 1,wLq (tLs tV) H 0 1 0 2,wLq tV H 0 1 0 3,wLq tI H 0 1 0 4,wIq H 0 1 0 5,wLq tV H 0 1 0 6,Z9 (slT (cellsOf (slT (rwT (elT H 0) 2) 0)) 0),wLq tV H 0 2 0 1,wLq (tLs tV) H 0 2 0 2,wLq tV H 0 2 0 3,wLq tI H 0 2 0 4,wIq H 0 2 0 5,wLq tV H 0 2 0 6,Z9 (slT (cellsOf (slT (rwT (elT H 0) 3) 0)) 0),wLq tV H 0 3 0 1,wLq (tLs tV) H 0 3 0 2,wLq tV H 0 3 0 3,wLq tI H 0 3 0 4,wIq H 0 3 0 5,wLq tV H 0 3 0 6,Z9 (slT (cellsOf (slT (rwT (elT H 0) 4) 0)) 0),wLq tV H 0 4 0 1,wLq (tLs tV) H 0 4 0 2,wLq tV H 0 4 0 3,wLq tI H 0 4 0 4,wIq H 0 4 0 5,wLq tV H 0 4 0 6,Z9 (slT (cellsOf (slT (rwT (elT H 0) 5) 0)) 0),wLq tV H 0 5 0 1,wLq (tLs tV) H 0 5 0 2,wLq tV H 0 5 0 3,wLq tI H 0 5 0 4,wIq H 0 5 0 5,wLq tV H 0 5 0 6⟩,⟨4⟩)⟩,⟨ru2 4 (.s (.o (.lit .i64 0))::ru2 22 (.s (.o (.sl 0 0 (some 0) (some 6)))::.s (.o (.lit .i64 6))::.s (.o (.lit .i64 5))::ru2 11 [])),[⟨77,2,true,some [[.fn 100034 [.o .val,.c 3 (nL tV),.c 1 (nL (tLs tV)),.c 3 (nL tV),.c 1 (nL tI),.o (.int .i64),.c 3 (nL tV)],.o (.lit .i64 10)],[.fn 100035 [.o .val,.c 3 (nL tV),.c 1 (nL (tLs tV)),.c 3 (nL tV),.c 1 (nL tI),.o (.int .i64),.c 3 (nL tV)],.o (.lit .i64 2)],[.fn 100036 [.o .val,.c 3 (nL tV),.c 1 (nL (tLs tV)),.c 3 (nL tV),.c 1 (nL tI),.o (.int .i64),.c 3 (nL tV)],.o (.lit .i64 3)],[.fn 100037 [.o .val,.c 3 (nL tV),.c 1 (nL (tLs tV)),.c 3 (nL tV),.c 1 (nL tI),.o (.int .i64),.c 3 (nL tV)],.o (.lit .i64 11)],[.fn 100038 [.o .val,.c 3 (nL tV),.c 1 (nL (tLs tV)),.c 3 (nL tV),.c 1 (nL tI),.o (.int .i64),.c 3 (nL tV)],.o (.lit .i64 7)],[.fn 100039 [.o .val,.c 3 (nL tV),.c 1 (nL (tLs tV)),.c 3 (nL tV),.c 1 (nL tI),.o (.int .i64),.c 3 (nL tV)],.o (.lit .i64 15)]]⟩],λa H=>(⟨Z9 (slT (cellsOf (slT (rwT (elT H 0) 0) 0)) 0),wLq tV H 0 0 0 1,wLq (tLs tV) H 0 0 0 2,wLq tV H 0 0 0 3,wLq tI H 0 0 0 4,wIq H 0 0 0 5,wLq tV H 0 0 0 6,Z9 (slT (cellsOf (slT (rwT (elT H 0) 1) 0)) 0),wLq tV H 0 1 0 1,wLq (tLs tV) H 0 1 0 2,wLq tV H 0 1 0 3,wLq tI H 0 1 0 4,wIq H 0 1 0 5,wLq tV H 0 1 0 6,Z9 (slT (cellsOf (slT (rwT (elT H 0) 2) 0)) 0),wLq tV H 0 2 0 1,wLq (tLs tV) H 0 2 0 2,wLq tV H 0 2 0 3,wLq tI H 0 2 0 4,wIq H 0 2 0 5,wLq tV H 0 2 0 6,Z9 (slT (cellsOf (slT (rwT (elT H 0) 3) 0)) 0),wLq tV H 0 3 0 1,wLq (tLs tV) H 0 3 0 2,wLq tV H 0 3 0 3,wLq tI H 0 3 0 4,wIq H 0 3 0 5,wLq tV H 0 3 0 6,Z9 (slT (cellsOf (slT (rwT (elT H 0) 4) 0)) 0),wLq tV H 0 4 0 1,wLq (tLs tV) H 0 4 0 2,wLq tV H 0 4 0 3,wLq tI H 0 4 0 4,wIq H 0 4 0 5,wLq tV H 0 4 0 6,Z9 (slT (cellsOf (slT (rwT (elT H 0) 5) 0)) 0),wLq tV H 0 5 0 1,wLq (tLs tV) H 0 5 0 2,wLq tV H 0 5 0 3,wLq tI H 0 5 0 4,wIq H 0 5 0 5,wLq tV H 0 5 0 6⟩,⟨5⟩)⟩,⟨ru2 4 (.s (.o (.lit .i64 0))::ru2 22 (.s (.o (.sl 0 0 (some 0) (some 6)))::.s (.o (.lit .i64 6))::.s (.o (.lit .i64 6))::ru2 11 [])),[⟨77,2,true,some [[.fn 100034 [.o .val,.c 3 (nL tV),.c 1 (nL (tLs tV)),.c 3 (nL tV),.c 1 (nL tI),.o (.int .i64),.c 3 (nL tV)],.o (.lit .i64 10)],[.fn 100035 [.o .val,.c 3 (nL tV),.c 1 (nL (tLs tV)),.c 3 (nL tV),.c 1 (nL tI),.o (.int .i64),.c 3 (nL tV)],.o (.lit .i64 2)],[.fn 100036 [.o .val,.c 3 (nL tV),.c 1 (nL (tLs tV)),.c 3 (nL tV),.c 1 (nL tI),.o (.int .i64),.c 3 (nL tV)],.o (.lit .i64 3)],[.fn 100037 [.o .val,.c 3 (nL tV),.c 1 (nL (tLs tV)),.c 3 (nL tV),.c 1 (nL tI),.o (.int .i64),.c 3 (nL tV)],.o (.lit .i64 11)],[.fn 100038 [.o .val,.c 3 (nL tV),.c 1 (nL (tLs tV)),.c 3 (nL tV),.c 1 (nL tI),.o (.int .i64),.c 3 (nL tV)],.o (.lit .i64 7)],[.fn 100039 [.o .val,.c 3 (nL tV),.c 1 (nL (tLs tV)),.c 3 (nL tV),.c 1 (nL tI),.o (.int .i64),.c 3 (nL tV)],.o (.lit .i64 15)]]⟩],λa H=>(⟨Z9 (slT (cellsOf (slT (rwT (elT H 0) 0) 0)) 0),wLq tV H 0 0 0 1,wLq (tLs tV) H 0 0 0 2,wLq tV H 0 0 0 3,wLq tI H 0 0 0 4,wIq H 0 0 0 5,wLq tV H 0 0 0 6,Z9 (slT (cellsOf (slT (rwT (elT H 0) 1) 0)) 0),wLq tV H 0 1 0 1,wLq (tLs tV) H 0 1 0 2,wLq tV H 0 1 0 3,wLq tI H 0 1 0 4,wIq H 0 1 0 5,wLq tV H 0 1 0 6,Z9 (slT (cellsOf (slT (rwT (elT H 0) 2) 0)) 0),wLq tV H 0 2 0 1,wLq (tLs tV) H 0 2 0 2,wLq tV H 0 2 0 3,wLq tI H 0 2 0 4,wIq H 0 2 0 5,wLq tV H 0 2 0 6,Z9 (slT (cellsOf (slT (rwT (elT H 0) 3) 0)) 0),wLq tV H 0 3 0 1,wLq (tLs tV) H 0 3 0 2,wLq tV H 0 3 0 3,wLq tI H 0 3 0 4,wIq H 0 3 0 5,wLq tV H 0 3 0 6,Z9 (slT (cellsOf (slT (rwT (elT H 0) 4) 0)) 0),wLq tV H 0 4 0 1,wLq (tLs tV) H 0 4 0 2,wLq tV H 0 4 0 3,wLq tI H 0 4 0 4,wIq H 0 4 0 5,wLq tV H 0 4 0 6,Z9 (slT (cellsOf (slT (rwT (elT H 0) 5) 0)) 0),wLq tV H 0 5 0 1,wLq (tLs tV) H 0 5 0 2,wLq tV H 0 5 0 3,wLq tI H 0 5 0 4,wIq H 0 5 0 5,wLq tV H 0 5 0 6⟩,⟨6⟩)⟩],r8,[(some 0,λp s=>let t1:=(ba1 (⟨p.H5,rt tV p.u7,rt (tLs tV) p.p4,rt tV p.u9,rt tI p.v7,p.H6,rt tV p.v8⟩:Tol));⟨ra 4 (i 10::.unk::.ptr 1 0 0 0::ra 20 (.sl 0 0 6 0::i 6::i 0::b true::.ptr 0 0 0 0::.agg [.fn 100034 [.v (.string p.H5),eL tV p.u7,eL (tLs tV) p.p4,eL tV p.u9,eL tI p.v7,i p.H6,eL tV p.v8],i 10]::.ptr 1 0 0 0::.fn 100034 [.v (.string p.H5),eL tV p.u7,eL (tLs tV) p.p4,eL tV p.u9,eL tI p.v7,i p.H6,eL tV p.v8]::b t1::b (!t1)::.ptr 1 0 1 0::i 10::.unk::.unk::[])),[bq 77 2 [[.fn 100034 [.v (.string p.H5),eL tV p.u7,eL (tLs tV) p.p4,eL tV p.u9,eL tI p.v7,i p.H6,eL tV p.v8],i 10],[.fn 100035 [.v (.string p.H7),eL tV p.w4,eL (tLs tV) p.p5,eL tV p.w5,eL tI p.w6,i p.H8,eL tV p.w7],i 2],[.fn 100036 [.v (.string p.H9),eL tV p.w8,eL (tLs tV) p.p6,eL tV p.w9,eL tI p.z6,i p.I0,eL tV p.z7],i 3],[.fn 100037 [.v (.string p.I1),eL tV p.z8,eL (tLs tV) p.p7,eL tV p.A0,eL tI p.A1,i p.I4,eL tV p.A2],i 11],[.fn 100038 [.v (.string p.I5),eL tV p.A3,eL (tLs tV) p.p8,eL tV p.A4,eL tI p.A5,i p.I6,eL tV p.A6],i 7],[.fn 100039 [.v (.string p.I7),eL tV p.A7,eL (tLs tV) p.p9,eL tV p.A8,eL tI p.A9,i p.I8,eL tV p.B0],i 15]],bq 0 2 [[.fn 100034 [.v (.string p.H5),eL tV p.u7,eL (tLs tV) p.p4,eL tV p.u9,eL tI p.v7,i p.H6,eL tV p.v8],i 10]]]⟩),(some 0,λp s=>let t1:=(U3 (⟨p.H7,rt tV p.w4,rt (tLs tV) p.p5,rt tV p.w5,rt tI p.w6,p.H8,rt tV p.w7⟩:Tol));⟨ra 4 (i 2::.unk::.ptr 1 0 0 0::ra 20 (.sl 0 0 6 0::i 6::i 1::b true::.ptr 0 1 0 0::.agg [.fn 100035 [.v (.string p.H7),eL tV p.w4,eL (tLs tV) p.p5,eL tV p.w5,eL tI p.w6,i p.H8,eL tV p.w7],i 2]::.ptr 1 0 0 0::.fn 100035 [.v (.string p.H7),eL tV p.w4,eL (tLs tV) p.p5,eL tV p.w5,eL tI p.w6,i p.H8,eL tV p.w7]::b t1::b (!t1)::.ptr 1 0 1 0::i 2::.unk::.unk::[])),[bq 77 2 [[.fn 100034 [.v (.string p.H5),eL tV p.u7,eL (tLs tV) p.p4,eL tV p.u9,eL tI p.v7,i p.H6,eL tV p.v8],i 10],[.fn 100035 [.v (.string p.H7),eL tV p.w4,eL (tLs tV) p.p5,eL tV p.w5,eL tI p.w6,i p.H8,eL tV p.w7],i 2],[.fn 100036 [.v (.string p.H9),eL tV p.w8,eL (tLs tV) p.p6,eL tV p.w9,eL tI p.z6,i p.I0,eL tV p.z7],i 3],[.fn 100037 [.v (.string p.I1),eL tV p.z8,eL (tLs tV) p.p7,eL tV p.A0,eL tI p.A1,i p.I4,eL tV p.A2],i 11],[.fn 100038 [.v (.string p.I5),eL tV p.A3,eL (tLs tV) p.p8,eL tV p.A4,eL tI p.A5,i p.I6,eL tV p.A6],i 7],[.fn 100039 [.v (.string p.I7),eL tV p.A7,eL (tLs tV) p.p9,eL tV p.A8,eL tI p.A9,i p.I8,eL tV p.B0],i 15]],bq 0 2 [[.fn 100035 [.v (.string p.H7),eL tV p.w4,eL (tLs tV) p.p5,eL tV p.w5,eL tI p.w6,i p.H8,eL tV p.w7],i 2]]]⟩),(some 0,λp s=>let t1:=(X6 (⟨p.H9,rt tV p.w8,rt (tLs tV) p.p6,rt tV p.w9,rt tI p.z6,p.I0,rt tV p.z7⟩:Tol));⟨ra 4 (i 3::.unk::.ptr 1 0 0 0::ra 20 (.sl 0 0 6 0::i 6::i 2::b true::.ptr 0 2 0 0::.agg [.fn 100036 [.v (.string p.H9),eL tV p.w8,eL (tLs tV) p.p6,eL tV p.w9,eL tI p.z6,i p.I0,eL tV p.z7],i 3]::.ptr 1 0 0 0::.fn 100036 [.v (.string p.H9),eL tV p.w8,eL (tLs tV) p.p6,eL tV p.w9,eL tI p.z6,i p.I0,eL tV p.z7]::b t1::b (!t1)::.ptr 1 0 1 0::i 3::.unk::.unk::[])),[bq 77 2 [[.fn 100034 [.v (.string p.H5),eL tV p.u7,eL (tLs tV) p.p4,eL tV p.u9,eL tI p.v7,i p.H6,eL tV p.v8],i 10],[.fn 100035 [.v (.string p.H7),eL tV p.w4,eL (tLs tV) p.p5,eL tV p.w5,eL tI p.w6,i p.H8,eL tV p.w7],i 2],[.fn 100036 [.v (.string p.H9),eL tV p.w8,eL (tLs tV) p.p6,eL tV p.w9,eL tI p.z6,i p.I0,eL tV p.z7],i 3],[.fn 100037 [.v (.string p.I1),eL tV p.z8,eL (tLs tV) p.p7,eL tV p.A0,eL tI p.A1,i p.I4,eL tV p.A2],i 11],[.fn 100038 [.v (.string p.I5),eL tV p.A3,eL (tLs tV) p.p8,eL tV p.A4,eL tI p.A5,i p.I6,eL tV p.A6],i 7],[.fn 100039 [.v (.string p.I7),eL tV p.A7,eL (tLs tV) p.p9,eL tV p.A8,eL tI p.A9,i p.I8,eL tV p.B0],i 15]],bq 0 2 [[.fn 100036 [.v (.string p.H9),eL tV p.w8,eL (tLs tV) p.p6,eL tV p.w9,eL tI p.z6,i p.I0,eL tV p.z7],i 3]]]⟩),(some 0,λp s=>let t1:=(ba3 (⟨p.I1,rt tV p.z8,rt (tLs tV) p.p7,rt tV p.A0,rt tI p.A1,p.I4,rt tV p.A2⟩:Tol));⟨ra 4 (i 11::.unk::.ptr 1 0 0 0::ra 20 (.sl 0 0 6 0::i 6::i 3::b true::.ptr 0 3 0 0::.agg [.fn 100037 [.v (.string p.I1),eL tV p.z8,eL (tLs tV) p.p7,eL tV p.A0,eL tI p.A1,i p.I4,eL tV p.A2],i 11]::.ptr 1 0 0 0::.fn 100037 [.v (.string p.I1),eL tV p.z8,eL (tLs tV) p.p7,eL tV p.A0,eL tI p.A1,i p.I4,eL tV p.A2]::b t1::b (!t1)::.ptr 1 0 1 0::i 11::.unk::.unk::[])),[bq 77 2 [[.fn 100034 [.v (.string p.H5),eL tV p.u7,eL (tLs tV) p.p4,eL tV p.u9,eL tI p.v7,i p.H6,eL tV p.v8],i 10],[.fn 100035 [.v (.string p.H7),eL tV p.w4,eL (tLs tV) p.p5,eL tV p.w5,eL tI p.w6,i p.H8,eL tV p.w7],i 2],[.fn 100036 [.v (.string p.H9),eL tV p.w8,eL (tLs tV) p.p6,eL tV p.w9,eL tI p.z6,i p.I0,eL tV p.z7],i 3],[.fn 100037 [.v (.string p.I1),eL tV p.z8,eL (tLs tV) p.p7,eL tV p.A0,eL tI p.A1,i p.I4,eL tV p.A2],i 11],[.fn 100038 [.v (.string p.I5),eL tV p.A3,eL (tLs tV) p.p8,eL tV p.A4,eL tI p.A5,i p.I6,eL tV p.A6],i 7],[.fn 100039 [.v (.string p.I7),eL tV p.A7,eL (tLs tV) p.p9,eL tV p.A8,eL tI p.A9,i p.I8,eL tV p.B0],i 15]],bq 0 2 [[.fn 100037 [.v (.string p.I1),eL tV p.z8,eL (tLs tV) p.p7,eL tV p.A0,eL tI p.A1,i p.I4,eL tV p.A2],i 11]]]⟩),(some 0,λp s=>let t1:=(U9 (⟨p.I5,rt tV p.A3,rt (tLs tV) p.p8,rt tV p.A4,rt tI p.A5,p.I6,rt tV p.A6⟩:Tol));⟨ra 4 (i 7::.unk::.ptr 1 0 0 0::ra 20 (.sl 0 0 6 0::i 6::i 4::b true::.ptr 0 4 0 0::.agg [.fn 100038 [.v (.string p.I5),eL tV p.A3,eL (tLs tV) p.p8,eL tV p.A4,eL tI p.A5,i p.I6,eL tV p.A6],i 7]::.ptr 1 0 0 0::.fn 100038 [.v (.string p.I5),eL tV p.A3,eL (tLs tV) p.p8,eL tV p.A4,eL tI p.A5,i p.I6,eL tV p.A6]::b t1::b (!t1)::.ptr 1 0 1 0::i 7::.unk::.unk::[])),[bq 77 2 [[.fn 100034 [.v (.string p.H5),eL tV p.u7,eL (tLs tV) p.p4,eL tV p.u9,eL tI p.v7,i p.H6,eL tV p.v8],i 10],[.fn 100035 [.v (.string p.H7),eL tV p.w4,eL (tLs tV) p.p5,eL tV p.w5,eL tI p.w6,i p.H8,eL tV p.w7],i 2],[.fn 100036 [.v (.string p.H9),eL tV p.w8,eL (tLs tV) p.p6,eL tV p.w9,eL tI p.z6,i p.I0,eL tV p.z7],i 3],[.fn 100037 [.v (.string p.I1),eL tV p.z8,eL (tLs tV) p.p7,eL tV p.A0,eL tI p.A1,i p.I4,eL tV p.A2],i 11],[.fn 100038 [.v (.string p.I5),eL tV p.A3,eL (tLs tV) p.p8,eL tV p.A4,eL tI p.A5,i p.I6,eL tV p.A6],i 7],[.fn 100039 [.v (.string p.I7),eL tV p.A7,eL (tLs tV) p.p9,eL tV p.A8,eL tI p.A9,i p.I8,eL tV p.B0],i 15]],bq 0 2 [[.fn 100038 [.v (.string p.I5),eL tV p.A3,eL (tLs tV) p.p8,eL tV p.A4,eL tI p.A5,i p.I6,eL tV p.A6],i 7]]]⟩),(some 0,λp s=>let t1:=(X8 (⟨p.I7,rt tV p.A7,rt (tLs tV) p.p9,rt tV p.A8,rt tI p.A9,p.I8,rt tV p.B0⟩:Tol));⟨ra 4 (i 15::.unk::.ptr 1 0 0 0::ra 20 (.sl 0 0 6 0::i 6::i 5::b true::.ptr 0 5 0 0::.agg [.fn 100039 [.v (.string p.I7),eL tV p.A7,eL (tLs tV) p.p9,eL tV p.A8,eL tI p.A9,i p.I8,eL tV p.B0],i 15]::.ptr 1 0 0 0::.fn 100039 [.v (.string p.I7),eL tV p.A7,eL (tLs tV) p.p9,eL tV p.A8,eL tI p.A9,i p.I8,eL tV p.B0]::b t1::b (!t1)::.ptr 1 0 1 0::i 15::.unk::.unk::[])),[bq 77 2 [[.fn 100034 [.v (.string p.H5),eL tV p.u7,eL (tLs tV) p.p4,eL tV p.u9,eL tI p.v7,i p.H6,eL tV p.v8],i 10],[.fn 100035 [.v (.string p.H7),eL tV p.w4,eL (tLs tV) p.p5,eL tV p.w5,eL tI p.w6,i p.H8,eL tV p.w7],i 2],[.fn 100036 [.v (.string p.H9),eL tV p.w8,eL (tLs tV) p.p6,eL tV p.w9,eL tI p.z6,i p.I0,eL tV p.z7],i 3],[.fn 100037 [.v (.string p.I1),eL tV p.z8,eL (tLs tV) p.p7,eL tV p.A0,eL tI p.A1,i p.I4,eL tV p.A2],i 11],[.fn 100038 [.v (.string p.I5),eL tV p.A3,eL (tLs tV) p.p8,eL tV p.A4,eL tI p.A5,i p.I6,eL tV p.A6],i 7],[.fn 100039 [.v (.string p.I7),eL tV p.A7,eL (tLs tV) p.p9,eL tV p.A8,eL tI p.A9,i p.I8,eL tV p.B0],i 15]],bq 0 2 [[.fn 100039 [.v (.string p.I7),eL tV p.A7,eL (tLs tV) p.p9,eL tV p.A8,eL tI p.A9,i p.I8,eL tV p.B0],i 15]]]⟩),(some 0,λp s=>upq (ac4 p s) [(30,b false)])],od5⟩
theorem od6:Fb1.Ok:=Qki [] .nil λp s=>(.sel (Nat.beq s.ph 6) (.ofq @ac5) (.sel (Nat.beq s.ph 5) (.ofq @Pa8) (.sel (Nat.beq s.ph 4) (.ofq @Pa7) (.sel (Nat.beq s.ph 3) (.ofq @Pa6) (.sel (Nat.beq s.ph 2) (.ofq @Pa5) (.sel (Nat.beq s.ph 1) (.ofq @Pa4) (.ofq @Pa3)))))))
def fb8(x:Tol):ROq:=let y1:=(rt (tLs tV) x.inn);let y0:=(cnE (tLs tV) x.inn);let t1:=(lp (r8 (⟨x.nm,rt tV x.ou,y1,rt tV x.ho,rt tI x.li,x.ru,rt tV x.fo,x.nm,rt tV x.ou,y1,rt tV x.ho,rt tI x.li,x.ru,rt tV x.fo,x.nm,rt tV x.ou,y1,rt tV x.ho,rt tI x.li,x.ru,rt tV x.fo,x.nm,rt tV x.ou,y1,rt tV x.ho,rt tI x.li,x.ru,rt tV x.fo,x.nm,rt tV x.ou,y1,rt tV x.ho,rt tI x.li,x.ru,rt tV x.fo,x.nm,rt tV x.ou,y1,rt tV x.ho,rt tI x.li,x.ru,rt tV x.fo⟩:n7)) (⟨0⟩:i7));(sl ((cnE tV x.ou)&&(y0&&((cnE tV x.ho)&&((cnE tI x.li)&&((cnE tV x.fo)&&((cnE tV x.ou)&&(y0&&((cnE tV x.ho)&&((cnE tI x.li)&&((cnE tV x.fo)&&((cnE tV x.ou)&&(y0&&((cnE tV x.ho)&&((cnE tI x.li)&&((cnE tV x.fo)&&((cnE tV x.ou)&&(y0&&((cnE tV x.ho)&&((cnE tI x.li)&&((cnE tV x.fo)&&((cnE tV x.ou)&&(y0&&((cnE tV x.ho)&&((cnE tI x.li)&&((cnE tV x.fo)&&((cnE tV x.ou)&&(y0&&((cnE tV x.ho)&&((cnE tI x.li)&&((cnE tV x.fo)&&true)))))))))))))))))))))))))))))) (sl (Nat.beq t1.1 1) (some (i 10,[])) (sl (Nat.beq t1.1 2) (some (i 2,[])) (sl (Nat.beq t1.1 3) (some (i 3,[])) (sl (Nat.beq t1.1 4) (some (i 11,[])) (sl (Nat.beq t1.1 5) (some (i 7,[])) (sl (Nat.beq t1.1 6) (some (i 15,[])) (sl (Nat.beq t1.1 7) (some (i 0,[])) none))))))) none)
def fb9(x:Tol):Int:=G5 (one r1I) (fb8 x)
def gb0(x:Tol):Bool:=okO (one r1I) (fb8 x)
def Sc3:Sum:=G4 cT (λx=>.guard (gb0 x) (.ret ((one r1I).enc (fb9 x),[])))
theorem Dc1:e7 prog G 13 Sc3:=kc5 (bd b13 Gd8) (one r1I) (o:=fb8) λx=>O4 (.s .p (.s .p (.s .p (.s .p (.s (.s .p (.b (.u Fb1.ls))) .p))))) [Fb1.pr] (.cons od6 .nil)
structure Fb2 where
 (is0 c9:Int)
def Fb4{α:Type}(kk:rb9->α)(x:Fb2):α:=(kk ⟨decide (x.c9<x.is0)⟩)
def Fb5(x:Fb2):rb9:=Fb4 (λr=>r) x
def ic7(x:Fb2)(r:rb9):DT (a7×List b7):=.ret (b r.bs0,[bq 0 1 [[i x.c9]]])
def sc0:Sum:=Aa7 ⟨[sIq,sPq 0],[⟨0,1,true,some [[.o (.int .i64)]]⟩],λa H=>(⟨aIq a 0,hIq H 0 0 0⟩,())⟩ (λx=>ic7 x (Fb5 x))
theorem od7:e7 prog G 46 sc0:=s8 (enc:=λx=>⟨[i x.is0,.ptr 0 0 0 0],[bq 0 1 [[i x.c9]]]⟩) (λa H=>by kernel_rfl) (bd b46 Ra4) λx=>ka3 (mEq @Fb4 (λr=>(ic7 x r).run) x)
structure Aa3 where
 Na8:List Int
 c9:Int
def Va8:List (Nat×Sum):=[(46,sc0)]
theorem Jb5:j8 prog G Va8:=⟨od7,trivial⟩
structure N0 where
 Na8:List Int
 (is7 c9:Int)
def Na2(p:N0)(s:fa7):St:=⟨eL tI p.Na8::.fn 46 [.ptr 0 0 0 0]::ra 5 (i p.is7::i s.is8::ra 10 []),[bq 0 1 [[i p.c9]]]⟩
def S6{α:Type}(k:fa7->α)(e:Nat->α)(z:α)(p:N0)(s:fa7):α:=let t1:=(Fb5 ⟨gL tI p.Na8 s.is8.toNat,p.c9⟩);(sl (decide (s.is8<p.is7)) (sl (inB s.is8 (List.length p.Na8)) (sl t1.bs0 (e 1) (k ⟨W (s.is8+1)⟩)) z) (e 2))
def L2(p:N0)(s:fa7):Stp fa7:=S6 .next .exit .fail p s
def pa6:Lo N0 fa7:=⟨En Va8,1,Cf7,[1,0,1,4,4],[0,1,7,8],.p,[⟨sLq tI::.fn 46 [.o (.ptr 0 0 0 0)]::ru2 5 (sIq::sIq::ru2 10 []),[⟨0,1,true,some [[.o (.int .i64)]]⟩],λa H=>(⟨aLq tI a 0,aIq a 7,hIq H 0 0 0⟩,⟨aIq a 8⟩)⟩],L2,[(none,λp s=>⟨[i s.is8],[bq 0 1 [[i p.c9]]]⟩),(some 0,λp s=>upq (Na2 p s) [(9,b (decide (s.is8<p.is7)))])],Na2⟩
theorem Fb6:pa6.Ok:=Qki [] .nil λp s=>(.ofq @S6)
def Aa5{α:Type}(kk:wa7->α)(x:Aa3):α:=let t1:=(lp (L2 (⟨rt tI x.Na8,(↑(List.length x.Na8):Int),x.c9⟩:N0)) (⟨0⟩:fa7));(sl ((cnE tI x.Na8)&&true) (sl (Nat.beq t1.1 1) (kk ⟨1,t1.2.is8⟩) (sl (Nat.beq t1.1 2) (kk ⟨1,-1⟩) (kk ⟨0,0⟩))) (kk ⟨0,0⟩))
def da9(x:Aa3):wa7:=Aa5 (λr=>r) x
def Va9(x:Aa3)(r:wa7):DT (a7×List b7):=(Da1 r.alt 1 (i r.is0,[bq 0 1 [[i x.c9]]]) .fail)
def bb1:Sum:=Aa7 ⟨[sLq tI,.fn 46 [.o (.ptr 0 0 0 0)]],[⟨0,1,true,some [[.o (.int .i64)]]⟩],λa H=>(⟨aLq tI a 0,hIq H 0 0 0⟩,())⟩ (λx=>Va9 x (da9 x))
theorem Tb0:e7 prog G 45 bb1:=s8 (enc:=λx=>⟨[eL tI x.Na8,.fn 46 [.ptr 0 0 0 0]],[bq 0 1 [[i x.c9]]]⟩) (λa H=>by kernel_rfl) (bd b45 Jb5) λx=>O4 (.s .p (.s (.s .p (.b (.u pa6.ls))) .p)) [pa6.pr] (.cons Fb6 .nil) (mEq @Aa5 (λr=>(Va9 x r).run) x)
def Md6:List (Nat×Sum):=[(13,Sc3),(45,bb1)]
theorem Hd1:j8 prog G Md6:=⟨Dc1,Tb0,trivial⟩
def gb1(x:Tol)(y:Int):ROq:=let y0:=(⟨x.nm,rt tV x.ou,rt (tLs tV) x.inn,rt tV x.ho,rt tI x.li,x.ru,rt tV x.fo⟩:Tol);let t1:=(fb9 y0);let t2:=(da9 ⟨rt tI x.li,y⟩);(sl ((okE tV x.ou)&&((okE (tLs tV) x.inn)&&((okE tV x.ho)&&((okE tI x.li)&&((okE tV x.fo)&&true))))) (sl (gb0 y0) (sl (t1 != 0) (some (.tup [i 0,b false],[])) (sl (decide (y<0)) (some (.tup [i 0,b false],[])) (sl ((cnE tI x.li)&&true) (sl (Nat.beq t2.alt 1) (some ((.tup [(i (if 0>t2.is0 then 0 else t2.is0)),b (decide (t2.is0>=0))]),[])) none) none))) none) none)
def Pa9(x:Tol)(y:Int):Int×Bool:=G5 (two r1I r1B) (gb1 x y)
def Qa0(x:Tol)(y:Int):Bool:=okO (two r1I r1B) (gb1 x y)
def fc4:Sum:=fa5 cT cI (λx y=>.guard (Qa0 x y) (.ret ((two r1I r1B).enc (Pa9 x y),[])))
theorem Dc2:e7 prog G 16 fc4:=Lb0 (bd b16 Hd1) (two r1I r1B) (o:=gb1)
theorem ff1:lb8 []=Ga9 []/\lb9 []=true:=by
 have h:Ta8 []=some (.tup [.v (.slice none 0 0),i 11],[]):=by
  unfold Ta8;simp only[g8,B7,i5,Rc4 [] (by simp),Rc3 [] (by simp),Rc6]
  rfl
 unfold lb8 lb9 Ga9;rw[h,Rc6];exact⟨rfl,rfl⟩
theorem Rf2:sb7 []=ta7 []/\sb8 []=true:=by
 have h:Ea2 []=some (.tup [.v (.slice none 0 0),i 11],[]):=by
  unfold Ea2;simp only[g8,B7,i5,ff1.1,ff1.2,Ga9,Rc6];rfl
 unfold sb7 sb8 ta7;rw[h,Rc6];exact⟨rfl,rfl⟩
theorem He4{α:Type}{f:Nat}{c:Cod α}{k kA kB:α->DT (a7×List b7)}(hA:e7 prog G f (G4 c kA))(hB:e7 prog G f (G4 c kB))
  (h:∀a r,(k a).run=some r->(kA a).run=some r\/(kB a).run=some r):e7 prog G f (G4 c k):=λargs blks r out he=>by
 unfold G4 at he
 split at he
 ·rename_i x;cases hd:c.dec x with
  |none=>rw[hd] at he;cases he
  |some a =>
   rw[hd] at he;obtain⟨h1,h2⟩:=DT.run_guard_some (show (DT.guard (c.grd x) (k a)).run=some (r,out) from he)
   rcases h a _ h2 with q|q
   ·refine hA [x] [] r out ?_;show (onO (c.dec x) λa=>DT.guard (c.grd x) (kA a)).run=_
    rw[hd];show (DT.guard (c.grd x) (kA a)).run=_;rw[h1];exact q
   ·refine hB [x] [] r out ?_;show (onO (c.dec x) λa=>DT.guard (c.grd x) (kB a)).run=_
    rw[hd];show (DT.guard (c.grd x) (kB a)).run=_;rw[h1];exact q
 ·cases he
def ub2(l:List V3):List V3×Int:=ta7 l
def ub3(l:List V3):Bool:=decide (l.length<=900000)
def ic8:Sum:=G4 (Oa4 tV) λl=>.guard (ub3 l) (.ret ((two (r1L tV) r1I).enc (ub2 l),[]))
theorem dd3:e7 prog G 53 ic8:=He4 cd4 ad7 λl r hr=>by
 obtain⟨hg,hr⟩:=DT.run_guard_some hr;cases l with
 |nil=>right;rw[Rf2.1,Rf2.2];exact hr
 |cons a c =>
  left
  have:=of_decide_eq_true hg
  rw[show ic5 (a::c)=true from decide_eq_true ⟨by simp,this⟩]
  exact hr
def vb1{α:Type}(kk:Ya7->α)(x:List V3):α:=let y0:=(List.range (List.length x));(sl ((!(Nat.beq (List.length x) 0))&&true) (sl (Nat.beq 0 0&&Nat.ble ((0+(len (l6 (λk=>(tV).row (gL tV x k)) y0)))*24) room) (kk ⟨1,(0+(len (l6 (λk=>(tV).row (gL tV x k)) y0))),(app [] (l6 (λk=>(tV).row (gL tV x k)) y0))⟩) (kk ⟨0,0,[]⟩)) (kk ⟨0,0,[]⟩))
def V5(x:List V3):Ya7:=vb1 (λr=>r) x
def pb1(r:Ya7):DT (a7×List b7):=(Da1 r.alt 1 (.sl 0 0 r.ns0 0,[bq 52 3 r.eh0]) .fail)
def vb2:Sum:=G4 (Oa4 tV) (λx=>pb1 (V5 x))
theorem sc1:e7 prog G 47 vb2:=vc9 (bd b47 Ra4) λx=>ka3 (mEq @vb1 (λr=>(pb1 r).run) x)
def Fb7{α:Type}(kk:Ya7->α)(x:List Int):α:=let y0:=(List.range (List.length x));(sl ((!(Nat.beq (List.length x) 0))&&true) (sl (Nat.beq 0 0&&Nat.ble ((0+(len (l6 (λk=>(tI).row (gL tI x k)) y0)))*8) room) (kk ⟨1,(0+(len (l6 (λk=>(tI).row (gL tI x k)) y0))),(app [] (l6 (λk=>(tI).row (gL tI x k)) y0))⟩) (kk ⟨0,0,[]⟩)) (kk ⟨0,0,[]⟩))
def Fb8(x:List Int):Ya7:=Fb7 (λr=>r) x
def vb3(r:Ya7):DT (a7×List b7):=(Da1 r.alt 1 (.sl 0 0 r.ns0 0,[bq 3 1 r.eh0]) .fail)
def Fb9:Sum:=G4 (Oa4 tI) (λx=>vb3 (Fb8 x))
theorem zc4:e7 prog G 48 Fb9:=vc9 (bd b48 Ra4) λx=>ka3 (mEq @Fb7 (λr=>(vb3 r).run) x)
def Sc4:List (Nat×Sum):=[(16,fc4),(47,vb2),(48,Fb9)]
theorem Md7:j8 prog G Sc4:=⟨Dc2,sc1,zc4,trivial⟩
structure Z6 where
 is6:Int
 vf2:Nat
 vf3:Nat->List a7
 N2:Int
 mb5:ByteArray
 Ga1:List V3
 N4:List (List V3)
 Ga2:List V3
 J7:List Int
 mb6:Int
 Ga3:List V3
 yc1:ByteArray
structure L6 where
 ph:Nat
 qd2:Int
 ns8:Nat
 eh2:List (List a7)
def ic9(p:Z6)(s:L6):St:=⟨.unk::.unk::.ptr 0 0 0 0::.unk::.ptr 1 0 0 0::.unk::i p.is6::.unk::nlq::ra 14 (.tree 1 p.vf2 p.vf3::i p.N2::i s.qd2::ra 30 []),[bq 0 7 [[.v (.string p.mb5),eL tV p.Ga1,eL (tLs tV) p.N4,eL tV p.Ga2,eL tI p.J7,i p.mb6,eL tV p.Ga3]],bq 0 7 [[.v (.string p.yc1),nlq,nlq,nlq,nlq,i 0,nlq]]]⟩
def jc0(p:Z6)(s:L6):St:=⟨.unk::.unk::.ptr 0 0 0 0::.unk::.ptr 1 0 0 0::.unk::i p.is6::.unk::.sl 2 0 s.ns8 0::ra 14 (.tree 1 p.vf2 p.vf3::i p.N2::i s.qd2::ra 30 []),[bq 0 7 [[.v (.string p.mb5),eL tV p.Ga1,eL (tLs tV) p.N4,eL tV p.Ga2,eL tI p.J7,i p.mb6,eL tV p.Ga3]],bq 0 7 [[.v (.string p.yc1),nlq,nlq,nlq,nlq,i 0,nlq]],bq 25 1 s.eh2]⟩
def Hd2(p:Z6)(s:L6):St:=(sel (Nat.beq s.ph 1) (jc0 p s) (ic9 p s))
def jc1{α:Type}(k:L6->α)(e:Nat->α)(z:α)(p:Z6)(s:L6):α:=let y0:=(p.vf3 s.qd2.toNat);let t1:=(V5 (lsL tV (toN (hdA y0)) (toG (hdA y0))));(sl (decide (s.qd2<p.N2)) (sl (inB s.qd2 p.vf2) (sl ((Nat.ble 1 (len y0))&&(bb3 [CK.sl 3] y0)) (sl (okL tV (toN (hdA y0)) (toG (hdA y0))) (sl (Nat.beq t1.alt 1) (k ⟨1,W (s.qd2+1),1,[[(.tree 3 t1.ns0 (λk=>j9 t1.eh0 (0+k)))]]⟩) z) z) z) z) (e 1))
def jc2{α:Type}(k:L6->α)(e:Nat->α)(z:α)(p:Z6)(s:L6):α:=let y0:=(p.vf3 s.qd2.toNat);let t1:=(V5 (lsL tV (toN (hdA y0)) (toG (hdA y0))));(sl (decide (s.qd2<p.N2)) (sl (inB s.qd2 p.vf2) (sl ((Nat.ble 1 (len y0))&&(bb3 [CK.sl 3] y0)) (sl (okL tV (toN (hdA y0)) (toG (hdA y0))) (sl (Nat.beq t1.alt 1) (sl (Nat.beq s.ns8 (len s.eh2)&&Nat.ble ((s.ns8+1)*24) room) (k ⟨1,W (s.qd2+1),s.ns8+1,(app s.eh2 [[(.tree 3 t1.ns0 (λk=>j9 t1.eh0 (0+k)))]])⟩) z) z) z) z) z) (e 2))
def Na3(p:Z6)(s:L6):Stp L6:=(sel (Nat.beq s.ph 1) (jc2 .next .exit .fail p s) (jc1 .next .exit .fail p s))
def Tb1:Lo Z6 L6:=⟨En Sc4,0,Lf6,[1,1,1,1,0,1,4,4],[2,4,6,8,23,24,25],.p,[⟨sUq::sUq::sPq 0::sUq::sPq 1::sUq::sIq::sUq::.s (.o .nil)::ru2 14 (sTq 1::sIq::sIq::ru2 30 []),[⟨0,7,true,some [[.o .val,.c 3 (nL tV),.c 1 (nL (tLs tV)),.c 3 (nL tV),.c 1 (nL tI),.o (.int .i64),.c 3 (nL tV)]]⟩,⟨0,7,true,some [[.o .val,.o .nil,.o .nil,.o .nil,.o .nil,.o (.lit .i64 0),.o .nil]]⟩],λa H=>(⟨aIq a 6,aNq a 23,aGq a 23,aIq a 24,Z9 (slT (rwT (elT H 0) 0) 0),hLq tV H 0 0 1,hLq (tLs tV) H 0 0 2,hLq tV H 0 0 3,hLq tI H 0 0 4,hIq H 0 0 5,hLq tV H 0 0 6,Z9 (slT (rwT (elT H 1) 0) 0)⟩,⟨0,aIq a 25,0,[]⟩)⟩,⟨sUq::sUq::sPq 0::sUq::sPq 1::sUq::sIq::sUq::.s (.o (.sl 2 0 (some 0) none))::ru2 14 (sTq 1::sIq::sIq::ru2 30 []),[⟨0,7,true,some [[.o .val,.c 3 (nL tV),.c 1 (nL (tLs tV)),.c 3 (nL tV),.c 1 (nL tI),.o (.int .i64),.c 3 (nL tV)]]⟩,⟨0,7,true,some [[.o .val,.o .nil,.o .nil,.o .nil,.o .nil,.o (.lit .i64 0),.o .nil]]⟩,⟨25,1,true,none⟩],λa H=>(⟨aIq a 6,aNq a 23,aGq a 23,aIq a 24,Z9 (slT (rwT (elT H 0) 0) 0),hLq tV H 0 0 1,hLq (tLs tV) H 0 0 2,hLq tV H 0 0 3,hLq tI H 0 0 4,hIq H 0 0 5,hLq tV H 0 0 6,Z9 (slT (rwT (elT H 1) 0) 0)⟩,⟨1,aIq a 25,slN (slT a 8),elT H 2⟩)⟩],Na3,[(some 0,λp s=>upq (ic9 p s) [(26,b (decide (s.qd2<p.N2)))]),(some 0,λp s=>upq (jc0 p s) [(26,b (decide (s.qd2<p.N2)))])],Hd2⟩
theorem Hd3:Tb1.Ok:=Qki [] .nil λp s=>(.sel (Nat.beq s.ph 1) (.ofq @jc2) (.ofq @jc1))
def pb2(x:Tol)(y:Int):ROq:=let y2:=(List.length x.inn);let y1:=(List.length (rt tI x.li));let y0:=(⟨x.nm,rt tV x.ou,rt (tLs tV) x.inn,rt tV x.ho,rt tI x.li,x.ru,rt tV x.fo⟩:Tol);let t1:=(Pa9 y0 y);let t2:=(lp (Na3 (⟨t1.1,y2-t1.1.toNat,(λk=>(λk=>(tLs tV).row (gL (tLs tV) x.inn k)) (t1.1.toNat+k)),(↑(y2-t1.1.toNat):Int),x.nm,rt tV x.ou,rt (tLs tV) x.inn,rt tV x.ho,rt tI x.li,x.ru,rt tV x.fo,⟨#[]⟩⟩:Z6)) (⟨0,0,0,[]⟩:L6));let t3:=(Fb8 (lsL tI (y1-t1.1.toNat) (λk=>(λk=>(tI).row (gL tI (rt tI x.li) k)) (t1.1.toNat+k))));let t4:=(V5 (rt tV (rt tV x.ou)));let t5:=(V5 (rt tV (rt tV x.ho)));let t6:=(V5 (rt tV (rt tV x.fo)));(sl ((okE tV x.ou)&&((okE (tLs tV) x.inn)&&((okE tV x.ho)&&((okE tI x.li)&&((okE tV x.fo)&&true))))) (sl (Qa0 y0 y) (sl (!t1.2) (some ((.tup [(.agg [(.v (.string ⟨#[]⟩)),nlq,nlq,nlq,nlq,i 0,nlq]),b false]),[])) (sl (inB t1.1 (y2+1)) (sl ((cnE tV x.ou)&&((cnE (tLs tV) x.inn)&&((cnE tV x.ho)&&((cnE tI x.li)&&((cnE tV x.fo)&&true))))) (sl (Nat.beq t2.1 1) (sl (inB t1.1 (y1+1)) (sl (okL tI (y1-t1.1.toNat) (λk=>(λk=>(tI).row (gL tI (rt tI x.li) k)) (t1.1.toNat+k))) (sl (Nat.beq t3.alt 1) (sl (okE tV (rt tV x.ou)) (sl (Nat.beq t4.alt 1) (sl (okE tV (rt tV x.ho)) (sl (Nat.beq t5.alt 1) (sl (okE tV (rt tV x.fo)) (sl (Nat.beq t6.alt 1) (some ((.tup [(.agg [.v (.string x.nm),(.tree 3 t4.ns0 (λk=>j9 t4.eh0 (0+k))),(.tree 1 0 (λ_=>[])),(.tree 3 t5.ns0 (λk=>j9 t5.eh0 (0+k))),(.tree 1 t3.ns0 (λk=>j9 t3.eh0 (0+k))),i x.ru,(.tree 3 t6.ns0 (λk=>j9 t6.eh0 (0+k)))]),b true]),[])) none) none) none) none) none) none) none) none) none) (sl (Nat.beq t2.1 2) (sl (inB t1.1 (y1+1)) (sl (okL tI (y1-t1.1.toNat) (λk=>(λk=>(tI).row (gL tI (rt tI x.li) k)) (t1.1.toNat+k))) (sl (Nat.beq t3.alt 1) (sl (okE tV (rt tV x.ou)) (sl (Nat.beq t4.alt 1) (sl (okE tV (rt tV x.ho)) (sl (Nat.beq t5.alt 1) (sl (okE tV (rt tV x.fo)) (sl (Nat.beq t6.alt 1) (some ((.tup [(.agg [.v (.string x.nm),(.tree 3 t4.ns0 (λk=>j9 t4.eh0 (0+k))),(.tree 1 t2.2.ns8 (λk=>j9 t2.2.eh2 (0+k))),(.tree 3 t5.ns0 (λk=>j9 t5.eh0 (0+k))),(.tree 1 t3.ns0 (λk=>j9 t3.eh0 (0+k))),i x.ru,(.tree 3 t6.ns0 (λk=>j9 t6.eh0 (0+k)))]),b true]),[])) none) none) none) none) none) none) none) none) none) none)) none) none)) none) none)
def sa9(x:Tol)(y:Int):Tol×Bool:=G5 (two r1T r1B) (pb2 x y)
def Nb1(x:Tol)(y:Int):Bool:=okO (two r1T r1B) (pb2 x y)
def pe1:Sum:=fa5 cT cI (λx y=>.guard (Nb1 x y) (.ret ((two r1T r1B).enc (sa9 x y),[])))
theorem ce5:e7 prog G 18 pe1:=Wc6 (bd b18 Md7) (two r1T r1B) (o:=pb2) λx y=>O4 (.s .p (.s .p (.s .p (.s .p (.s (.s .p (.b (.u Tb1.ls))) .p))))) [Tb1.pr] (.cons Hd3 .nil)
def sc2{α:Type}(kk:rb9->α)(x:Fb2):α:=(kk ⟨decide ((W ((W (2*(W (x.is0+1))))*(W (x.is0+1))))>(W (x.c9*x.c9)))⟩)
def Gb2(x:Fb2):rb9:=sc2 (λr=>r) x
def jc3(x:Fb2)(r:rb9):DT (a7×List b7):=.ret (b r.bs0,[bq 0 1 [[i x.c9]]])
def sc3:Sum:=Aa7 ⟨[sIq,sPq 0],[⟨0,1,true,some [[.o (.int .i64)]]⟩],λa H=>(⟨aIq a 0,hIq H 0 0 0⟩,())⟩ (λx=>jc3 x (Gb2 x))
theorem od8:e7 prog G 50 sc3:=s8 (enc:=λx=>⟨[i x.is0,.ptr 0 0 0 0],[bq 0 1 [[i x.c9]]]⟩) (λa H=>by kernel_rfl) (bd b50 Ra4) λx=>ka3 (mEq @sc2 (λr=>(jc3 x r).run) x)
def sc4{α:Type}(kk:rb9->α)(x:Fb2):α:=(kk ⟨decide ((W ((W (2*x.c9))*x.c9))<=(W ((W (x.c9+x.is0))*(W (x.c9+x.is0)))))⟩)
def Gb5(x:Fb2):rb9:=sc4 (λr=>r) x
def jc4(x:Fb2)(r:rb9):DT (a7×List b7):=.ret (b r.bs0,[bq 0 1 [[i x.c9]]])
def sc5:Sum:=Aa7 ⟨[sIq,sPq 0],[⟨0,1,true,some [[.o (.int .i64)]]⟩],λa H=>(⟨aIq a 0,hIq H 0 0 0⟩,())⟩ (λx=>jc4 x (Gb5 x))
theorem od9:e7 prog G 51 sc5:=s8 (enc:=λx=>⟨[i x.is0,.ptr 0 0 0 0],[bq 0 1 [[i x.c9]]]⟩) (λa H=>by kernel_rfl) (bd b51 Ra4) λx=>ka3 (mEq @sc4 (λr=>(jc4 x r).run) x)
structure Gb6 where
 (is0 c9 Z7:Int)
def sc6{α:Type}(kk:rb9->α)(x:Gb6):α:=(kk ⟨decide ((W ((W (x.c9*x.c9))+(W (x.Z7*x.Z7))))<=(W ((W (x.c9+x.is0))*(W (x.c9+x.is0)))))⟩)
def Gb8(x:Gb6):rb9:=sc6 (λr=>r) x
def jc5(x:Gb6)(r:rb9):DT (a7×List b7):=.ret (b r.bs0,[bq 0 1 [[i x.c9]],bq 0 1 [[i x.Z7]]])
def sc7:Sum:=Aa7 ⟨[sIq,sPq 0,sPq 1],[⟨0,1,true,some [[.o (.int .i64)]]⟩,⟨0,1,true,some [[.o (.int .i64)]]⟩],λa H=>(⟨aIq a 0,hIq H 0 0 0,hIq H 1 0 0⟩,())⟩ (λx=>jc5 x (Gb8 x))
theorem pd0:e7 prog G 52 sc7:=s8 (enc:=λx=>⟨[i x.is0,.ptr 0 0 0 0,.ptr 1 0 0 0],[bq 0 1 [[i x.c9]],bq 0 1 [[i x.Z7]]]⟩) (λa H=>by kernel_rfl) (bd b52 Ra4) λx=>ka3 (mEq @sc6 (λr=>(jc5 x r).run) x)
structure Tb2 where
 c9:Int
def sc8:List (Nat×Sum):=[(50,sc3)]
theorem pd1:j8 prog G sc8:=⟨od8,trivial⟩
def dd4(p:Tb2)(s:db3):St:=⟨.fn 50 [.ptr 0 0 0 0]::.unk::.unk::i s.is3::ra 7 [],[bq 0 1 [[i p.c9]]]⟩
def Nb2{α:Type}(k:db3->α)(e:Nat->α)(z:α)(p:Tb2)(s:db3):α:=let t1:=(Gb2 ⟨s.is3,p.c9⟩);(sl (!t1.bs0) (k ⟨W (s.is3+1)⟩) (e 1))
def ka0(p:Tb2)(s:db3):Stp db3:=Nb2 .next .exit .fail p s
def ub4:Lo Tb2 db3:=⟨En sc8,1,nf8,[1,1,0,4,4],[0,3],.p,[⟨.fn 50 [.o (.ptr 0 0 0 0)]::sUq::sUq::sIq::ru2 7 [],[⟨0,1,true,some [[.o (.int .i64)]]⟩],λa H=>(⟨hIq H 0 0 0⟩,⟨aIq a 3⟩)⟩],ka0,[(some 0,λp s=>let t1:=(Gb2 ⟨s.is3,p.c9⟩);⟨.fn 50 [.ptr 0 0 0 0]::.unk::.unk::i s.is3::.fn 50 [.ptr 0 0 0 0]::i s.is3::b t1.bs0::b (!t1.bs0)::ra 3 [],[bq 0 1 [[i p.c9]]]⟩)],dd4⟩
theorem dd5:ub4.Ok:=Qki [] .nil λp s=>(.ofq @Nb2)
def Tb4{α:Type}(kk:wa7->α)(x:Tb2):α:=let t1:=(lp (ka0 (⟨x.c9⟩:Tb2)) (⟨0⟩:db3));(sl (Nat.beq t1.1 1) (kk ⟨1,t1.2.is3⟩) (kk ⟨0,0⟩))
def Wa0(x:Tb2):wa7:=Tb4 (λr=>r) x
def sc9(x:Tb2)(r:wa7):DT (a7×List b7):=(Da1 r.alt 1 (i r.is0,[bq 0 1 [[i x.c9]]]) .fail)
def Dc3:Sum:=Aa7 ⟨[.fn 50 [.o (.ptr 0 0 0 0)]],[⟨0,1,true,some [[.o (.int .i64)]]⟩],λa H=>(⟨hIq H 0 0 0⟩,())⟩ (λx=>sc9 x (Wa0 x))
theorem Hd4:e7 prog G 49 Dc3:=s8 (enc:=λx=>⟨[.fn 50 [.ptr 0 0 0 0]],[bq 0 1 [[i x.c9]]]⟩) (λa H=>by kernel_rfl) (bd b49 pd1) λx=>O4 (.s .p (.s .p (.s (.b (.u ub4.ls)) .p))) [ub4.pr] (.cons dd5 .nil) (mEq @Tb4 (λr=>(sc9 x r).run) x)
def tc0:List (Nat×Sum):=[(51,sc5)]
theorem pd2:j8 prog G tc0:=⟨od9,trivial⟩
def dd6(p:Tb2)(s:db3):St:=⟨.fn 51 [.ptr 0 0 0 0]::.unk::.unk::i s.is3::ra 7 [],[bq 0 1 [[i p.c9]]]⟩
def Nb3{α:Type}(k:db3->α)(e:Nat->α)(z:α)(p:Tb2)(s:db3):α:=let t1:=(Gb5 ⟨s.is3,p.c9⟩);(sl (!t1.bs0) (k ⟨W (s.is3+1)⟩) (e 1))
def ka1(p:Tb2)(s:db3):Stp db3:=Nb3 .next .exit .fail p s
def ub5:Lo Tb2 db3:=⟨En tc0,1,nf8,[1,1,0,4,4],[0,3],.p,[⟨.fn 51 [.o (.ptr 0 0 0 0)]::sUq::sUq::sIq::ru2 7 [],[⟨0,1,true,some [[.o (.int .i64)]]⟩],λa H=>(⟨hIq H 0 0 0⟩,⟨aIq a 3⟩)⟩],ka1,[(some 0,λp s=>let t1:=(Gb5 ⟨s.is3,p.c9⟩);⟨.fn 51 [.ptr 0 0 0 0]::.unk::.unk::i s.is3::.fn 51 [.ptr 0 0 0 0]::i s.is3::b t1.bs0::b (!t1.bs0)::ra 3 [],[bq 0 1 [[i p.c9]]]⟩)],dd6⟩
theorem dd7:ub5.Ok:=Qki [] .nil λp s=>(.ofq @Nb3)
def Tb7{α:Type}(kk:wa7->α)(x:Tb2):α:=let t1:=(lp (ka1 (⟨x.c9⟩:Tb2)) (⟨0⟩:db3));(sl (Nat.beq t1.1 1) (kk ⟨1,t1.2.is3⟩) (kk ⟨0,0⟩))
def Wa1(x:Tb2):wa7:=Tb7 (λr=>r) x
def tc1(x:Tb2)(r:wa7):DT (a7×List b7):=(Da1 r.alt 1 (i r.is0,[bq 0 1 [[i x.c9]]]) .fail)
def Dc4:Sum:=Aa7 ⟨[.fn 51 [.o (.ptr 0 0 0 0)]],[⟨0,1,true,some [[.o (.int .i64)]]⟩],λa H=>(⟨hIq H 0 0 0⟩,())⟩ (λx=>tc1 x (Wa1 x))
theorem Hd5:e7 prog G 49 Dc4:=s8 (enc:=λx=>⟨[.fn 51 [.ptr 0 0 0 0]],[bq 0 1 [[i x.c9]]]⟩) (λa H=>by kernel_rfl) (bd b49 pd2) λx=>O4 (.s .p (.s .p (.s (.b (.u ub5.ls)) .p))) [ub5.pr] (.cons dd7 .nil) (mEq @Tb7 (λr=>(tc1 x r).run) x)
structure Tb8 where
 (c9 Z7:Int)
def tc2:List (Nat×Sum):=[(52,sc7)]
theorem pd3:j8 prog G tc2:=⟨pd0,trivial⟩
def dd8(p:Tb8)(s:db3):St:=⟨.fn 52 [.ptr 0 0 0 0,.ptr 1 0 0 0]::.unk::.unk::i s.is3::ra 7 [],[bq 0 1 [[i p.c9]],bq 0 1 [[i p.Z7]]]⟩
def Nb4{α:Type}(k:db3->α)(e:Nat->α)(z:α)(p:Tb8)(s:db3):α:=let t1:=(Gb8 ⟨s.is3,p.c9,p.Z7⟩);(sl (!t1.bs0) (k ⟨W (s.is3+1)⟩) (e 1))
def ka2(p:Tb8)(s:db3):Stp db3:=Nb4 .next .exit .fail p s
def ub6:Lo Tb8 db3:=⟨En tc2,2,nf8,[1,1,0,4,4],[0,3],.p,[⟨.fn 52 [.o (.ptr 0 0 0 0),.o (.ptr 1 0 0 0)]::sUq::sUq::sIq::ru2 7 [],[⟨0,1,true,some [[.o (.int .i64)]]⟩,⟨0,1,true,some [[.o (.int .i64)]]⟩],λa H=>(⟨hIq H 0 0 0,hIq H 1 0 0⟩,⟨aIq a 3⟩)⟩],ka2,[(some 0,λp s=>let t1:=(Gb8 ⟨s.is3,p.c9,p.Z7⟩);⟨.fn 52 [.ptr 0 0 0 0,.ptr 1 0 0 0]::.unk::.unk::i s.is3::.fn 52 [.ptr 0 0 0 0,.ptr 1 0 0 0]::i s.is3::b t1.bs0::b (!t1.bs0)::ra 3 [],[bq 0 1 [[i p.c9]],bq 0 1 [[i p.Z7]]]⟩)],dd8⟩
theorem dd9:ub6.Ok:=Qki [] .nil λp s=>(.ofq @Nb4)
def Ub0{α:Type}(kk:wa7->α)(x:Tb8):α:=let t1:=(lp (ka2 (⟨x.c9,x.Z7⟩:Tb8)) (⟨0⟩:db3));(sl (Nat.beq t1.1 1) (kk ⟨1,t1.2.is3⟩) (kk ⟨0,0⟩))
def Wa2(x:Tb8):wa7:=Ub0 (λr=>r) x
def tc3(x:Tb8)(r:wa7):DT (a7×List b7):=(Da1 r.alt 1 (i r.is0,[bq 0 1 [[i x.c9]],bq 0 1 [[i x.Z7]]]) .fail)
def Dc5:Sum:=Aa7 ⟨[.fn 52 [.o (.ptr 0 0 0 0),.o (.ptr 1 0 0 0)]],[⟨0,1,true,some [[.o (.int .i64)]]⟩,⟨0,1,true,some [[.o (.int .i64)]]⟩],λa H=>(⟨hIq H 0 0 0,hIq H 1 0 0⟩,())⟩ (λx=>tc3 x (Wa2 x))
theorem Hd6:e7 prog G 49 Dc5:=s8 (enc:=λx=>⟨[.fn 52 [.ptr 0 0 0 0,.ptr 1 0 0 0]],[bq 0 1 [[i x.c9]],bq 0 1 [[i x.Z7]]]⟩) (λa H=>by kernel_rfl) (bd b49 pd3) λx=>O4 (.s .p (.s .p (.s (.b (.u ub6.ls)) .p))) [ub6.pr] (.cons dd9 .nil) (mEq @Ub0 (λr=>(tc3 x r).run) x)
def Dc6:Sum:=Ue4 (λl=>match l with | [.fn n _]=>Nat.beq n 50 | _=>false) Dc3 (Ue4 (λl=>match l with | [.fn n _]=>Nat.beq n 51 | _=>false) Dc4 Dc5)
theorem Hd7:e7 prog G 49 Dc6:=Xd8 Hd4 (Xd8 Hd5 Hd6)
structure zb1 where
 (c9 d9 e8 Nb8 Nb9 sd6 sd7 sd8 sd9 td0 td1 td2 td3 td4 td5 td6 td7 td8 td9 ud0 ud1 ud2 ud3 ud4 ud5 ud6 ud7 ud8 ud9 vd0 Tc6 Tc7 Tc8 Tc9 Uc0 Uc1 Uc2 Uc3 Uc4 Uc5 Uc6 Uc7 Uc8 Uc9 Vc0 Vc1 Vc2 Vc3:Int)
def gb2{α:Type}(kk:zb1->α)(x:Int)(y:Int)(z:Int):α:=(kk ⟨x,y,W (z*0),x,y,W (z*1),y,x,W (z*0),y,x,W (z*1),W (0-x),y,W (z*0),W (0-x),y,W (z*1),W (0-y),x,W (z*0),W (0-y),x,W (z*1),x,W (0-y),W (z*0),x,W (0-y),W (z*1),y,W (0-x),W (z*0),y,W (0-x),W (z*1),W (0-x),W (0-y),W (z*0),W (0-x),W (0-y),W (z*1),W (0-y),W (0-x),W (z*0),W (0-y),W (0-x),W (z*1)⟩)
def zb2(x:Int)(y:Int)(z:Int):zb1:=gb2 (λr=>r) x y z
def Ub1(r:zb1):DT (a7×List b7):=.ret (.sl 0 0 16 0,[bq 52 3 [[i r.c9,i r.d9,i r.e8],[i r.Nb8,i r.Nb9,i r.sd6],[i r.sd7,i r.sd8,i r.sd9],[i r.td0,i r.td1,i r.td2],[i r.td3,i r.td4,i r.td5],[i r.td6,i r.td7,i r.td8],[i r.td9,i r.ud0,i r.ud1],[i r.ud2,i r.ud3,i r.ud4],[i r.ud5,i r.ud6,i r.ud7],[i r.ud8,i r.ud9,i r.vd0],[i r.Tc6,i r.Tc7,i r.Tc8],[i r.Tc9,i r.Uc0,i r.Uc1],[i r.Uc2,i r.Uc3,i r.Uc4],[i r.Uc5,i r.Uc6,i r.Uc7],[i r.Uc8,i r.Uc9,i r.Vc0],[i r.Vc1,i r.Vc2,i r.Vc3]]])
theorem ce6{α β:Type}(F:α->β)(kk:zb1->α)(x:Int)(y:Int)(z:Int):F (gb2 kk x y z)=gb2 (λr=>F (kk r)) x y z:=by unfold gb2;(repeat' apply Ue8 (f:=F))<;>rfl
def Sc5:Sum:=yc6 cI cI cI (λx y z=>Ub1 (zb2 x y z))
theorem Md8:e7 prog G 54 Sc5:=Ce5 (bd b54 Ra4) λx y z=>ka3 (Eq.trans (b:=gb2 (λr=>(Ub1 r).run) x y z) (by kernel_rfl) (ce6 (λr=>(Ub1 r).run) (λr=>r) x y z).symm)
def Md9:List (Nat×Sum):=[(49,Dc6),(54,Sc5),(53,ic8)]
theorem Hd8:j8 prog G Md9:=⟨Hd7,Md8,dd3,trivial⟩
def ta0(x:Int)(y:Int):ROq:=let y0:=(.tup [nlq,nlq,i 0,i 3],[]);let t1:=(Wa0 ⟨x⟩);let t2:=(Wa1 ⟨x⟩);let t3:=(Wa2 ⟨x,t2.is0⟩);let t4:=(zb2 x 0 y);let y28:=(⟨t4.ud8,t4.ud9,t4.vd0⟩:V3);let y27:=(⟨t4.ud5,t4.ud6,t4.ud7⟩:V3);let y26:=(⟨t4.ud2,t4.ud3,t4.ud4⟩:V3);let y25:=(⟨t4.td9,t4.ud0,t4.ud1⟩:V3);let y24:=(⟨t4.td6,t4.td7,t4.td8⟩:V3);let y23:=(⟨t4.td3,t4.td4,t4.td5⟩:V3);let y22:=(⟨t4.td0,t4.td1,t4.td2⟩:V3);let y21:=(⟨t4.sd7,t4.sd8,t4.sd9⟩:V3);let y20:=(⟨t4.Nb8,t4.Nb9,t4.sd6⟩:V3);let y19:=(⟨t4.c9,t4.d9,t4.e8⟩:V3);let y6:=(⟨t4.Vc1,t4.Vc2,t4.Vc3⟩:V3);let y5:=(⟨t4.Uc8,t4.Uc9,t4.Vc0⟩:V3);let y4:=(⟨t4.Uc5,t4.Uc6,t4.Uc7⟩:V3);let y3:=(⟨t4.Uc2,t4.Uc3,t4.Uc4⟩:V3);let y2:=(⟨t4.Tc9,t4.Uc0,t4.Uc1⟩:V3);let y1:=(⟨t4.Tc6,t4.Tc7,t4.Tc8⟩:V3);let t5:=(zb2 t1.is0 t1.is0 y);let y38:=(⟨t5.ud8,t5.ud9,t5.vd0⟩:V3);let y37:=(⟨t5.ud5,t5.ud6,t5.ud7⟩:V3);let y36:=(⟨t5.ud2,t5.ud3,t5.ud4⟩:V3);let y35:=(⟨t5.td9,t5.ud0,t5.ud1⟩:V3);let y34:=(⟨t5.td6,t5.td7,t5.td8⟩:V3);let y33:=(⟨t5.td3,t5.td4,t5.td5⟩:V3);let y32:=(⟨t5.td0,t5.td1,t5.td2⟩:V3);let y31:=(⟨t5.sd7,t5.sd8,t5.sd9⟩:V3);let y30:=(⟨t5.Nb8,t5.Nb9,t5.sd6⟩:V3);let y29:=(⟨t5.c9,t5.d9,t5.e8⟩:V3);let y12:=(⟨t5.Vc1,t5.Vc2,t5.Vc3⟩:V3);let y11:=(⟨t5.Uc8,t5.Uc9,t5.Vc0⟩:V3);let y10:=(⟨t5.Uc5,t5.Uc6,t5.Uc7⟩:V3);let y9:=(⟨t5.Uc2,t5.Uc3,t5.Uc4⟩:V3);let y8:=(⟨t5.Tc9,t5.Uc0,t5.Uc1⟩:V3);let y7:=(⟨t5.Tc6,t5.Tc7,t5.Tc8⟩:V3);let t6:=(ub2 [y19,y20,y21,y22,y23,y24,y25,y26,y27,y28,y1,y2,y3,y4,y5,y6,y29,y30,y31,y32,y33,y34,y35,y36,y37,y38,y7,y8,y9,y10,y11,y12]);let t7:=(zb2 x t2.is0 y);let y48:=(⟨t7.ud8,t7.ud9,t7.vd0⟩:V3);let y47:=(⟨t7.ud5,t7.ud6,t7.ud7⟩:V3);let y46:=(⟨t7.ud2,t7.ud3,t7.ud4⟩:V3);let y45:=(⟨t7.td9,t7.ud0,t7.ud1⟩:V3);let y44:=(⟨t7.td6,t7.td7,t7.td8⟩:V3);let y43:=(⟨t7.td3,t7.td4,t7.td5⟩:V3);let y42:=(⟨t7.td0,t7.td1,t7.td2⟩:V3);let y41:=(⟨t7.sd7,t7.sd8,t7.sd9⟩:V3);let y40:=(⟨t7.Nb8,t7.Nb9,t7.sd6⟩:V3);let y39:=(⟨t7.c9,t7.d9,t7.e8⟩:V3);let y18:=(⟨t7.Vc1,t7.Vc2,t7.Vc3⟩:V3);let y17:=(⟨t7.Uc8,t7.Uc9,t7.Vc0⟩:V3);let y16:=(⟨t7.Uc5,t7.Uc6,t7.Uc7⟩:V3);let y15:=(⟨t7.Uc2,t7.Uc3,t7.Uc4⟩:V3);let y14:=(⟨t7.Tc9,t7.Uc0,t7.Uc1⟩:V3);let y13:=(⟨t7.Tc6,t7.Tc7,t7.Tc8⟩:V3);let t8:=(ub2 [y39,y40,y41,y42,y43,y44,y45,y46,y47,y48,y13,y14,y15,y16,y17,y18]);(sl (decide (x<1)) (some y0) (sl (decide (x>8)) (some y0) (sl (decide (y<1)) (some y0) (sl (decide (y>12)) (some y0) (sl (Nat.beq t1.alt 1) (sl (Nat.beq t2.alt 1) (sl (Nat.beq t3.alt 1) (sl (ub3 [y19,y20,y21,y22,y23,y24,y25,y26,y27,y28,y1,y2,y3,y4,y5,y6,y29,y30,y31,y32,y33,y34,y35,y36,y37,y38,y7,y8,y9,y10,y11,y12]) (sl (ub3 [y39,y40,y41,y42,y43,y44,y45,y46,y47,y48,y13,y14,y15,y16,y17,y18]) (some (.tup [eL tV t6.1,eL tV t8.1,i t3.is0,i 0],[])) none) none) none) none) none)))))
def o6(x:Int)(y:Int):List V3×List V3×Int×Int:=G5 (hb7 (r1L tV) (r1L tV) r1I r1I) (ta0 x y)
def Qa1(x:Int)(y:Int):Bool:=okO (hb7 (r1L tV) (r1L tV) r1I r1I) (ta0 x y)
def Sc6:Sum:=fa5 cI cI (λx y=>.guard (Qa1 x y) (.ret ((hb7 (r1L tV) (r1L tV) r1I r1I).enc (o6 x y),[])))
theorem Dc7:e7 prog G 21 Sc6:=Lb0 (bd b21 Hd8) (hb7 (r1L tV) (r1L tV) r1I r1I) (o:=ta0)
theorem bg6(O:List V3)(v:V3):app (bL tV O) [[i v.x,i v.y,i v.z]]=bL tV (O++[v]):=cb5 tV O [v]
theorem Hf1(l:List V3)(n:Int):(two (r1L tV) r1I).rd (.tup [eL tV l,i n],[])=some (l,n):=by
 have h:(r1L tV).rd [] (eL tV l)=some l:=Sd4 tV l;simp only[two,h];rfl
def rch(n e:V3):Int:=(n.x.natAbs:Int)*e.x+(n.y.natAbs:Int)*e.y+(n.z.natAbs:Int)*e.z
def pq(e:V3)(s:Int)(p:Pln):Pln:=⟨p.n,p.b+s*rch p.n e⟩
def okq(e:V3)(s:Int)(p:Pln):Bool:=okp p&&smb 2097152 (p.b+s*rch p.n e)
structure B12(e:V3):Prop where
 x1:0<=e.x
 x2:e.x<=12
 y1:0<=e.y
 y2:e.y<=12
 z1:0<=e.z
 z2:e.z<=12
section
variable(c:PLq)(e:V3)(s:Int)
structure PI(j:Nat)(o:PLq):Prop where
 le:j<=c.length
 o:o=(c.take j).map (pq e s)
 a:(c.take j).all (okq e s)=true
end
section
variable(c:PLq)(e:V3)(hc:c.length<=1000000)
include hc
end
theorem He5(l:List V3)(hl:l.length<=1000000000):Ma2 l l=some (b true,[]):=by
 have he:∀v:V3,(v.x==v.x&&(v.y==v.y&&(v.z==v.z&&true)))=true:=λv=>by simp
 have h:=qc5 (step:=sa5 ⟨l,l⟩) (mk:=λj=>(⟨(j:Int)⟩:O6)) (c:=λ_=>false) (u:=1) (fin:=2) tV l hl
  (λj hj=>by
   simp only[sa5,Ca7,Int.toNat_natCast,m8 hj (by omega),he]
   rw[btD (l0 hj),bt (f7 hj),bt (f7 hj)]
   rfl)
  (by simp only[sa5,Ca7];rw[bfD (k9 (Qia _))]) 0 (Qbw _)
 rw[Qih,show (l.any λ_=>false)=false by simp] at h
 unfold Ma2;simp only[g8,i5];rw[show (⟨0⟩:O6)=⟨((0:Nat):Int)⟩ from rfl,h,bf (by simp)]
 rfl
theorem sd2(l:List V3)(hl:l.length<=1000000000):K5 l l=true:=by unfold K5;rw[He5 l hl];rfl
theorem sd3(l:List V3)(hl:l.length<=1000000000):K6 l l=true:=by unfold K6;rw[He5 l hl];rfl
theorem Nb5:∀(l r:List V3),l.Pairwise LtV->r.Pairwise LtV->(∀v,v∈l↔v∈r)->l=r
 |[],[],_,_,_=>rfl
 |[],y::r,_,_,h=>absurd ((h y).2 (Qch ..)) (by simp)
 |x::l,[],_,_,h=>absurd ((h x).1 (Qch ..)) (by simp)
 |x::l,y::r,h1,h2,h=>by
  obtain⟨a1,a2⟩:=Qik.1 h1;obtain⟨b1,b2⟩:=Qik.1 h2;have e:x=y:=by
   rcases Qbi.1 ((h x).1 (Qch ..)) with e|hx
   ·exact e
   ·rcases Qbi.1 ((h y).2 (Qch ..)) with e|hy
    ·exact e.symm
    ·exact absurd (xc3 (b1 x hx) (a1 y hy)) (Qc9 y)
  subst e
  have:l=r:=Nb5 l r a2 b2 λv=>by
   have hv:=h v;simp only[Qbi] at hv;constructor
   ·intro hm
    rcases hv.1 (.inr hm) with e|h'
    ·subst e;exact absurd (a1 v hm) (Qc9 v)
    ·exact h'
   ·intro hm
    rcases hv.2 (.inr hm) with e|h'
    ·subst e;exact absurd (b1 v hm) (Qc9 v)
    ·exact h'
  rw[this]
theorem ce7{n:Nat}(h:n<=1000000000000):Nat.ble (n*24) room=true:=by
 rw[Qjj];unfold room;omega
theorem pe2(l:List V3)(n:Nat)(h:n<=l.length):l6 (λk=>(λk=>tV.row (gL tV l k)) (0+k)) (List.range (n-0))=bL tV (l.take n):=by
 rw[<- Bb2,i8,i8,Qie,Nat.min_eq_left h,Nat.sub_zero];apply Qcl;intro k hk;rw[Qca] at hk;show tV.row (gL tV l (0+k))=tV.row (gL tV (l.take n) k);congr 1;simp[gL,Qda,Qap,hk]
theorem pe3(l:List V3)(n:Nat):l6 (λk=>(λk=>tV.row (gL tV l k)) (n+k)) (List.range (l.length-n))=bL tV (l.drop n):=by
 rw[<- Bb2,i8,i8,Qin];apply Qcl;intro k hk;show tV.row (gL tV l (n+k))=tV.row (gL tV (l.drop n) k);rw[rd7]
def pe4(x:List V3)(y:V3)(n:Nat):List V3:=x.take n++(y::x.drop n)
def atV(x:List V3)(y:V3):Nat:=x.findIdx λp=>!decide (Ya6 p y<0)
def Nd0(x:List V3)(y:V3):List V3:=if (atV x y<x.length/\eqV (gL tV x (atV x y)) y=true) then x else pe4 x y (atV x y)
theorem pe5(x y:V3):eb8 x y=some (b (decide (Ya6 x y<0)),[]):=by
 have e:decide (Ya6 x y<0)=decide (LtV x y):=by rw[decide_eq_decide];exact rd6 x y
 rw[e];unfold eb8;by_cases h1:x.x=y.x
 ·rw[bf (show (x.x != y.x)=false by simp[h1])]
  by_cases h2:x.y=y.y
  ·rw[bf (show (x.y != y.y)=false by simp[h2])]
   have:decide (LtV x y)=decide (x.z<y.z):=by rw[decide_eq_decide];unfold LtV;omega
   rw[this]
  ·rw[bt (show (x.y != y.y)=true by simp[h2])]
   have:decide (LtV x y)=decide (x.y<y.y):=by rw[decide_eq_decide];unfold LtV;omega
   rw[this]
 ·rw[bt (show (x.x != y.x)=true by simp[h1])]
  have:decide (LtV x y)=decide (x.x<y.x):=by rw[decide_eq_decide];unfold LtV;omega
  rw[this]
theorem ff2(x y:V3):eb9 x y=decide (Ya6 x y<0):=by unfold eb9;rw[pe5];rfl
theorem ff3(x y:V3):xb9 x y=true:=by unfold xb9;rw[pe5];rfl
theorem pe6(x:List V3)(y:V3)(hx:x.length<=1000000):Rd (one (r1L tV)) (Yb1 x y) (λr=>r=Nd0 x y):=by
 have h:=ga1 (step:=Pa1 ⟨x,y.x,y.y,y.z⟩) (mk:=λj=>(⟨(j:Int)⟩:O6)) (c:=λp=>!decide (Ya6 p y<0)) (u:=1) (fin:=2) tV x (by omega)
  (λj hj=>by
   simp only[Pa1,mb2,Int.toNat_natCast,ff3,ff2,m8 hj (show x.length<=4611686018427387904 by omega)]
   rw[btD (l0 hj),bt (f7 hj),f0];show sl (decide (Ya6 (gL tV x j) y<0)) _ _=_;cases decide (Ya6 (gL tV x j) y<0)<;>rfl)
  (by simp only[Pa1,mb2];rw[bfD (k9 (Qia _))]) 0 (Qbw _)
 rw[Qih] at h;have key:∃t,lp (Pa1 ⟨x,y.x,y.y,y.z⟩) ⟨0⟩=(t,⟨((atV x y:Nat):Int)⟩)/\(t=1\/t=2):=by
  rw[show (⟨0⟩:O6)=⟨((0:Nat):Int)⟩ from rfl,h]
  split
  ·exact⟨1,by rw[Qar];rfl,.inl rfl⟩
  ·rename_i hn;refine⟨2,?_,.inr rfl⟩
   have:atV x y=x.length:=by
    unfold atV;rw[List.findIdx_eq_length];intro p hp;cases hb:(!decide (Ya6 p y<0)) with
    |false=>rfl
    |true=>exact absurd (Qic.2 ⟨p,hp,hb⟩) hn
   rw[this]
 obtain⟨t,h1,h2⟩:=key;have h3:atV x y<=x.length:=Qiy;have hdef:Nd0 x y=if (atV x y<x.length/\eqV (gL tV x (atV x y)) y=true) then x else pe4 x y (atV x y):=rfl
 generalize atV x y=n at *
 have hlo:inB (n:Int) (x.length+1)=true:=f7 (by omega)
 have hd:(bL tV (x.take n)).length=n:=by rw[<- j6,Ba4,Qie];omega
 have hlen:(pe4 x y n).length=x.length+1:=by unfold pe4;simp only[Qdc,List.length_cons,Qie,Qin];omega
 have lt:len (bL tV (x.take n))=n:=by rw[j6];exact hd
 have ld:len (bL tV (x.drop n))=x.length-n:=by rw[Ba4,Qin]
 have b1:(Nat.beq 1 1&&Nat.ble ((1+(x.length-n))*24) room)=true:=by rw[ce7 (by omega)];rfl
 have b2:(Nat.beq 0 0&&Nat.ble ((0+n)*24) room)=true:=by rw[ce7 (by omega)];rfl
 have e0:app [] (bL tV (x.take n))=bL tV (x.take n):=rfl;have b3:(Nat.beq (0+n) n&&Nat.ble (((0+n)+1)*24) room)=true:=by rw[ce7 (by omega),Qar,Qij];rfl
 have l3:len (bL tV (x.take n++[y]))=n+1:=by rw[Ba4,Qdc,Qie];simp only[List.length_singleton];omega
 have b4:(Nat.beq ((0+n)+1) (n+1)&&Nat.ble ((((0+n)+1)+(x.length-n))*24) room)=true:=by rw[ce7 (by omega),Qar,Qij];rfl
 have fin:Nd0 x y=pe4 x y n->∀m r,m=x.length+1->r=bL tV (pe4 x y n)->Rd (one (r1L tV)) (some (.sl 0 0 m 0,[⟨52,3,r,true,false,0⟩])) (λr=>r=Nd0 x y) :=
  λhq m r hm hr=>Ef7 (by rw[hlen];exact hm) hr hq.symm
 have tail:Nd0 x y=pe4 x y n->Rd (one (r1L tV)) (some (.sl 0 0 (((0+n)+1)+(x.length-n)) 0,[⟨52,3,app (bL tV (x.take n++[y])) (bL tV (x.drop n)),true,false,0⟩])) (λr=>r=Nd0 x y):=λhq=>by
  refine fin hq _ _ (by omega) ?_
  rw[cb5];unfold pe4;rw[List.append_assoc];rfl
 unfold Yb1;simp only[g8,i5];rw[h1];simp only[Int.toNat_natCast,pe2 x n h3,pe3,lt,ld,b1,b2,e0,b3,bf6,l3,b4,hlo,f0]
 have main : Rd (one (r1L tV)) (sl (decide ((n : Int) < (x.length : Int))) (sl (inB (n : Int) x.length) (sl (((gL tV x n).x == y.x) && (((gL tV x n).y == y.y) && (((gL tV x n).z == y.z) && true))) (some (eL tV x, []))
   (some ((.sl 0 0 (((0+n)+1)+(x.length-n)) 0),[⟨52,3,(app (bL tV (x.take n++[y])) (bL tV (x.drop n))),true,false,0⟩]))) none)
   (some ((.sl 0 0 (((0+n)+1)+(x.length-n)) 0),[⟨52,3,(app (bL tV (x.take n++[y])) (bL tV (x.drop n))),true,false,0⟩]))) (λr=>r=Nd0 x y):=by
  by_cases hn:n<x.length
  ·rw[btD (l0 hn),bt (f7 hn)];exact Rd.sl (λq=>⟨_,x,rfl,Sd4 tV x,by rw[hdef,if_pos ⟨hn,q⟩]⟩) λq=>tail (by
    rw[hdef,if_neg λh=>?_]
    have h:=h.2;rw[show eqV (gL tV x n) y=false from q] at h
    cases h)
  ·rw[bfD (k9 hn)];exact tail (by rw[hdef,if_neg λh=>hn h.1])
 rcases h2 with rfl|rfl
 ·exact main
 ·exact main
def vb4:List V3->V3->List V3
 |[],y=>[y]
 |a::l,y=>if Ya6 a y<0 then a::vb4 l y else if eqV a y then a::l else y::a::l
theorem He6(y:V3):∀x,Nd0 x y=vb4 x y
 |[]=>rfl
 |a::l=>by
  have ih:=He6 y l;unfold vb4;by_cases h:Ya6 a y<0
  ·rw[if_pos h,<- ih];have e:atV (a::l) y=atV l y+1:=by unfold atV;rw[Qiv];simp[h]
   unfold Nd0;rw[e];have e2:gL tV (a::l) (atV l y+1)=gL tV l (atV l y):=rfl;rw[e2];simp only[List.length_cons,Nat.add_lt_add_iff_right];split
   ·rfl
   ·rfl
  ·rw[if_neg h];have e:atV (a::l) y=0:=by unfold atV;rw[Qiv];simp[h]
   unfold Nd0;rw[e];have e2:gL tV (a::l) 0=a:=rfl;rw[e2];simp only[List.length_cons,Nat.zero_lt_succ,true_and];split
   ·rfl
   ·rfl
theorem xc8(y p:V3):∀x,p∈vb4 x y↔p=y\/p∈x
 |[]=>by simp[vb4]
 |a::l=>by
  unfold vb4;have ih:=xc8 y p l;split
  ·simp only[Qbi,ih];constructor
   ·rintro (h|h|h)
    ·exact .inr (.inl h)
    ·exact .inl h
    ·exact .inr (.inr h)
   ·rintro (h|h|h)
    ·exact .inr (.inl h)
    ·exact .inl h
    ·exact .inr (.inr h)
  ·split
   ·rename_i h;rw[Qc8] at h;subst h;simp only[Qbi];constructor
    ·exact λh=>.inr h
    ·rintro (h|h)
     ·exact .inl h
     ·exact h
   ·simp only[Qbi]
theorem Ud1(y:V3):∀{x},cd0 x->cd0 (vb4 x y)
 |[],_=>List.pairwise_singleton _ _
 |a::l,h=>by
  obtain⟨h1,h2⟩:=Qik.1 h;unfold vb4;split
  ·rename_i hc;rw[rd6] at hc;refine Qik.2 ⟨λp hp=>?_,Ud1 y h2⟩
   rcases (xc8 y p l).1 hp with e|hp
   ·subst e;exact hc
   ·exact h1 p hp
  ·rename_i hc;rw[rd6] at hc;split
   ·exact h
   ·rename_i hne;have hlt:LtV y a:=by
     rcases Ge4 y a with h|h|h
     ·exact h
     ·exact absurd ((Qc8 _ _).2 h.symm) hne
     ·exact absurd h hc
    refine Qik.2 ⟨λp hp=>?_,h⟩
    rcases Qbi.1 hp with e|hp
    ·subst e;exact hlt
    ·exact xc3 hlt (h1 p hp)
theorem He7(x:List V3)(y:V3)(hx:x.length<=1000000):xc6 x y=vb4 x y:=(pe6 x y hx).p.trans (He6 y x)
theorem He8(x:List V3)(y:V3)(hx:x.length<=1000000):xc7 x y=true:=(pe6 x y hx).g
def nrm(F:PLq)(v:V3):List V3:=(own F v).map λp=>p.n
theorem sf3(F:PLq)(v:V3)(hF:F.length<=1000000):∃t s,lp (Xa5 ⟨F,v.x,v.y,v.z⟩) ⟨0,0,0,[]⟩=(t,s)/\(t=phV (nrm F v)+1/\∃j:Int,s=⟨phV (nrm F v),j,(nrm F v).length,bL tV (nrm F v)⟩):=by
 refine ga3 (step:=Xa5 ⟨F,v.x,v.y,v.z⟩) (mk:=λj (o:List V3)=>(⟨phV o,(j:Int),o.length,bL tV o⟩:B9)) F.length (λj o=>j<=F.length/\o=((F.take j).filter λp=>P8 p v==0).map λp=>p.n) (λt s=>t=phV (nrm F v)+1/\∃j:Int,s=⟨phV (nrm F v),j,(nrm F v).length,bL tV (nrm F v)⟩) (by omega)
  (λj o hj hi=>?_) (λj o hj hi=>?_) 0 [] ⟨Qbw _,by simp⟩
 ·obtain⟨_,hi⟩:=hi;have hlen:o.length<=1000000:=by
   rw[hi,Qkg];have h1:=Qjh (λp=>P8 p v==0) (F.take j)
   have h2:=List.length_take_le j F;omega
  have hn:=m8 hj (show F.length<=4611686018427387904 by omega)
  have hb:=f7 hj;have hT:((F.take (j+1)).filter (λp=>P8 p v==0)).map (λp=>p.n)=o++(if (P8 (gL tP F j) v==0)=true then [(gL tP F j).n] else []):=by
   rw[xc0 tP hj,Qja,List.map_append,<- hi,Qjd,List.filter_nil]
   split<;>rfl
  have hnext : ∀ {s : B9} {o' : List V3}, o' = ((F.take (j + 1)).filter fun p => P8 p v == 0).map (fun p => p.n) → s = ⟨phV o', ((j + 1 : Nat) : Int), o'.length, bL tV o'⟩ → Nx (.next s) (fun t => t = phV (nrm F v) + 1 ∧ ∃ j' : Int, (⟨phV o, (j : Int), o.length, bL tV o⟩ : B9) = ⟨phV (nrm F v), j', (nrm F v).length, bL tV (nrm F v)⟩)
    (λs=>∃o',s=(⟨phV o',((j+1:Nat):Int),o'.length,bL tV o'⟩:B9)/\(j+1<=F.length/\o'=((F.take (j+1)).filter λp=>P8 p v==0).map λp=>p.n)):=λ{s o'} ho' hs=>.nx ⟨o',hs,by omega,ho'⟩
  clear hi
  cases o with
  |nil =>
   show Nx (ja5 Stp.next Stp.exit Stp.fail _ _) _ _;simp only[ja5,Int.toNat_natCast,be1,bd2,hn,hb];rw[btD (l0 hj)];cases hs:P8 (gL tP F j) v==0 with
   |true=>exact hnext (o':=[(gL tP F j).n]) (by rw[hT,hs];rfl) rfl
   |false=>exact hnext (o':=[]) (by rw[hT,hs];rfl) rfl
  |cons q o =>
   have rr:(Nat.beq (q::o).length (len (bL tV (q::o)))&&Nat.ble (((q::o).length+1)*24) room)=true:=Qf0 rfl (by omega)
   show Nx (ja6 Stp.next Stp.exit Stp.fail _ _) _ _;simp only[ja6,Int.toNat_natCast,be1,bd2,hn,hb,rr,bg6];rw[btD (l0 hj)];cases hs:P8 (gL tP F j) v==0 with
   |true=>exact hnext (o':=q::o++[(gL tP F j).n]) (by rw[hT,hs];rfl) (by rw[Qdc];rfl)
   |false=>exact hnext (o':=q::o) (by rw[hT,hs,if_neg (by simp),Qbv]) rfl
 ·obtain⟨h1,hi⟩:=hi;have e:j=F.length:=by omega
  subst e;have hO:o=nrm F v:=by rw[hi,List.take_length];rfl
  rw[<- hO];cases o with
  |nil =>
   refine⟨1,?_,rfl,_,rfl⟩;show ja5 Stp.next Stp.exit Stp.fail _ _=_;simp only[ja5];rw[bfD (k9 (Qia _))]
  |cons q o =>
   refine⟨2,?_,rfl,_,rfl⟩;show ja6 Stp.next Stp.exit Stp.fail _ _=_;simp only[ja6];rw[bfD (k9 (Qia _))]
def N46(n:V3):Prop:=Sm 4608 n.x/\Sm 4608 n.y/\Sm 4608 n.z
def cr3(N:List V3)(a c k:Nat):Bool:=dot (d7 (gL tV N a) (gL tV N c)) (gL tV N k) != 0
def cr2(N:List V3)(a c:Nat):Bool:=(List.range c).any (cr3 N a c)
def cr1(N:List V3)(a:Nat):Bool:=(List.range a).any (cr2 N a)
def cr0(N:List V3):Bool:=(List.range N.length).any (cr1 N)
theorem bg7{x y z:V3}(hx:N46 x)(hy:N46 y)(hz:N46 z):Fa0 (Ja3 x y) z=dot (d7 x y) z:=by
 obtain⟨k1,k2,k3⟩:=me2 hx hy;obtain⟨⟨a1,a2⟩,⟨a3,a4⟩,a5,a6⟩:=hz;rw[Fe6,qc9 (k1.mono (by omega)),qc9 (k2.mono (by omega)),qc9 (k3.mono (by omega))]
 have r1:=mb k1.1 k1.2 a1 a2;have r2:=mb k2.1 k2.2 a3 a4;have r3:=mb k3.1 k3.2 a5 a6;unfold Fa0;simp only[Hc7,Zc3];rw[eb6 (by omega) (by omega)]
 rfl
section
variable(N:List V3)(hN:∀n∈N,N46 n)(hl:N.length<=1000000)
include hN hl
theorem sf4(a c:Nat)(ha:a<N.length)(hc:c<a):∃j,lp (Ea5 ⟨N.length,(a:Int),(c:Int),bL tV N⟩) ⟨0,0⟩=(if cr2 N a c then 1 else 2,⟨0,((j:Nat):Int)⟩) :=
 sb9 (step:=Ea5 ⟨N.length,(a:Int),(c:Int),bL tV N⟩) (mk:=λj=>(⟨0,(j:Int)⟩:E0)) c (cr3 N a c) 1 2 (by omega)
  (λj hj=>by
   have hcN:c<N.length:=by omega
   have hjN:j<N.length:=by omega
   show ja7 Stp.next Stp.exit Stp.fail _ _=_;simp only[ja7,Int.toNat_natCast,rc5 ha,rc5 hcN,rc5 hjN,Ic1 ha,Ic1 hcN,Ic1 hjN,bg7 (hN _ (Ga7 tV ha)) (hN _ (Ga7 tV hcN)) (hN _ (Ga7 tV hjN)),f7 ha,f7 hcN,f7 hjN,m8 hj (show c<=4611686018427387904 by omega)]
   rw[btD (l0 hj)]
   rfl)
  (by
   show ja7 Stp.next Stp.exit Stp.fail _ _=_;simp only[ja7];rw[bfD (k9 (Qia _))])
theorem sf5(a:Nat)(ha:a<N.length):∃j,lp (Ea6 ⟨(a:Int)⟩) ⟨0,N.length,0,bL tV N⟩=(if cr1 N a then 1 else 2,⟨0,N.length,((j:Nat):Int),bL tV N⟩) :=
 sb9 (step:=Ea6 ⟨(a:Int)⟩) (mk:=λj=>(⟨0,N.length,(j:Int),bL tV N⟩:E1)) a (cr2 N a) 1 2 (by omega)
  (λj hj=>by
   obtain⟨j',h1⟩:=sf4 N hN hl a j ha hj;show ja8 Stp.next Stp.exit Stp.fail _ _=_;simp only[ja8,h1,m8 hj (show a<=4611686018427387904 by omega)]
   rw[btD (l0 hj)];cases cr2 N a j<;>rfl)
  (by
   show ja8 Stp.next Stp.exit Stp.fail _ _=_;simp only[ja8];rw[bfD (k9 (Qia _))])
theorem sf6:∃j,lp (L5 ⟨⟩) ⟨1,0,N.length,bL tV N⟩=(if cr0 N then 1 else 3,⟨1,((j:Nat):Int),N.length,bL tV N⟩) :=
 sb9 (step:=L5 ⟨⟩) (mk:=λj=>(⟨1,(j:Int),N.length,bL tV N⟩:E2)) N.length (cr1 N) 1 3 (by omega)
  (λj hj=>by
   obtain⟨j',h1⟩:=sf5 N hN hl j hj;show ja9 Stp.next Stp.exit Stp.fail ⟨⟩ _=_;simp only[ja9,h1,m8 hj (show N.length<=4611686018427387904 by omega)]
   rw[btD (l0 hj)];cases cr1 N j<;>rfl)
  (by
   show ja9 Stp.next Stp.exit Stp.fail ⟨⟩ _=_;simp only[ja9];rw[bfD (k9 (Qia _))])
end
theorem sf7(N:List V3):cr0 N=true↔∃x y z,x∈N/\y∈N/\z∈N/\dot (d7 x y) z≠0:=by
 constructor
 ·intro h;obtain⟨a,ha,h⟩:=Qic.1 h;obtain⟨c,hc,h⟩:=Qic.1 h;obtain⟨k,hk,h⟩:=Qic.1 h;rw[Qca] at ha hc hk;exact⟨_,_,_,Ga7 tV ha,Ga7 tV (show c<N.length by omega),Ga7 tV (show k<N.length by omega),bne_iff_ne.1 h⟩
 ·rintro⟨x,y,z,hx,hy,hz,hw⟩;obtain⟨i1,h1,rfl⟩:=Qef.1 hx;obtain⟨i2,h2,rfl⟩:=Qef.1 hy;obtain⟨i3,h3,rfl⟩:=Qef.1 hz;rw[<- Mb0 tV h1,<- Mb0 tV h2,<- Mb0 tV h3] at hw;have key:∀a c k,a<N.length->c<a->k<c->dot (d7 (gL tV N a) (gL tV N c)) (gL tV N k)≠0->cr0 N=true:=λa c k ha hc hk hw =>
   Qic.2 ⟨a,Qca.2 ha,Qic.2 ⟨c,Qca.2 hc,Qic.2 ⟨k,Qca.2 hk,bne_iff_ne.2 hw⟩⟩⟩
  have p1:∀x y z:V3,dot (d7 y x) z=-dot (d7 x y) z:=λx y z=>by simp only[dot,d7];grind
  have p2:∀x y z:V3,dot (d7 x z) y=-dot (d7 x y) z:=λx y z=>by simp only[dot,d7];grind
  have q0:∀x z:V3,dot (d7 x x) z=0:=λx z=>by simp only[dot,d7];grind
  have q1:∀x y:V3,dot (d7 x y) y=0:=λx y=>by simp only[dot,d7];grind
  have q2:∀x y:V3,dot (d7 x y) x=0:=λx y=>by simp only[dot,d7];grind
  have n12:i1≠i2:=λe=>hw (by subst e;exact q0 _ _)
  have n23:i2≠i3:=λe=>hw (by subst e;exact q1 _ _)
  have n13:i1≠i3:=λe=>hw (by subst e;exact q2 _ _)
  rcases Qit n12 with h12|h12<;>rcases Qit n23 with h23|h23<;>rcases Qit n13 with h13|h13
  ·-- 1<2<3:(3,2,1)
   exact key i3 i2 i1 h3 h23 h12 λe=>hw (by rw[p1,p2,p1] at e;omega)
  ·omega
  ·-- 1<3<2:(2,3,1)
   exact key i2 i3 i1 h2 h23 h13 λe=>hw (by rw[p2,p1] at e;omega)
  ·-- 3<1<2:(2,1,3)
   exact key i2 i1 i3 h2 h12 h13 λe=>hw (by rw[p1] at e;omega)
  ·-- 2<1<3:(3,1,2)
   exact key i3 i1 i2 h3 h13 h12 λe=>hw (by rw[p1,p2] at e;omega)
  ·-- 2<3<1:(1,3,2)
   exact key i1 i3 i2 h1 h13 h23 λe=>hw (by rw[p2] at e;omega)
  ·omega
  ·exact key i1 i2 i3 h1 h12 h23 hw
theorem Qe8(F:PLq)(v:V3):cr0 (nrm F v)=kv F v:=by
 rw[Bool.eq_iff_iff,sf7];unfold kv;rw[He1];unfold nrm;have e:∀p q s:Pln,mw p q s=dot (d7 p.n q.n) s.n:=λp q s=>by simp only[mw,dot,d7];grind
 constructor
 ·rintro⟨x,y,z,hx,hy,hz,hw⟩;obtain⟨p,hp,rfl⟩:=Qbr.1 hx;obtain⟨q,hq,rfl⟩:=Qbr.1 hy;obtain⟨s,hs,rfl⟩:=Qbr.1 hz;exact⟨p,q,s,hp,hq,hs,by rw[e];exact hw⟩
 ·rintro⟨p,q,s,hp,hq,hs,hw⟩;exact⟨_,_,_,Qbr.2 ⟨p,hp,rfl⟩,Qbr.2 ⟨q,hq,rfl⟩,Qbr.2 ⟨s,hs,rfl⟩,by rw[e] at hw;exact hw⟩
theorem pe7(F:PLq)(v:V3)(hF:OkF F):fb0 F v=some (b (kv F v),[]):=by
 obtain⟨t,s,h,rfl,j,rfl⟩:=sf3 F v hF.l;have hN:∀n∈nrm F v,N46 n:=λn hn=>by
  obtain⟨p,hp,rfl⟩:=Qbr.1 hn;have hb:=Ed6 (hF.v p (Qff.1 hp).1);exact⟨⟨hb.x1,hb.x2⟩,⟨hb.y1,hb.y2⟩,hb.z1,hb.z2⟩
 have hl:(nrm F v).length<=1000000:=by
  unfold nrm own;rw[Qkg];exact Qai (Qjh _ _) hF.l
 unfold fb0;rw[<- Qe8];simp only[g8,i5,h];cases hn:nrm F v with
 |nil =>
  have h0:lp (L5 ⟨⟩) ⟨0,0,0,[]⟩=(2,⟨0,0,0,[]⟩):=ae9 (step:=L5 ⟨⟩) rfl;rw[h0];rfl
 |cons q o =>
  rw[hn] at hN hl;obtain⟨j',h1⟩:=sf6 (q::o) hN hl;show sl (true&&true) (sl (Nat.beq 2 1) _ (sl (Nat.beq 2 2) (sl (Nat.beq (lp (L5 ⟨⟩) ⟨1,0,(q::o).length,bL tV (q::o)⟩).1 1) _ (sl (Nat.beq (lp (L5 ⟨⟩) ⟨1,0,(q::o).length,bL tV (q::o)⟩).1 2) _ (sl (Nat.beq (lp (L5 ⟨⟩) ⟨1,0,(q::o).length,bL tV (q::o)⟩).1 3) _ _))) _)) _=_;rw[h1];cases cr0 (q::o)<;>rfl
theorem pe8(F:PLq)(v:V3)(hF:OkF F):fb1 F v=kv F v:=by unfold fb1;rw[pe7 F v hF];rfl
theorem pe9(F:PLq)(v:V3)(hF:OkF F):fb2 F v=true:=by unfold fb2;rw[pe7 F v hF];rfl
theorem Rf3{l:List V3}(hl:l.all inV=true)(h48:l.length<=48):P9 l=zc3 l:=by
 have hin:l.any (λv=>!inV v)=false:=by rw[Qbq];intro v hv;rw[Qcb.1 hl v hv];simp
 have h48':¬ (l.length:Int)>48:=by omega
 unfold zc3 P9;rw[if_neg h48',if_neg h48',if_pos hl,hin,if_neg (by simp)]
 cases hf:nf0 l with
 |true =>
  have h0:=Ab0 h48 hl (Gf1 hf);unfold P9 at h0;rw[if_neg h48',hin,if_neg (by simp)] at h0
  rw[h0];rfl
 |false =>
  cases hb:rc6 l with
  |true=>rfl
  |false =>
   have h0:P9 l=0:=by
    unfold P9;rw[if_neg h48',hin,if_neg (by simp),hb];rfl
   have:=Qf9 hl (ya4 h0).2.2
   rw[hf] at this;cases this
theorem ff4(l:List V3):P9 l=zc3 l:=by
 by_cases h48:(l.length:Int)>48
 ·unfold P9 zc3;rw[if_pos h48,if_pos h48]
 ·cases hl:l.all inV with
  |true=>exact Rf3 hl (by omega)
  |false =>
   have hin:l.any (λv=>!inV v)=true:=by
    rw[List.all_eq_false] at hl;obtain⟨v,hv,h⟩:=hl;exact Qic.2 ⟨v,hv,by simpa using h⟩
   unfold P9 zc3;rw[if_neg h48,if_neg h48,hin,hl];rfl
theorem ff5(l:List V3):be2 l=Ga9 l:=by
 unfold be2 Ga9;rw[ff4]
theorem Hd9(l:List V3)(hl:l.length<=1000000):Rd (two (r1L tP) r1I) (Ja9 l) (λr=>r=Ga9 l):=by
 by_cases h:l.length<=48
 ·rw[<- ff5];exact df1 l h
 ·have hv:zc3 l=2:=by unfold zc3;rw[if_pos (by omega)]
  have hc:P9 l=2:=by rw[ff4,hv]
  unfold Ja9 Ga9;simp only[g8,B7,Sd7 l (by omega),Sd5 l (by omega),hv]
  rw[hc,if_neg (by omega)]
  exact⟨_,([],2),rfl,rfl,rfl⟩
theorem ff6(l:List V3)(hl:l.length<=1000000):pc7 l=Ga9 l:=(Hd9 l hl).p
theorem ff7(l:List V3)(hl:l.length<=1000000):pc8 l=true:=(Hd9 l hl).g
def exS(F:PLq)(o:List V3)(v:V3):List V3:=if kv F v=true then vb4 o v else o
theorem ff8(o:List V3)(v:V3):vb4 o v≠[]:=λe=>by
 have:=(xc8 v v o).2 (.inl rfl)
 rw[e] at this;cases this
theorem Ud2(v:V3):∀o:List V3,(vb4 o v).length<=o.length+1
 |[]=>by simp[vb4]
 |a::l=>by
  have:=Ud2 v l
  unfold vb4;split
  ·simp only[List.length_cons];omega
  ·split<;>simp only[List.length_cons]<;>omega
theorem Id0(F:PLq)(w:V3):∀(l o:List V3),w∈l.foldl (exS F) o↔w∈o\/(w∈l/\kv F w=true)
 |[],o=>by simp
 |v::l,o=>by
  rw[List.foldl_cons,Id0 F w l];unfold exS;split
  ·rename_i h;rw[xc8];constructor
   ·rintro ((rfl|h1)|h1)
    ·exact .inr ⟨Qch,h⟩
    ·exact .inl h1
    ·exact .inr ⟨Qck _ h1.1,h1.2⟩
   ·rintro (h1|⟨h1,h2⟩)
    ·exact .inl (.inr h1)
    ·rcases Qbi.1 h1 with rfl|h1
     ·exact .inl (.inl rfl)
     ·exact .inr ⟨h1,h2⟩
  ·rename_i h;constructor
   ·rintro (h1|h1)
    ·exact .inl h1
    ·exact .inr ⟨Qck _ h1.1,h1.2⟩
   ·rintro (h1|⟨h1,h2⟩)
    ·exact .inl h1
    ·rcases Qbi.1 h1 with rfl|h1
     ·exact absurd h2 h
     ·exact .inr ⟨h1,h2⟩
theorem Id1(F:PLq):∀(l o:List V3),cd0 o->cd0 (l.foldl (exS F) o)
 |[],o,h=>h
 |v::l,o,h=>by
  rw[List.foldl_cons];refine Id1 F l _ ?_;unfold exS;split
  ·exact Ud1 v h
  ·exact h
theorem Qe9(F:PLq)(l:List V3):l.foldl (exS F) []=tb0 F l:=by
 refine Nb5 _ _ (Id1 F l [] .nil) ?_ λv=>?_
 ·exact (cd1 l).filter _
 ·rw[Id0];unfold tb0;rw[Qff,ec2];simp
theorem Re0(l:List V3)(F:PLq)(hl:l.length<=1000000)(hF:OkF F):∃t s,lp (Pa2 ⟨l,F⟩) ⟨0,0,[]⟩=(t,s)/\(t=phV (tb0 F l)+1/\∃j:Int,s=⟨phV (tb0 F l),j,tb0 F l⟩):=by
 refine ga3 (step:=Pa2 ⟨l,F⟩) (mk:=λj (o:List V3)=>(⟨phV o,(j:Int),o⟩:r7)) l.length (λj o=>j<=l.length/\o.length<=j/\o=(l.take j).foldl (exS F) []) (λt s=>t=phV (tb0 F l)+1/\∃j:Int,s=⟨phV (tb0 F l),j,tb0 F l⟩) (by omega)
  (λj o hj hi=>?_) (λj o hj hi=>?_) 0 [] ⟨Qbw _,by simp,by simp⟩
 ·obtain⟨_,hlen,hi⟩:=hi;have hn:=m8 hj (show l.length<=4611686018427387904 by omega)
  have hb:=f7 hj;have hT:(l.take (j+1)).foldl (exS F) []=exS F o (gL tV l j):=by
   rw[xc0 tV hj,List.foldl_append,<- hi];rfl
  have hLen:(exS F o (gL tV l j)).length<=j+1:=by
   unfold exS;split
   ·have:=Ud2 (gL tV l j) o;omega
   ·omega
  have hnext : ∀ {s : r7}, s = ⟨phV (exS F o (gL tV l j)), ((j + 1 : Nat) : Int), exS F o (gL tV l j)⟩ → Nx (.next s) (fun t => t = phV (tb0 F l) + 1 ∧ ∃ j' : Int, (⟨phV o, (j : Int), o⟩ : r7) = ⟨phV (tb0 F l), j', tb0 F l⟩)
    (λs=>∃o',s=(⟨phV o',((j+1:Nat):Int),o'⟩:r7)/\(j+1<=l.length/\o'.length<=j+1/\o'=(l.take (j+1)).foldl (exS F) [])):=λ{s} hs=>.nx ⟨_,hs,by omega,hLen,hT.symm⟩
  have ph1:∀o:List V3,phV (vb4 o (gL tV l j))=1:=λo=>by
   cases h:vb4 o (gL tV l j) with
   |nil=>exact absurd h (ff8 _ _)
   |cons _ _=>rfl
  clear hi
  cases o with
  |nil =>
   show Nx (ca6 Stp.next Stp.exit Stp.fail _ _) _ _;simp only[ca6,Int.toNat_natCast,g8,B7,pe8 F _ hF,pe9 F _ hF,He7 [] _ (show ([]:List V3).length<=1000000 by simp),He8 [] _ (show ([]:List V3).length<=1000000 by simp),hn,hb]
   rw[btD (l0 hj)];cases hs:kv F (gL tV l j) with
   |true=>exact hnext (by unfold exS;rw[hs,if_pos rfl,ph1])
   |false=>exact hnext (by unfold exS;rw[hs];rfl)
  |cons q o =>
   show Nx (ca7 Stp.next Stp.exit Stp.fail _ _) _ _;simp only[ca7,Int.toNat_natCast,g8,B7,pe8 F _ hF,pe9 F _ hF,He7 (q::o) _ (show (q::o).length<=1000000 by omega),He8 (q::o) _ (show (q::o).length<=1000000 by omega),hn,hb]
   rw[btD (l0 hj)];cases hs:kv F (gL tV l j) with
   |true=>exact hnext (by unfold exS;rw[hs,if_pos rfl,ph1])
   |false=>exact hnext (by unfold exS;rw[hs];rfl)
 ·obtain⟨h1,hlen,hi⟩:=hi;have e:j=l.length:=by omega
  subst e;have hO:o=tb0 F l:=by rw[hi,List.take_length,Qe9]
  rw[<- hO];cases o with
  |nil =>
   refine⟨1,?_,rfl,_,rfl⟩;show ca6 Stp.next Stp.exit Stp.fail _ _=_;simp only[ca6];rw[bfD (k9 (Qia _))]
  |cons q o =>
   refine⟨2,?_,rfl,_,rfl⟩;show ca7 Stp.next Stp.exit Stp.fail _ _=_;simp only[ca7];rw[bfD (k9 (Qia _))]
theorem qe0(l:List V3)(hl:l.length<=1000000):Rd (two (r1L tV) r1I) (Ua0 l) (λr=>r=ta7 l):=by
 unfold Ua0 ta7;simp only[g8,B7,i5,ff6 l hl,ff7 l hl];unfold Ga9;by_cases h:P9 l=0
 ·obtain⟨h1,h2,h3⟩:=ya4 h;have hF:OkF (F0 l):=⟨Rc5 h1 h2,λp hp=>(ye9 hp).ok⟩
  obtain⟨t,s,k,rfl,j,rfl⟩:=Re0 l (F0 l) hl hF;rw[if_pos h,if_pos h];simp only[k];cases tb0 (F0 l) l with
  |nil=>exact⟨_,([],0),rfl,rfl,rfl⟩
  |cons q o=>exact⟨_,(q::o,0),rfl,Hf1 _ _,rfl⟩
 ·have hne:(P9 l != 0)=true:=bne_iff_ne.2 h;rw[if_neg h,if_neg h];simp only[hne,f0];exact⟨_,([],P9 l),rfl,rfl,rfl⟩
theorem Hf2(l:List V3)(hl:l.length<=1000000):mb3 l=ta7 l:=(qe0 l hl).p
theorem sf8{l:List V3}(hl:l.all inV=true):∀p∈ws,∀v∈l,dot p.n v<=p.b:=λp hp v hv=>by
 have:=Ff5 (Qcb.1 hl v hv) p hp
 simp only[rmZ,ipt,dot] at this ⊢;omega
section
variable{l:List V3}(hl:l.all inV=true)(h4:Sol l)
include hl
theorem Sc7(v:V3):v∈tb0 (F0 l) l↔v∈l/\Spn (F0 l) v:=by
 unfold tb0;rw[Qff,ec2];exact⟨λh=>⟨h.1,(ef8 hl h.1).1 h.2⟩,λh=>⟨h.1,(ef8 hl h.1).2 h.2⟩⟩
include h4
theorem sf9{n:V3}{b:Int}(hv:∀v∈tb0 (F0 l) l,dot n v<=b):∀x∈l,dot n x<=b:=by
 have hfacs:=Ge3 hl λp hp=>(Z1 hl p).2 hp
 have hall:∀p∈F0 l++ws,∀v∈l,dot p.n v<=p.b:=λp hp=>by
  rcases Qkd.1 hp with hp|hp
  ·exact ((Z1 hl p).1 hp).hd
  ·exact sf8 hl p hp
 intro x hx;have hz:∀(a:Pln) (v:V3),rmZ a ⟨v.x,v.y,v.z,1⟩=a.b-dot a.n v:=λa v=>by simp only[rmZ,dot];omega
 have hI:Inr (F0 l++ws) ⟨x.x,x.y,x.z,1⟩:=⟨by show (0:Int)<1;omega,λp hp=>by rw[hz];have:=hall p hp x hx;omega⟩
 have key:=ic4 (Ff1 (F0 l)) (h:=⟨n,b⟩) (λy hy=>by
  obtain⟨v,hvl,he,hs⟩:=qf2 h4 hfacs hall hy;have h1:=hv v ((Sc7 hl v).2 ⟨hvl,hs⟩);have h2:=he.rm ⟨n,b⟩;rw[hz] at h2;have hw:=hy.w;have h3:0<=(b-dot n v)*y.pw:=Qid (by omega) (by omega)
  have h4:rmZ ⟨n,b⟩ y*1=(b-dot n v)*y.pw:=h2
  omega) hI
 rw[hz] at key;have key:0<=b-dot n x:=key;omega
theorem He9{v:V3}(hv:v∈tb0 (F0 l) l):v∈l:=((Sc7 hl v).1 hv).1
end
structure Ins(r:PLq)(x:Pt):Prop where
 w:0<x.pw
 h:∀p∈r,0<rmZ p x
theorem Ins.inr{r:PLq}{x:Pt}(h:Ins r x):Inr r x:=⟨h.w,λp hp=>Qif (h.h p hp)⟩
theorem Ins.mono{r r':PLq}{x:Pt}(h:Ins r x)(hs:∀p∈r',p∈r):Ins r' x:=⟨h.w,λp hp=>h.h p (hs p hp)⟩
theorem Inr.mono{r r':PLq}{x:Pt}(h:Inr r x)(hs:∀p∈r',p∈r):Inr r' x:=⟨h.w,λp hp=>h.h p (hs p hp)⟩
theorem Ins.app{r r':PLq}{x:Pt}(h:Ins r x)(h':Ins r' x):Ins (r++r') x:=⟨h.w,λp hp=>(Qkd.1 hp).elim (h.h p) (h'.h p)⟩
theorem Inr.app{r r':PLq}{x:Pt}(h:Inr r x)(h':Inr r' x):Inr (r++r') x:=⟨h.w,λp hp=>(Qkd.1 hp).elim (h.h p) (h'.h p)⟩
theorem far{f g:Pln->Int}:∀l:PLq,(∀p∈l,0<f p)->∃N:Int,0<=N/\∀M,N<=M->∀p∈l,0<M*f p+g p
 |[],_=>⟨0,Int.le_refl _,λ_ _ p hp=>by cases hp⟩
 |a::l,h=>by
  obtain⟨N,h0,h1⟩:=far l λp hp=>h p (Qck _ hp)
  have ha:=h a Qch;refine⟨max N ((g a).natAbs+1),by omega,λM hM p hp=>?_⟩
  rcases Qbi.1 hp with rfl|hp
  ·have:M*1<=M*f p:=Qim (by omega) (by omega)
   omega
  ·exact h1 M (by omega) p hp
theorem Hf3:∀p∈ws,okp p=true:=Qcb.1 (by decide)
theorem Id2{n:V3}(h:n≠⟨0,0,0⟩):0<dot n n:=by
 have k:∀a:Int,0<=a*a/\(a≠0->0<a*a):=λa=>by
  rcases Int.lt_trichotomy a 0 with h|h|h
  ·have:=Qkf h h;exact⟨by omega,λ_=>this⟩
  ·subst h;exact⟨by decide,λh=>absurd rfl h⟩
  ·have:=Qkh h h;exact⟨by omega,λ_=>this⟩
 unfold dot
 have:=k n.x;have:=k n.y;have:=k n.z
 by_cases hx:n.x=0
 ·by_cases hy:n.y=0
  ·by_cases hz:n.z=0
   ·exact absurd (V3.ext' hx hy hz) h
   ·have:=(k n.z).2 hz;omega
  ·have:=(k n.y).2 hy;omega
 ·have:=(k n.x).2 hx;omega
theorem zd4{c:PLq}(h:(chk c==0)=true):∀p∈c++ws,okp p=true:=λp hp=>by
 rw[beq_iff_eq,me6] at h
 rcases Qkd.1 hp with hp|hp
 ·exact h.2 p hp
 ·exact Hf3 p hp
def Fv:V3:=⟨10000,100,1⟩
structure Crs(l:List V3)(p:Pln)(v:V3):Prop where
 h:∃u w,u∈l/\w∈l/\dot p.n u=p.b/\dot p.n w=p.b/\dot Fv w<dot Fv v/\dot Fv v<dot Fv u/\N3 v u w≠⟨0,0,0⟩
 on:dot p.n v=p.b
section
variable{l:List V3}(hl:l.all inV=true)
include hl
theorem Id3(hs:Sol l){p q:Pln}(hp:bd9 l p)(hq:bd9 l q){u w x:V3}(hu:u∈l)(hw:w∈l)(hx:x∈l)(h3:N3 u w x≠⟨0,0,0⟩)(p1:dot p.n u=p.b)(p2:dot p.n w=p.b)(p3:dot p.n x=p.b)(q1:dot q.n u=q.b)(q2:dot q.n w=q.b)(q3:dot q.n x=q.b):p=q:=by
 have hi:=Qcb.1 hl;have hT:=(Ca6 (ob2 (hi u hu) (hi w hw) (hi x hx) h3)).2;have fl:∀{p:Pln},bd9 l p->bd9 l (ua8 p)->False:=λ{p} h h'=>by
  obtain⟨v,hv,hne⟩:=hs.off (id4 h.ok) p.b;have a:=h.hd v hv;have c:=h'.hd v hv;rw[rc4] at c;have c:-dot p.n v<=-p.b:=c;omega
 rcases Qc6 hT hp.ok p1 p2 p3 with e|e<;>rcases Qc6 hT hq.ok q1 q2 q3 with e'|e'
 ·rw[e,e']
 ·rw[e',<- e] at hq;exact (fl hp hq).elim
 ·rw[e,<- e'] at hp;exact (fl hq hp).elim
 ·rw[e,e']
end
theorem qe1{α β:Type}{R:α->β->Prop}{X:List α}{L:List β}(hX:X.Nodup)(h:∀q∈X,∃y∈L,R q y)(hi:∀q∈X,∀r∈X,∀y,R q y->R r y->q=r):X.length<=L.length:=by
 have h':∀q:{ q // q∈X },∃y,y∈L/\R q.1 y:=λq=>by
  obtain⟨y,h1,h2⟩:=h q.1 q.2;exact⟨y,h1,h2⟩
 obtain⟨f,hf⟩:=Classical.axiomOfChoice h';have hn:(X.attach.map f).Nodup:=by
  unfold List.Nodup;rw[List.pairwise_map];have hXa:X.attach.Nodup:=by
   unfold List.Nodup;have h0:(X.attach.map Subtype.val).Nodup:=by rw[List.attach_map_subtype_val];exact hX
   unfold List.Nodup at h0;rw[List.pairwise_map] at h0;exact h0.imp λhne e=>hne (by rw[e])
  refine List.Pairwise.imp (λ{a c} hne e=>hne (Subtype.ext (hi a.1 a.2 c.1 c.2 (f a) (hf a).2 (by rw[e];exact (hf c).2)))) hXa
 have:=List.Nodup.length_le_of_subset hn λy hy=>by
  obtain⟨q,_,rfl⟩:=Qbr.1 hy;exact (hf q).1
 simpa using this
theorem xc9{n N d:V3}(h:d7 n N=⟨0,0,0⟩):dot N N*dot n d=dot n N*dot N d:=by
 have e:dot N N*dot n d-dot n N*dot N d=dot (d7 n N) (d7 d N):=by simp only[dot,d7];grind
 rw[h] at e;have z:dot ⟨0,0,0⟩ (d7 d N)=0:=by simp[dot]
 rw[z] at e;exact Int.eq_of_sub_eq_zero e
theorem Sc8{n a c:V3}(h1:dot n a=0)(h2:dot n c=0):d7 n (d7 a c)=⟨0,0,0⟩:=by
 refine V3.ext' ?_ ?_ ?_
 ·have:(d7 n (d7 a c)).x=a.x*dot n c-c.x*dot n a:=by simp only[d7,dot];grind
  rw[this,h1,h2];simp
 ·have:(d7 n (d7 a c)).y=a.y*dot n c-c.y*dot n a:=by simp only[d7,dot];grind
  rw[this,h1,h2];simp
 ·have:(d7 n (d7 a c)).z=a.z*dot n c-c.z*dot n a:=by simp only[d7,dot];grind
  rw[this,h1,h2];simp
theorem X9(n a c:V3):dot n (K4 a c)=dot n a-dot n c:=by simp only[dot,K4];grind
theorem Ie0{l:List V3}(hl:l.all inV=true){n u w x:V3}(hu:u∈l)(hw:w∈l)(hx:x∈l)(h3:N3 u w x≠⟨0,0,0⟩)(hle:∀v∈l,dot n v<=dot n u)(e1:dot n w=dot n u)(e2:dot n x=dot n u)(hoff:∃v∈l,dot n v≠dot n u) :
  ∃p,bd9 l p/\dot p.n u=p.b/\dot p.n w=p.b/\dot p.n x=p.b:=by
 have hi:=Qcb.1 hl;have hT:=(Ca6 (ob2 (hi u hu) (hi w hw) (hi x hx) h3)).2;obtain⟨s1,s2,s3⟩:=Fd5 hT;have hT0:=hT;obtain⟨ok,⟨g,hg,g1,g2,g3'⟩,_⟩:=hT;generalize (G7 u w x).1=p at *
 have hN:dot (N3 u w x) (N3 u w x)>0:=Id2 h3;have hpar:d7 n (N3 u w x)=⟨0,0,0⟩:=by
  have a1:dot n (K4 w u)=0:=by rw[X9];omega
  have a2:dot n (K4 x u)=0:=by rw[X9];omega
  exact Sc8 a1 a2
 have hd:∀v,dot (N3 u w x) (N3 u w x)*(dot n v-dot n u)=dot n (N3 u w x)*(g*(dot p.n v-p.b)):=λv=>by
  rw[<- X9,xc9 hpar,<- s1];congr 1
  have:g*(dot p.n v-dot p.n u)=(g*p.n.x)*(v.x-u.x)+(g*p.n.y)*(v.y-u.y)+(g*p.n.z)*(v.z-u.z):=by simp only[dot];grind
  rw[this,g1,g2,g3'];simp only[N3,dot,K4,d7,sub]
 rcases Int.lt_trichotomy (dot n (N3 u w x)) 0 with h|h|h
 ·refine⟨ua8 p,Qc7 hu hw hx hT0 λv hv=>?_,(kb6 p u).2 s1,(kb6 p w).2 s2,(kb6 p x).2 s3⟩
  rw[rc4];show -dot p.n v<=-p.b;have k1:=hd v;have k2:dot (N3 u w x) (N3 u w x)*(dot n v-dot n u)<=0:=Qkc (by omega) (by have:=hle v hv;omega)
  apply Qeb;intro hno
  have:=Qkf h (Qke hg (show dot p.n v-p.b<0 by omega))
  omega
 ·exfalso;obtain⟨v,hv,hne⟩:=hoff;have k1:=hd v;rw[h,Qiq] at k1
  have:=(Qib.1 k1).resolve_left (by omega)
  omega
 ·refine⟨p,sd0 hu hw hx hT0 λv hv=>?_,s1,s2,s3⟩
  have k1:=hd v;have k2:dot (N3 u w x) (N3 u w x)*(dot n v-dot n u)<=0:=Qkc (by omega) (by have:=hle v hv;omega)
  apply Qeb;intro hno
  have:=Qkh h (Qkh hg (show 0<dot p.n v-p.b by omega))
  omega
structure Sim(l:List V3)(T:V3->V3):Prop where
 li:l.all inV=true
 mi:(l.map T).all inV=true
 dn:∀n:V3,∃n':V3,∃k:Int,0<k/\∀u∈l,∀w∈l,dot n' (T u)-dot n' (T w)=k*(dot n u-dot n w)
 up:∀n':V3,∃n:V3,∃k:Int,0<k/\∀u∈l,∀w∈l,dot n u-dot n w=k*(dot n' (T u)-dot n' (T w))
 n3:∀u∈l,∀w∈l,∀x∈l,N3 u w x≠⟨0,0,0⟩↔N3 (T u) (T w) (T x)≠⟨0,0,0⟩
theorem ff9{k x:Int}(hk:0<k)(h:x<=0):k*x<=0:=Qkc (by omega) h
theorem Na4{k x:Int}(hk:0<k)(h:k*x=0):x=0:=(Qib.1 h).resolve_left (by omega)
def Car(l:List V3)(T:V3->V3)(p q:Pln):Prop:=∃u w x,u∈l/\w∈l/\x∈l/\N3 u w x≠⟨0,0,0⟩/\(dot p.n u=p.b/\dot p.n w=p.b/\dot p.n x=p.b)/\dot q.n (T u)=q.b/\dot q.n (T w)=q.b/\dot q.n (T x)=q.b/\(∀v∈l,dot p.n v=p.b↔dot q.n (T v)=q.b)
section
variable{l:List V3}{T:V3->V3}(h:Sim l T)(hs:Sol l)(hs':Sol (l.map T))
include h hs hs'
theorem Sim.mem{v:V3}(hv:v∈l):T v∈l.map T:=Qbr.2 ⟨v,hv,rfl⟩
theorem Sim.down{q:Pln}(hq:q∈F0 (l.map T)):∃p∈F0 l,Car l T p q:=by
 have hf:=(Z1 h.mi q).1 hq;obtain⟨u',w',x',hu',hw',hx',h3,t1,t2,t3⟩:=hf.on;obtain⟨u,hu,rfl⟩:=Qbr.1 hu';obtain⟨w,hw,rfl⟩:=Qbr.1 hw';obtain⟨x,hx,rfl⟩:=Qbr.1 hx';obtain⟨n,k,hk,hn⟩:=h.up q.n;have h3':=(h.n3 u hu w hw x hx).2 h3;have hle:∀v∈l,dot n v<=dot n u:=λv hv=>by
  have e:=hn v hv u hu
  have:=ff9 hk (show dot q.n (T v)-dot q.n (T u)<=0 by have:=hf.hd _ (Sim.mem h hs hs' hv);omega)
  omega
 have e1:dot n w=dot n u:=by
  have e:=hn w hw u hu;rw[t2,t1,Qkb,Qka] at e;omega
 have e2:dot n x=dot n u:=by
  have e:=hn x hx u hu;rw[t3,t1,Qkb,Qka] at e;omega
 have hoff:∃v∈l,dot n v≠dot n u:=by
  obtain⟨v',hv',hne⟩:=hs'.off (id4 hf.ok) q.b;obtain⟨v,hv,rfl⟩:=Qbr.1 hv';refine⟨v,hv,λe=>hne ?_⟩
  have e':=hn v hv u hu
  have:=Na4 hk (show k*(dot q.n (T v)-dot q.n (T u))=0 by omega)
  omega
 obtain⟨p,hp,p1,p2,p3⟩:=Ie0 h.li hu hw hx h3' hle e1 e2 hoff;refine⟨p,(Z1 h.li p).2 hp,u,w,x,hu,hw,hx,h3',⟨p1,p2,p3⟩,t1,t2,t3,λv hv=>?_⟩
 -- on p if and only if n is highest there
 have hT:=(Ca6 (ob2 (Qcb.1 h.li u hu) (Qcb.1 h.li w hw) (Qcb.1 h.li x hx) h3')).2;have hN:dot (N3 u w x) (N3 u w x)>0:=Id2 h3';have c1:d7 n (N3 u w x)=⟨0,0,0⟩:=Sc8 (by rw[X9];omega) (by rw[X9];omega)
 have c2:d7 p.n (N3 u w x)=⟨0,0,0⟩:=Sc8 (by rw[X9];omega) (by rw[X9];omega)
 have d1:=xc9 (d:=K4 v u) c1;have d2:=xc9 (d:=K4 v u) c2;rw[X9] at d1 d2;have n1:dot n (N3 u w x)≠0:=λe=>by
  obtain⟨v0,hv0,hne⟩:=hoff;have d0:=xc9 (d:=K4 v0 u) c1;rw[X9,e,Qiq] at d0
  have:=Na4 hN d0
  omega
 have n2:dot p.n (N3 u w x)≠0:=λe=>by
  obtain⟨v0,hv0,hne⟩:=hs.off (id4 hp.ok) p.b;have d0:=xc9 (d:=K4 v0 u) c2;rw[X9,e,Qiq] at d0
  have:=Na4 hN d0
  omega
 have e':=hn v hv u hu;constructor
 ·intro hv';rw[show dot p.n v-dot p.n u=0 by omega,Qka] at d2
  have z:=(Qib.1 d2.symm).resolve_left n2;rw[z,Qka] at d1
  have:=Na4 hN d1
  have:=Na4 hk (show k*(dot q.n (T v)-dot q.n (T u))=0 by omega)
  omega
 ·intro hv';rw[hv',t1,Qkb,Qka] at e';rw[e',Qka] at d1;have z:=(Qib.1 d1.symm).resolve_left n1;rw[z,Qka] at d2
  have:=Na4 hN d2
  omega
theorem Sim.upf{p:Pln}(hp:p∈F0 l):∃q∈F0 (l.map T),Car l T p q:=by
 have hf:=(Z1 h.li p).1 hp;obtain⟨u,w,x,hu,hw,hx,h3,t1,t2,t3⟩:=hf.on;obtain⟨n,k,hk,hn⟩:=h.dn p.n;have h3':=(h.n3 u hu w hw x hx).1 h3;obtain⟨q,hq,q1,q2,q3⟩:=Ie0 (n:=n) h.mi (Sim.mem h hs hs' hu) (Sim.mem h hs hs' hw) (Sim.mem h hs hs' hx) h3' (λv' hv'=>by
  obtain⟨v,hv,rfl⟩:=Qbr.1 hv';have e:=hn v hv u hu
  have:=ff9 hk (show dot p.n v-dot p.n u<=0 by have:=hf.hd v hv;omega)
  omega) (by
  have e:=hn w hw u hu;rw[t2,t1,Qkb,Qka] at e
  omega) (by
  have e:=hn x hx u hu;rw[t3,t1,Qkb,Qka] at e
  omega) (by
  obtain⟨v,hv,hne⟩:=hs.off (id4 hf.ok) p.b;refine⟨T v,Sim.mem h hs hs' hv,λe=>hne ?_⟩
  have e':=hn v hv u hu
  have:=Na4 hk (show k*(dot p.n v-dot p.n u)=0 by omega)
  omega)
 obtain⟨p2,hp2,u',w',x',hu',hw',hx',h3'',on2,r1,r2,r3,hall⟩:=Sim.down h hs hs' ((Z1 h.mi q).2 hq);have e:p2=p:=Id3 h.li hs ((Z1 h.li p2).1 hp2) hf hu hw hx h3 ((hall u hu).2 q1) ((hall w hw).2 q2) ((hall x hx).2 q3) t1 t2 t3;subst e;exact⟨q,(Z1 h.mi q).2 hq,u',w',x',hu',hw',hx',h3'',on2,r1,r2,r3,hall⟩
theorem Sim.len:(F0 (l.map T)).length=(F0 l).length:=by
 refine Nat.le_antisymm ?_ ?_
 ·refine qe1 (R:=λq p=>Car l T p q) (Sd8 (Fd2 _)) (λq hq=>Sim.down h hs hs' hq) λq hq r hr p h1 h2=>?_
  obtain⟨u,w,x,hu,hw,hx,h3,⟨p1,p2,p3⟩,q1,q2,q3,_⟩:=h1;obtain⟨_,_,_,_,_,_,_,_,_,_,_,hall⟩:=h2;exact Id3 h.mi hs' ((Z1 h.mi q).1 hq) ((Z1 h.mi r).1 hr) (Sim.mem h hs hs' hu) (Sim.mem h hs hs' hw) (Sim.mem h hs hs' hx) ((h.n3 u hu w hw x hx).1 h3) q1 q2 q3 ((hall u hu).1 p1) ((hall w hw).1 p2) ((hall x hx).1 p3)
 ·refine qe1 (R:=λp q=>Car l T p q) (Sd8 (Fd2 _)) (λp hp=>Sim.upf h hs hs' hp) λp hp r hr q h1 h2=>?_
  obtain⟨u,w,x,hu,hw,hx,h3,⟨p1,p2,p3⟩,q1,q2,q3,_⟩:=h1;obtain⟨_,_,_,_,_,_,_,_,_,_,_,hall⟩:=h2;exact Id3 h.li hs ((Z1 h.li p).1 hp) ((Z1 h.li r).1 hr) hu hw hx h3 p1 p2 p3 ((hall u hu).2 q1) ((hall w hw).2 q2) ((hall x hx).2 q3)
end
theorem Ie1{l:List V3}(hl:l.all inV=true)(h4:Sol l){v:V3}(hv:v∈l):v∈tb0 (F0 l) l↔∃n,∀w∈l,w≠v->dot n w<dot n v:=by
 constructor
 ·intro h;obtain⟨p,q,s,hp,hq,hs,hm,e1,e2,e3⟩:=((Sc7 hl v).1 h).2;refine⟨⟨p.n.x+q.n.x+s.n.x,p.n.y+q.n.y+s.n.y,p.n.z+q.n.z+s.n.z⟩,λw hw hne=>?_⟩
  have hd:∀x:V3,dot ⟨p.n.x+q.n.x+s.n.x,p.n.y+q.n.y+s.n.y,p.n.z+q.n.z+s.n.z⟩ x=dot p.n x+dot q.n x+dot s.n x:=λx=>by simp only[dot];grind
  rw[hd,hd];have g1:=((Z1 hl p).1 hp).hd w hw;have g2:=((Z1 hl q).1 hq).hd w hw;have g3:=((Z1 hl s).1 hs).hd w hw;apply Qeb;intro hno;have z:=Fd4 hm (d:=K4 w v) (by rw[X9];omega) (by rw[X9];omega) (by rw[X9];omega)
  simp only[K4,V3.mk.injEq] at z;exact hne (V3.ext' (by omega) (by omega) (by omega))
 ·rintro⟨n,hn⟩;apply Qeb;intro hno
  have:=sf9 hl h4 (n:=n) (b:=dot n v-1) (λw hw=>by
   have:=hn w (He9 hl h4 hw) λe=>hno (e ▸ hw)
   omega) v hv
  omega
section
variable{l:List V3}{T:V3->V3}(h:Sim l T)
include h
theorem Sim.inj{u w:V3}(hu:u∈l)(hw:w∈l)(e:T u=T w):u=w:=by
 have key:∀n:V3,dot n u=dot n w:=λn=>by
  obtain⟨n',k,hk,hn⟩:=h.dn n;have e':=hn u hu w hw;rw[e,Qkb] at e'
  have:=Na4 hk e'.symm
  omega
 have k1:=key ⟨1,0,0⟩;have k2:=key ⟨0,1,0⟩;have k3:=key ⟨0,0,1⟩;simp only[dot] at k1 k2 k3;exact V3.ext' (by omega) (by omega) (by omega)
theorem gf0{u w x v n:V3}(h3:N3 u w x≠⟨0,0,0⟩)(e1:dot n w=dot n u)(e2:dot n x=dot n u)(hv:dot n v≠dot n u):dot (N3 u w x) (K4 v u)≠0:=λe=>by
 have hN:dot (N3 u w x) (N3 u w x)>0:=Id2 h3;have c1:d7 n (N3 u w x)=⟨0,0,0⟩:=Sc8 (by rw[X9];omega) (by rw[X9];omega)
 have d1:=xc9 (d:=K4 v u) c1;rw[e,Qka,X9] at d1
 have:=Na4 hN d1
 omega
omit h in
theorem Ie2(u w x:V3):dot (N3 u w x) w=dot (N3 u w x) u/\dot (N3 u w x) x=dot (N3 u w x) u:=by
 constructor<;>simp only[N3,dot,d7,K4]<;>grind
theorem Sim.sol:Sol l↔Sol (l.map T):=by
 constructor
 ·rintro⟨a,c,k,v,ha,hc,hk,hv,hne⟩;have h3:N3 a c k≠⟨0,0,0⟩:=λe=>hne (by rw[e];simp[dot])
  obtain⟨n',m,hm,hn⟩:=h.dn (N3 a c k);obtain⟨p1,p2⟩:=Ie2 a c k;refine⟨T a,T c,T k,T v,Qbr.2 ⟨a,ha,rfl⟩,Qbr.2 ⟨c,hc,rfl⟩,Qbr.2 ⟨k,hk,rfl⟩,Qbr.2 ⟨v,hv,rfl⟩,gf0 h (n:=n') ((h.n3 a ha c hc k hk).1 h3) ?_ ?_ ?_⟩
  ·have e:=hn c hc a ha;rw[p1,Qkb,Qka] at e;omega
  ·have e:=hn k hk a ha;rw[p2,Qkb,Qka] at e;omega
  ·intro e';have e:=hn v hv a ha
   have:=Na4 hm (show m*(dot (N3 a c k) v-dot (N3 a c k) a)=0 by omega)
   rw[X9] at hne;omega
 ·rintro⟨a',c',k',v',ha',hc',hk',hv',hne⟩;obtain⟨a,ha,rfl⟩:=Qbr.1 ha';obtain⟨c,hc,rfl⟩:=Qbr.1 hc';obtain⟨k,hk,rfl⟩:=Qbr.1 hk';obtain⟨v,hv,rfl⟩:=Qbr.1 hv';have h3:N3 (T a) (T c) (T k)≠⟨0,0,0⟩:=λe=>hne (by rw[e];simp[dot])
  obtain⟨n,m,hm,hn⟩:=h.up (N3 (T a) (T c) (T k));obtain⟨p1,p2⟩:=Ie2 (T a) (T c) (T k);refine⟨a,c,k,v,ha,hc,hk,hv,gf0 h (n:=n) ((h.n3 a ha c hc k hk).2 h3) ?_ ?_ ?_⟩
  ·have e:=hn c hc a ha;rw[p1,Qkb,Qka] at e;omega
  ·have e:=hn k hk a ha;rw[p2,Qkb,Qka] at e;omega
  ·intro e';have e:=hn v hv a ha
   have:=Na4 hm (show m*(dot (N3 (T a) (T c) (T k)) (T v)-dot (N3 (T a) (T c) (T k)) (T a))=0 by omega)
   rw[X9] at hne;omega
theorem Sim.ext(hs:Sol l){v:V3}(hv:v∈l):v∈tb0 (F0 l) l↔T v∈tb0 (F0 (l.map T)) (l.map T):=by
 rw[Ie1 h.li hs hv,Ie1 h.mi ((Sim.sol h).1 hs) (Qbr.2 ⟨v,hv,rfl⟩)];constructor
 ·rintro⟨n,hn⟩;obtain⟨n',k,hk,hd⟩:=h.dn n;refine⟨n',λw' hw' hne=>?_⟩
  obtain⟨w,hw,rfl⟩:=Qbr.1 hw';have e:=hd w hw v hv
  have:=Qke hk (show dot n w-dot n v<0 by have:=hn w hw λe=>hne (by rw[e]);omega)
  omega
 ·rintro⟨n',hn⟩;obtain⟨n,k,hk,hd⟩:=h.up n';refine⟨n,λw hw hne=>?_⟩
  have e:=hd w hw v hv
  have:=Qke hk (show dot n' (T w)-dot n' (T v)<0 by have:=hn (T w) (Qbr.2 ⟨w,hw,rfl⟩) λe=>hne (Sim.inj h hw hv e);omega)
  omega
end
structure Mat(l:List V3)(T:V3->V3)(r0 r1 r2:V3)(D:Int):Prop where
 d:0<D
 det:0<dot r0 (d7 r1 r2)
 t:∀u∈l,∀w∈l,D*((T u).x-(T w).x)=dot r0 (K4 u w)/\D*((T u).y-(T w).y)=dot r1 (K4 u w)/\D*((T u).z-(T w).z)=dot r2 (K4 u w)
theorem qe2{l:List V3}(h48:l.length<=48)(hl:l.all inV=true):(Sol l->P9 l=0)/\(¬ Sol l->P9 l=11):=by
 refine⟨Ab0 h48 hl,λhn=>?_⟩
 by_cases h0:P9 l=0
 ·exact (hn (ya4 h0).2.2).elim
 ·unfold P9 at h0 ⊢;rw[if_neg (by omega),if_neg (by rw[<- Qix,hl];simp)] at h0 ⊢
  split
  ·rfl
  ·rename_i h;rw[if_neg h] at h0;exact (h0 rfl).elim
section
variable{l:List V3}{T:V3->V3}(h:Sim l T)(h48:l.length<=48)
include h h48
theorem Sim.chk:P9 (l.map T)=P9 l:=by
 have h1:=qe2 h48 h.li;have h2:=qe2 (l:=l.map T) (by rw[Qkg];exact h48) h.mi
 by_cases hs:Sol l
 ·rw[h1.1 hs,h2.1 ((Sim.sol h).1 hs)]
 ·rw[h1.2 hs,h2.2 λk=>hs ((Sim.sol h).2 k)]
omit h h48 in
theorem Id4(l:List V3):(ta7 l).1.Nodup/\((ta7 l).1.Pairwise LtV)/\∀v∈(ta7 l).1,P9 l=0/\v∈l:=by
 unfold ta7;by_cases h0:P9 l=0
 ·rw[if_pos h0];obtain⟨_,hl,hs⟩:=ya4 h0;exact⟨(Td0 l).filter _,(cd1 l).filter _,λv hv=>⟨h0,He9 hl hs hv⟩⟩
 ·rw[if_neg h0];exact⟨List.nodup_nil,.nil,λv hv=>by simp at hv⟩
end
def Oct(r b h:Int)(v:V3):Prop:=(((v.x=r\/v.x=-r)/\(v.y=b\/v.y=-b))\/((v.x=b\/v.x=-b)/\(v.y=r\/v.y=-r)))/\(v.z=0\/v.z=h)
theorem Ae0{n x:Int}(h1:-n<=x)(h2:x<=n):smb n x=true:=by simp[smb];omega
theorem qe3{α:Type}:∀{s l:List α},s.Nodup->(∀x∈s,x∈l)->s.length<=l.length
 |[],_,_,_=>Qbw _
 |x::s,l,hs,h=>by
  obtain⟨a,c,rfl⟩:=List.append_of_mem (h x (Qch ..));have hs:=List.nodup_cons.1 hs
  have:=qe3 (s:=s) (l:=a++c) hs.2 λy hy=>by
   have h1:=h y (Qck _ hy);have h2:y≠x:=λe=>hs.1 (e ▸ hy)
   simp only[Qkd,Qbi] at h1 ⊢
   rcases h1 with h1|h1|h1
   ·exact .inl h1
   ·exact absurd h1 h2
   ·exact .inr h1
  simp only[Qdc,List.length_cons] at this ⊢;omega
theorem tf0{l r:List V3}(hl:l.all inV=true)(h:∀v,v∈l↔v∈r):F0 l=F0 r:=by
 have hr:r.all inV=true:=Qcb.2 λv hv=>Qcb.1 hl v ((h v).2 hv)
 refine bd6 (Fd2 _) (Fd2 _) λp=>?_
 rw[Z1 hl,Z1 hr];exact⟨xc5 λv=>(h v).symm,xc5 h⟩
theorem qe4{l r:List V3}(hl:l.all inV=true)(h:∀v,v∈l↔v∈r):tb0 (F0 l) l=tb0 (F0 r) r:=by
 have hr:r.all inV=true:=Qcb.2 λv hv=>Qcb.1 hl v ((h v).2 hv)
 refine Nb5 _ _ ((cd1 l).filter _) ((cd1 r).filter _) λv=>?_
 rw[Sc7 hl,Sc7 hr,h,tf0 hl h]
theorem Wa3{σ:Type}{step:σ->Stp σ}{mk:Nat->σ}{fin:Nat}(n:Nat)(hn:n<=1000)(h:∀j,j<n->step (mk j)=.next (mk (j+1)))(hf:step (mk n)=.exit fin):lp step (mk 0)=(fin,mk n):=by
 have key:=Hc8 (step:=step) (I:=λm s=>∃j,j+m=n/\s=mk j) (Q:=λt s=>t=fin/\s=mk n) (λm s ⟨j,h1,h2⟩=>by
  subst h2;cases m with
  |zero =>
   have e:j=n:=by omega
   subst e;exact .inl ⟨fin,hf,rfl,rfl⟩
  |succ m=>exact .inr ⟨_,m,rfl,h j (by omega),j+1,by omega,rfl⟩) n (mk 0) (by omega) ⟨0,by omega,rfl⟩
 exact Prod.ext key.1 key.2
def aR(r:Int):Int:=([0,0,1,2,2,3,4,4,5]:List Int).getD r.toNat 0
def bR(r:Int):Int:=([0,1,1,2,2,3,3,3,4]:List Int).getD r.toNat 0
theorem fc5{r:Int}(h1:1<=r)(h8:r<=8):r=1\/r=2\/r=3\/r=4\/r=5\/r=6\/r=7\/r=8:=by omega
theorem Hf4{r:Int}(h1:1<=r)(h8:r<=8):Wa0 ⟨r⟩=⟨1,aR r⟩:=by
 have key:∀n:Nat,n<=5->(∀j,j<n->ka0 ⟨r⟩ ⟨(j:Int)⟩=.next ⟨((j+1:Nat):Int)⟩)->ka0 ⟨r⟩ ⟨(n:Int)⟩=.exit 1->Wa0 ⟨r⟩=⟨1,(n:Int)⟩:=λn hn h hf=>by
  have e:=Wa3 (step:=ka0 ⟨r⟩) (mk:=λj=>⟨(j:Int)⟩) n (by omega) h hf
  have e:lp (ka0 (⟨r⟩:Tb2)) (⟨0⟩:db3)=(1,⟨(n:Int)⟩):=e;unfold Wa0 Tb4;simp only[e,Qij,f0]
 rcases fc5 h1 h8 with rfl|rfl|rfl|rfl|rfl|rfl|rfl|rfl
 ·exact key 0 (by omega) (λj hj=>by omega) (by kernel_rfl)
 ·exact key 1 (by omega) (λj hj=>by (rcases j with _ | j)<;>first | omega | kernel_rfl) (by kernel_rfl)
 ·exact key 2 (by omega) (λj hj=>by (rcases j with _ | _ | j)<;>first | omega | kernel_rfl) (by kernel_rfl)
 ·exact key 2 (by omega) (λj hj=>by (rcases j with _ | _ | j)<;>first | omega | kernel_rfl) (by kernel_rfl)
 ·exact key 3 (by omega) (λj hj=>by (rcases j with _ | _ | _ | j)<;>first | omega | kernel_rfl) (by kernel_rfl)
 ·exact key 4 (by omega) (λj hj=>by (rcases j with _ | _ | _ | _ | j)<;>first | omega | kernel_rfl) (by kernel_rfl)
 ·exact key 4 (by omega) (λj hj=>by (rcases j with _ | _ | _ | _ | j)<;>first | omega | kernel_rfl) (by kernel_rfl)
 ·exact key 5 (by omega) (λj hj=>by (rcases j with _ | _ | _ | _ | _ | j)<;>first | omega | kernel_rfl) (by kernel_rfl)
theorem Hf5{r:Int}(h1:1<=r)(h8:r<=8):Wa1 ⟨r⟩=⟨1,bR r⟩:=by
 have key:∀n:Nat,n<=5->(∀j,j<n->ka1 ⟨r⟩ ⟨(j:Int)⟩=.next ⟨((j+1:Nat):Int)⟩)->ka1 ⟨r⟩ ⟨(n:Int)⟩=.exit 1->Wa1 ⟨r⟩=⟨1,(n:Int)⟩:=λn hn h hf=>by
  have e:=Wa3 (step:=ka1 ⟨r⟩) (mk:=λj=>⟨(j:Int)⟩) n (by omega) h hf
  have e:lp (ka1 (⟨r⟩:Tb2)) (⟨0⟩:db3)=(1,⟨(n:Int)⟩):=e;unfold Wa1 Tb7;simp only[e,Qij,f0]
 rcases fc5 h1 h8 with rfl|rfl|rfl|rfl|rfl|rfl|rfl|rfl
 ·exact key 1 (by omega) (λj hj=>by (rcases j with _ | j)<;>first | omega | kernel_rfl) (by kernel_rfl)
 ·exact key 1 (by omega) (λj hj=>by (rcases j with _ | j)<;>first | omega | kernel_rfl) (by kernel_rfl)
 ·exact key 2 (by omega) (λj hj=>by (rcases j with _ | _ | j)<;>first | omega | kernel_rfl) (by kernel_rfl)
 ·exact key 2 (by omega) (λj hj=>by (rcases j with _ | _ | j)<;>first | omega | kernel_rfl) (by kernel_rfl)
 ·exact key 3 (by omega) (λj hj=>by (rcases j with _ | _ | _ | j)<;>first | omega | kernel_rfl) (by kernel_rfl)
 ·exact key 3 (by omega) (λj hj=>by (rcases j with _ | _ | _ | j)<;>first | omega | kernel_rfl) (by kernel_rfl)
 ·exact key 3 (by omega) (λj hj=>by (rcases j with _ | _ | _ | j)<;>first | omega | kernel_rfl) (by kernel_rfl)
 ·exact key 4 (by omega) (λj hj=>by (rcases j with _ | _ | _ | _ | j)<;>first | omega | kernel_rfl) (by kernel_rfl)
theorem Hf6{r:Int}(h1:1<=r)(h8:r<=8):Wa2 ⟨r,bR r⟩=⟨1,1⟩:=by
 have key:(∀j,j<1->ka2 ⟨r,bR r⟩ ⟨((j:Nat):Int)⟩=.next ⟨((j+1:Nat):Int)⟩)->ka2 ⟨r,bR r⟩ ⟨((1:Nat):Int)⟩=.exit 1->Wa2 ⟨r,bR r⟩=⟨1,1⟩:=λh hf=>by
  have e:=Wa3 (step:=ka2 ⟨r,bR r⟩) (mk:=λj=>⟨(j:Int)⟩) 1 (by omega) h hf
  have e:lp (ka2 (⟨r,bR r⟩:Tb8)) (⟨0⟩:db3)=(1,⟨1⟩):=e;unfold Wa2 Ub0;simp only[e,Qij,f0]
 rcases fc5 h1 h8 with rfl|rfl|rfl|rfl|rfl|rfl|rfl|rfl
 all_goals exact key (λj hj=>by (rcases j with _ | j)<;>first | omega | kernel_rfl) (by kernel_rfl)
def prL(x y z:Int):List V3:=[⟨x,y,W (z*0)⟩,⟨x,y,W (z*1)⟩,⟨y,x,W (z*0)⟩,⟨y,x,W (z*1)⟩,⟨W (0-x),y,W (z*0)⟩,⟨W (0-x),y,W (z*1)⟩,⟨W (0-y),x,W (z*0)⟩,⟨W (0-y),x,W (z*1)⟩,
 ⟨x,W (0-y),W (z*0)⟩,⟨x,W (0-y),W (z*1)⟩,⟨y,W (0-x),W (z*0)⟩,⟨y,W (0-x),W (z*1)⟩,⟨W (0-x),W (0-y),W (z*0)⟩,⟨W (0-x),W (0-y),W (z*1)⟩,⟨W (0-y),W (0-x),W (z*0)⟩,⟨W (0-y),W (0-x),W (z*1)⟩]
theorem ce8{x y z:Int}(hx:0<=x/\x<=100)(hy:0<=y/\y<=100)(hz:0<=z/\z<=100)(v:V3):v∈prL x y z↔Oct x y z v:=by
 have e:∀n:Int,-100<=n/\n<=100->W n=n:=λn hn=>eb6 (by omega) (by omega)
 unfold prL Oct;rw[e (z*0) (by omega),e (z*1) (by omega),e (0-x) (by omega),e (0-y) (by omega)]
 simp only[Qka,Int.mul_one,Int.zero_sub];obtain⟨p,q,s⟩:=v;simp only[Qbi,List.not_mem_nil,or_false,V3.mk.injEq];constructor
 ·intro h
  rcases h with h|h|h|h|h|h|h|h|h|h|h|h|h|h|h|h<;>(obtain⟨rfl,rfl,rfl⟩:=h;simp)
 ·rintro⟨h|h,hs⟩<;>obtain⟨h1,h2⟩:=h<;>rcases h1 with rfl|rfl<;>rcases h2 with rfl|rfl<;>rcases hs with rfl|rfl<;>simp
def inA(r h:Int):List V3:=prL r 0 h++prL (aR r) (aR r) h
def Ic4(r h:Int):List V3:=prL r (bR r) h
theorem tf1{r h:Int}(h1:1<=r)(h8:r<=8)(k1:1<=h)(k2:h<=12):ta0 r h=some (.tup [eL tV (ta7 (inA r h)).1,eL tV (ta7 (Ic4 r h)).1,i 1,i 0],[]):=by
 unfold ta0;simp only[Hf4 h1 h8,Hf5 h1 h8,Hf6 h1 h8];rw[bf (decide_eq_false (by omega)),bf (decide_eq_false (by omega)),bf (decide_eq_false (by omega)),bf (decide_eq_false (by omega))]
 rfl
theorem ce9(a c:List V3)(m n:Int):(hb7 (r1L tV) (r1L tV) r1I r1I).rd (.tup [eL tV a,eL tV c,i m,i n],[])=some (a,c,m,n):=by
 have h:∀l:List V3,(r1L tV).rd [] (eL tV l)=some l:=λl=>Sd4 tV l
 simp only[hb7,h];rfl
theorem sd4{r h:Int}(h1:1<=r)(h8:r<=8)(k1:1<=h)(k2:h<=12):o6 r h=((ta7 (inA r h)).1,(ta7 (Ic4 r h)).1,1,0)/\Qa1 r h=true:=by
 have e:Rd (hb7 (r1L tV) (r1L tV) r1I r1I) (ta0 r h) (λq=>q=((ta7 (inA r h)).1,(ta7 (Ic4 r h)).1,1,0)):=⟨_,_,tf1 h1 h8 k1 k2,ce9 _ _ _ _,rfl⟩
 exact⟨e.p,e.g⟩
theorem qe5(m n:Int):(hb7 (r1L tV) (r1L tV) r1I r1I).rd (.tup [.v (.slice none 0 0),.v (.slice none 0 0),i m,i n],[])=some ([],[],m,n):=ce9 [] [] m n
theorem tc4{r h:Int}(hb:r<1\/r>8\/h<1\/h>12):o6 r h=([],[],0,3)/\Qa1 r h=true:=by
 have e:Rd (hb7 (r1L tV) (r1L tV) r1I r1I) (ta0 r h) (λq=>q=([],[],0,3)):=by
  have k:Rd (hb7 (r1L tV) (r1L tV) r1I r1I) (some (.tup [.v (.slice none 0 0),.v (.slice none 0 0),i 0,i 3],[])) (λq=>q=([],[],0,3)):=⟨_,_,rfl,qe5 0 3,rfl⟩
  unfold ta0;refine Rd.sl (λ_=>k) λc1=>Rd.sl (λ_=>k) λc2=>Rd.sl (λ_=>k) λc3=>Rd.sl (λ_=>k) λc4=>?_
  have c1:=of_decide_eq_false c1;have c2:=of_decide_eq_false c2;have c3:=of_decide_eq_false c3;have c4:=of_decide_eq_false c4;omega
 exact⟨e.p,e.g⟩
end Go.Ev.Ce
