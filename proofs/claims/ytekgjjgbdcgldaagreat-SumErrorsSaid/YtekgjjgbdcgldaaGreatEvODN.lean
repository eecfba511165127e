/- Own work. -/
import Derived.Test.YtekgjjgbdcgldaaGreatEvODS
set_option linter.all false
def Qia:=@List.getD_eq_getElem?_getD
def Qib:=@List.getElem?_eq_getElem
def Qic:=@List.drop_eq_getElem_cons
def Qid:=@Eq.trans
def Qie:=@Nat.le_refl
def Qif:=@Bool.false_eq_true
namespace Go.Ev.Ce
open Go Go.Ev Go.Ev.L Go.Proofs
set_option maxRecDepth 100000
structure ab7 where
 is1:Int
 n7:List Int
 b9:Int
noncomputable def ed6:List (Nat×Sum):=[(27,dd5)]
theorem Uc7:i7 prog G ed6:=⟨Dd6,trivial⟩
structure ab8 where
 alt:Nat
 (is0 b9:Int)
noncomputable def ta8{α:Type}(kk:ab8->α)(x:ab7):α:=let t1:=(bc7 (gL tI x.n7 (W ((W (x.b9+1))-1)).toNat) x.is1);(sl (decide (x.b9>=(↑(List.length x.n7):Int))) (kk ⟨1,0,x.b9⟩) (sl (inB (W ((W (x.b9+1))-1)) (List.length x.n7)) (sl (bc8 (gL tI x.n7 (W ((W (x.b9+1))-1)).toNat) x.is1) (kk ⟨1,t1,W (x.b9+1)⟩) (kk ⟨0,0,0⟩)) (kk ⟨0,0,0⟩)))
noncomputable def o2(x:ab7):ab8:=ta8 (λr=>r) x
noncomputable def pb0(x:ab7)(r:ab8):DT (b7×List b8):=(.ite (Nat.beq r.alt 1) (.ret (i r.is0,[⟨0,2,[[eL tI x.n7,i r.b9]],true,false,0⟩])) .fail)
theorem rd0{α β:Type}(F:α->β)(kk:ab8->α)(x:ab7):F (ta8 kk x)=ta8 (λr=>F (kk r)) x:=by unfold ta8;(repeat' apply j6 (f:=F))<;>rfl
noncomputable def Ga7:Sum:=Ka5 ⟨[sPq 0,sIq],[⟨0,2,true,some [[.c 1 (nL tI),.o (.int .i64)]]⟩],λa H=>(⟨aIq a 1,hLq tI H 0 0 0,hIq H 0 0 1⟩,())⟩ (λx=>pb0 x (o2 x))
theorem Sa4:i5 prog G 68 Ga7:=B1 (enc:=λx=>⟨[.ptr 0 0 0 0,i x.is1],[⟨0,2,[[eL tI x.n7,i x.b9]],true,false,0⟩]⟩) (λa H=>by kernel_rfl) (bd b68 Uc7) λx=>o5 (Qid (b:=ta8 (λr=>(pb0 x r).run) x) (by kernel_rfl) (rd0 (λr=>(pb0 x r).run) (λr=>r) x).symm)
structure Bc3 where
 is1:Int
 n7:List Int
 b9:Int
noncomputable def Oe9:List (Nat×Sum):=[(68,Ga7)]
theorem Ae6:i7 prog G Oe9:=⟨Sa4,trivial⟩
structure Bc4 where
 alt:Nat
 (K9 L0 L1:Int)
 n7:List Int
 b9:Int
noncomputable def Hb5{α:Type}(kk:Bc4->α)(x:Bc3):α:=let t1:=(o2 ⟨W ((W (2*x.is1))+1),rt tI x.n7,x.b9⟩);let t2:=(o2 ⟨W ((W (2*x.is1))+1),rt tI (rt tI x.n7),t1.b9⟩);let t3:=(o2 ⟨W ((W (2*x.is1))+1),rt tI (rt tI (rt tI x.n7)),t2.b9⟩);(sl ((cnE tI x.n7)&&true) (sl (Nat.beq t1.alt 1) (sl ((cnE tI (rt tI x.n7))&&true) (sl (Nat.beq t2.alt 1) (sl ((cnE tI (rt tI (rt tI x.n7)))&&true) (sl (Nat.beq t3.alt 1) (kk ⟨1,W (t1.is0-x.is1),W (t2.is0-x.is1),W (t3.is0-x.is1),rt tI (rt tI (rt tI x.n7)),t3.b9⟩) (kk ⟨0,0,0,0,[],0⟩)) (kk ⟨0,0,0,0,[],0⟩)) (kk ⟨0,0,0,0,[],0⟩)) (kk ⟨0,0,0,0,[],0⟩)) (kk ⟨0,0,0,0,[],0⟩)) (kk ⟨0,0,0,0,[],0⟩))
noncomputable def pb1(x:Bc3):Bc4:=Hb5 (λr=>r) x
noncomputable def Mc7(x:Bc3)(r:Bc4):DT (b7×List b8):=(.ite (Nat.beq r.alt 1) (.ret (.agg [i r.K9,i r.L0,i r.L1],[⟨0,2,[[eL tI r.n7,i r.b9]],true,false,0⟩])) .fail)
theorem gf4{α β:Type}(F:α->β)(kk:Bc4->α)(x:Bc3):F (Hb5 kk x)=Hb5 (λr=>F (kk r)) x:=by unfold Hb5;(repeat' apply j6 (f:=F))<;>rfl
noncomputable def ed7:Sum:=Ka5 ⟨[sPq 0,sIq],[⟨0,2,true,some [[.c 1 (nL tI),.o (.int .i64)]]⟩],λa H=>(⟨aIq a 1,hLq tI H 0 0 0,hIq H 0 0 1⟩,())⟩ (λx=>Mc7 x (pb1 x))
theorem Fd2:i5 prog G 69 ed7:=B1 (enc:=λx=>⟨[.ptr 0 0 0 0,i x.is1],[⟨0,2,[[eL tI x.n7,i x.b9]],true,false,0⟩]⟩) (λa H=>by kernel_rfl) (bd b69 Ae6) λx=>o5 (Qid (b:=Hb5 (λr=>(Mc7 x r).run) x) (by kernel_rfl) (gf4 (λr=>(Mc7 x r).run) (λr=>r) x).symm)
noncomputable def Pe0:List (Nat×Sum):=[]
theorem Ae7:i7 prog G Pe0:=trivial
noncomputable def Sa5(x:V3)(y:V3):V3:=(⟨W (x.x-y.x),W (x.y-y.y),W (x.z-y.z)⟩:V3)
noncomputable def ed8:Sum:=ma5 (I8 tV) (I8 tV) (λx y=>.ret ((one r1V).enc (Sa5 x y),[]))
theorem Fd3:i5 prog G 128 ed8:=Aa1 (bd Eg3 Ae7) λx y=>o5 (by kernel_rfl)
noncomputable def gf5:List (Nat×Sum):=[(191,Sa2)]
theorem Pe1:i7 prog G gf5:=⟨hb6,trivial⟩
noncomputable def vc6(x:V3):Option (b7×List b8):=(sl (decide (x.x<(-24))) (some (b false,[])) (sl (decide (x.x>24)) (some (b false,[])) (sl (decide (x.y<(-24))) (some (b false,[])) (sl (decide (x.y>24)) (some (b false,[])) (sl (decide (x.z<(-24))) (some (b false,[])) (sl (decide (x.z>24)) (some (b false,[])) (some (b true,[]))))))))
noncomputable def wb6(x:V3):Bool:=E9 (one r1B) (vc6 x)
noncomputable def wb7(x:V3):Bool:=okO (one r1B) (vc6 x)
noncomputable def Uc8:Sum:=O9 (I8 tV) (λx=>.guard (wb7 x) (.ret ((one r1B).enc (wb6 x),[])))
theorem ed9:i5 prog G 162 Uc8:=ua7 (bd Gg1 Pe1) (one r1B) (o:=vc6) λx=>o5 (by kernel_rfl)
noncomputable def Fd4:List (Nat×Sum):=[(162,Uc8),(128,ed8),(164,uc0),(163,Mc3),(84,Ac8)]
theorem rd1:i7 prog G Fd4:=⟨ed9,Fd3,Tc0,md6,Mc0,trivial⟩
noncomputable def Ya0(x:V3)(y:V3)(z:V3):Option (b7×List b8):=let t1:=(wb6 x);let t2:=(wb6 y);let t3:=(wb6 z);let t4:=(Sa5 y x);let t5:=(Sa5 z x);let t6:=(aa5 t4 t5);let t7:=(cb9 t6);let t8:=(Ia8 t7.1 x);(sl (wb7 x) (sl (!t1) (some (.tup [.agg [i 0,i 0,i 0,i 0],b false],[])) (sl (wb7 y) (sl (!t2) (some (.tup [.agg [i 0,i 0,i 0,i 0],b false],[])) (sl (wb7 z) (sl (!t3) (some (.tup [.agg [i 0,i 0,i 0,i 0],b false],[])) (sl (Kb1 t6) (sl (t7.2==0) (some (.tup [.agg [i 0,i 0,i 0,i 0],b false],[])) (some (.tup [.agg [i t7.1.x,i t7.1.y,i t7.1.z,i t8],b true],[]))) none)) none)) none)) none)
noncomputable def ya3(x:V3)(y:V3)(z:V3):Pln×Bool:=E9 (two r1P r1B) (Ya0 x y z)
noncomputable def ya4(x:V3)(y:V3)(z:V3):Bool:=okO (two r1P r1B) (Ya0 x y z)
noncomputable def sb1:Sum:=Qd2 (I8 tV) (I8 tV) (I8 tV) (λx y z=>.guard (ya4 x y z) (.ret ((two r1P r1B).enc (ya3 x y z),[])))
theorem Mb2:i5 prog G 107 sb1:=cg8 (bd Cg5 rd1) (two r1P r1B) (o:=Ya0) λx y z=>o5 (by kernel_rfl)
noncomputable def Ae8:List (Nat×Sum):=[(68,Ga7),(69,ed7),(107,sb1),(27,dd5)]
theorem ke4:i7 prog G Ae8:=⟨Sa4,Fd2,Mb2,Dd6,trivial⟩
noncomputable def Da8(x:List Int):Option (b7×List b8):=let t1:=(o2 ⟨8,rt tI x,0⟩);let t2:=(o2 ⟨17,rt tI (rt tI x),t1.b9⟩);let t3:=(pb1 ⟨8,rt tI (rt tI (rt tI x)),t2.b9⟩);let t4:=(pb1 ⟨8,rt tI t3.n7,t3.b9⟩);let t5:=(pb1 ⟨8,rt tI t4.n7,t4.b9⟩);let t6:=(ya3 (⟨t3.K9,t3.L0,t3.L1⟩:V3) (⟨t4.K9,t4.L0,t4.L1⟩:V3) (⟨t5.K9,t5.L0,t5.L1⟩:V3));let t7:=(bc7 (W (t2.is0-8)) 3);let w0:Option (b7×List b8):=(sl (bc8 (W (t2.is0-8)) 3) (sl (t7==1) (some (.agg [i 0,i (W (1-(W (2*(Int.tmod t1.is0 2))))),i 0,i (W (t2.is0-8))],[])) (sl (t7==2) (some (.agg [i 0,i 0,i (W (1-(W (2*(Int.tmod t1.is0 2))))),i (W (t2.is0-8))],[])) (some (.agg [i (W (1-(W (2*(Int.tmod t1.is0 2))))),i 0,i 0,i (W (t2.is0-8))],[])))) none);(sl ((cnE tI x)&&true) (sl (Nat.beq t1.alt 1) (sl ((cnE tI (rt tI x))&&true) (sl (Nat.beq t2.alt 1) (sl ((cnE tI (rt tI (rt tI x)))&&true) (sl (Nat.beq t3.alt 1) (sl ((cnE tI t3.n7)&&true) (sl (Nat.beq t4.alt 1) (sl ((cnE tI t4.n7)&&true) (sl (Nat.beq t5.alt 1) (sl (ya4 (⟨t3.K9,t3.L0,t3.L1⟩:V3) (⟨t4.K9,t4.L0,t4.L1⟩:V3) (⟨t5.K9,t5.L0,t5.L1⟩:V3)) (sl (decide (t1.is0>1)) (sl t6.2 (some (.agg [i t6.1.n.x,i t6.1.n.y,i t6.1.n.z,i t6.1.b],[])) w0) w0) none) none) none) none) none) none) none) none) none) none) none)
noncomputable def Pa0(x:List Int):Pln:=E9 (one r1P) (Da8 x)
noncomputable def kc2(x:List Int):Bool:=okO (one r1P) (Da8 x)
noncomputable def Fd5:Sum:=O9 (ea7 tI) (λx=>.guard (kc2 x) (.ret ((one r1P).enc (Pa0 x),[])))
theorem Ae9:i5 prog G 51 Fd5:=ua7 (bd b51 ke4) (one r1P) (o:=Da8) λx=>o5 (by kernel_rfl)
noncomputable def Be0:List (Nat×Sum):=[(128,ed8)]
theorem ke5:i7 prog G Be0:=⟨Fd3,trivial⟩
noncomputable def pb2(x:Pln):Pln:=let t1:=(Sa5 (⟨0,0,0⟩:V3) x.n);(⟨t1,W (0-x.b)⟩:Pln)
noncomputable def Fd6:Sum:=O9 (I8 tP) (λx=>.ret ((one r1P).enc (pb2 x),[]))
theorem Be1:i5 prog G 73 Fd6:=Db9 (bd b73 ke5) λx=>o5 (by kernel_rfl)
noncomputable def Be2:List (Nat×Sum):=[(156,uc4),(162,Uc8),(84,Ac8)]
theorem ke6:i7 prog G Be2:=⟨Tc4,ed9,Mc0,trivial⟩
noncomputable def db1(x:Pln)(y:V3):Option (b7×List b8):=let t1:=(ub5 x);let t2:=(wb6 y);let t3:=(Ia8 x.n y);(sl (ub6 x) (sl (!t1) (some (i 0,[])) (sl (wb7 y) (sl (!t2) (some (i 0,[])) (sl (decide ((W (t3-x.b))<0)) (some (i (-1),[])) (sl (decide ((W (t3-x.b))>0)) (some (i 1,[])) (some (i 0,[]))))) none)) none)
noncomputable def pb3(x:Pln)(y:V3):Int:=E9 (one r1I) (db1 x y)
noncomputable def kc3(x:Pln)(y:V3):Bool:=okO (one r1I) (db1 x y)
noncomputable def Mc8:Sum:=ma5 (I8 tP) (I8 tV) (λx y=>.guard (kc3 x y) (.ret ((one r1I).enc (pb3 x y),[])))
theorem md9:i5 prog G 135 Mc8:=nb8 (bd Eg7 ke6) (one r1I) (o:=db1) λx y=>o5 (by kernel_rfl)
noncomputable def vc7:List (Nat×Sum):=[]
theorem rd2:i7 prog G vc7:=trivial
structure Ga8 where
 (c8 b9 c9 g8 y5 y6 y7 ka4:Int)
structure U4 where
 is7:Int
noncomputable def cc8(p:Ga8)(s:U4):St:=⟨ra 5 (.ptr 0 0 0 0::.ptr 1 0 0 0::i s.is7::ra 42 []),[⟨0,4,[[i p.c8,i p.b9,i p.c9,i p.g8]],true,false,0⟩,⟨0,4,[[i p.y5,i p.y6,i p.y7,i p.ka4]],true,false,0⟩]⟩
noncomputable def Y4{α:Type}(k:U4->α)(e:Nat->α)(z:α)(p:Ga8)(s:U4):α:=(sl (decide (s.is7<4)) (sl (inB s.is7 4) (sl ((Nat.ble ((0+(s.is7.toNat*1))+1) 4)&&(oa7 [CK.int .i64] (j8 [i p.c8,i p.b9,i p.c9,i p.g8] (0+(s.is7.toNat*1))))) (sl (inB s.is7 4) (sl ((Nat.ble ((0+(s.is7.toNat*1))+1) 4)&&(oa7 [CK.int .i64] (j8 [i p.y5,i p.y6,i p.y7,i p.ka4] (0+(s.is7.toNat*1))))) (sl (decide ((toI (hdA (j8 [i p.c8,i p.b9,i p.c9,i p.g8] (0+(s.is7.toNat*1)))))<(toI (hdA (j8 [i p.y5,i p.y6,i p.y7,i p.ka4] (0+(s.is7.toNat*1))))))) (e 1) (sl (inB s.is7 4) (sl ((Nat.ble ((0+(s.is7.toNat*1))+1) 4)&&(oa7 [CK.int .i64] (j8 [i p.c8,i p.b9,i p.c9,i p.g8] (0+(s.is7.toNat*1))))) (sl (inB s.is7 4) (sl ((Nat.ble ((0+(s.is7.toNat*1))+1) 4)&&(oa7 [CK.int .i64] (j8 [i p.y5,i p.y6,i p.y7,i p.ka4] (0+(s.is7.toNat*1))))) (sl (decide ((toI (hdA (j8 [i p.c8,i p.b9,i p.c9,i p.g8] (0+(s.is7.toNat*1)))))>(toI (hdA (j8 [i p.y5,i p.y6,i p.y7,i p.ka4] (0+(s.is7.toNat*1))))))) (e 2) (k ⟨W (s.is7+1)⟩)) z) z) z) z)) z) z) z) z) (e 3))
noncomputable def K8(p:Ga8)(s:U4):Stp U4:=Y4 .next .exit .fail p s
noncomputable def Ab6:Lo Ga8 U4:=⟨En vc7,0,Xf6,[1,1,1,0,1,4,4],[5,6,7],.p,[⟨ru2 5 (sPq 0::sPq 1::sIq::ru2 42 []),[⟨0,4,true,some [kLq 4]⟩,⟨0,4,true,some [kLq 4]⟩],λa H=>(⟨hIq H 0 0 0,hIq H 0 0 1,hIq H 0 0 2,hIq H 0 0 3,hIq H 1 0 0,hIq H 1 0 1,hIq H 1 0 2,hIq H 1 0 3⟩,⟨aIq a 7⟩)⟩],K8,[(none,λp s=>⟨[i (-1)],[]⟩),(none,λp s=>⟨[i 1],[]⟩),(some 0,λp s=>upq (cc8 p s) [(32,i s.is7),(33,b (decide (s.is7<4)))])],cc8⟩
theorem fd0:Ab6.Ok:=Lo.ok [] (by kernel_rfl) .nil rfl (.cons (λa H=>by kernel_rfl) .nil) λp s=>(.of @Y4 (λF _ _ _ _ _=>by unfold Y4;(repeat' apply j6 (f:=F))<;>rfl) (by kernel_rfl))
noncomputable def ya5(x:Pln)(y:Pln):Option (b7×List b8):=let t1:=(lp (K8 (⟨x.n.x,x.n.y,x.n.z,x.b,y.n.x,y.n.y,y.n.z,y.b⟩:Ga8)) (⟨0⟩:U4));(sl (Nat.beq t1.1 1) (some (i (-1),[])) (sl (Nat.beq t1.1 2) (some (i 1,[])) (sl (Nat.beq t1.1 3) (some (i 0,[])) none)))
noncomputable def ya6(x:Pln)(y:Pln):Int:=E9 (one r1I) (ya5 x y)
noncomputable def Xb5(x:Pln)(y:Pln):Bool:=okO (one r1I) (ya5 x y)
noncomputable def Hc1:Sum:=ma5 (I8 tP) (I8 tP) (λx y=>.guard (Xb5 x y) (.ret ((one r1I).enc (ya6 x y),[])))
theorem Fd7:i5 prog G 182 Hc1:=nb8 (bd Hg6 rd2) (one r1I) (o:=ya5) λx y=>za7 (.s .p (.s .p (.s .p (.s (.s .p (.b (.u Ab6.ls))) .p)))) [Ab6.pr] (by kernel_rfl) (.cons fd0 .nil) (by kernel_rfl)
noncomputable def wb8:List (Nat×Sum):=[(107,sb1),(135,Mc8)]
theorem ke7:i7 prog G wb8:=⟨Mb2,md9,trivial⟩
structure Da9 where
 f7:List V3
 (is3 is4 is5:Int)
 bs7:Bool
 (c8 b9 c9 g8:Int)
structure na6 where
 is8:Int
noncomputable def Xb6(p:Da9)(s:na6):St:=⟨eL tV p.f7::.unk::.unk::i p.is3::i p.is4::i p.is5::.ptr 0 0 0 0::b p.bs7::i s.is8::ra 48 [],[⟨0,4,[[i p.c8,i p.b9,i p.c9,i p.g8]],true,false,0⟩]⟩
noncomputable def ga8{α:Type}(k:na6->α)(e:Nat->α)(z:α)(p:Da9)(s:na6):α:=let t1:=(pb3 (⟨(⟨p.c8,p.b9,p.c9⟩:V3),p.g8⟩:Pln) (gL tV p.f7 s.is8.toNat));(sl (decide (s.is8<(↑(List.length p.f7):Int))) (sl p.bs7 (sl (inB s.is8 (List.length p.f7)) (sl (kc3 (⟨(⟨p.c8,p.b9,p.c9⟩:V3),p.g8⟩:Pln) (gL tV p.f7 s.is8.toNat)) (sl (t1 != 0) (e 1) (k ⟨W (s.is8+1)⟩)) z) z) (e 2)) (e 3))
noncomputable def E0(p:Da9)(s:na6):Stp na6:=ga8 .next .exit .fail p s
noncomputable def kc4:Lo Da9 na6:=⟨En wb8,0,rf8,[1,0,1,4,4,1,0,4,1,4,4,1,0,4,1,4,4,1,0,4,1,1,4,4],[0,3,4,5,6,7,8],.p,[⟨sLq tV::sUq::sUq::sIq::sIq::sIq::sPq 0::sBq::sIq::ru2 48 [],[⟨0,4,true,some [kLq 4]⟩],λa H=>(⟨aLq tV a 0,aIq a 3,aIq a 4,aIq a 5,aBq a 7,hIq H 0 0 0,hIq H 0 0 1,hIq H 0 0 2,hIq H 0 0 3⟩,⟨aIq a 8⟩)⟩],E0,[(none,λp s=>⟨[b false],[]⟩),(some 6,λp s=>upq (Xb6 p s) [(41,i s.is8),(42,eL tV p.f7),(43,i (↑(List.length p.f7):Int)),(44,b (decide (s.is8<(↑(List.length p.f7):Int)))),(45,b true),(46,b p.bs7),(47,b p.bs7)]),(some 6,λp s=>upq (Xb6 p s) [(41,i s.is8),(42,eL tV p.f7),(43,i (↑(List.length p.f7):Int)),(44,b (decide (s.is8<(↑(List.length p.f7):Int)))),(45,b false),(46,u),(47,b false)])],Xb6⟩
theorem Td0:kc4.Ok:=Lo.ok [] (by kernel_rfl) .nil rfl (.cons (λa H=>by kernel_rfl) .nil) λp s=>(.of @ga8 (λF _ _ _ _ _=>by unfold ga8;(repeat' apply j6 (f:=F))<;>rfl) (by kernel_rfl))
structure jb3 where
 (is3 is4:Int)
structure na7 where
 f7:List V3
 is5:Int
noncomputable def Hc2(p:jb3)(s:na7):St:=⟨eL tV s.f7::.unk::.unk::i p.is3::i p.is4::i s.is5::ra 51 [],[]⟩
noncomputable def ra2{α:Type}(k:na7->α)(e:Nat->α)(z:α)(p:jb3)(s:na7):α:=let t1:=(ya3 (gL tV s.f7 p.is3.toNat) (gL tV s.f7 p.is4.toNat) (gL tV s.f7 s.is5.toNat));let t2:=(lp (E0 (⟨rt tV s.f7,p.is3,p.is4,s.is5,t1.2,t1.1.n.x,t1.1.n.y,t1.1.n.z,t1.1.b⟩:Da9)) (⟨0⟩:na6));(sl (decide (s.is5<p.is4)) (sl (inB p.is3 (List.length s.f7)) (sl (inB p.is4 (List.length s.f7)) (sl (inB s.is5 (List.length s.f7)) (sl (ya4 (gL tV s.f7 p.is3.toNat) (gL tV s.f7 p.is4.toNat) (gL tV s.f7 s.is5.toNat)) (sl ((cnE tV s.f7)&&true) (sl (Nat.beq t2.1 1) (e 1) (sl (Nat.beq t2.1 2) (k ⟨rt tV s.f7,W (s.is5+1)⟩) (sl (Nat.beq t2.1 3) (k ⟨rt tV s.f7,W (s.is5+1)⟩) z))) z) z) z) z) z) (e 2))
noncomputable def W9(p:jb3)(s:na7):Stp na7:=ra2 .next .exit .fail p s
noncomputable def kc5:Lo jb3 na7:=⟨En wb8,0,rf8,[1,0,1,4,4,1,0,4,1,4,4,1,0,4,1,4,4],[0,3,4,5],.s .p (.s (.b (.s .p (.s .p (.b (.u kc4.ls))))) .p),[⟨sLq tV::sUq::sUq::sIq::sIq::sIq::ru2 51 [],[],λa H=>(⟨aIq a 3,aIq a 4⟩,⟨aLq tV a 0,aIq a 5⟩)⟩],W9,[(none,λp s=>⟨[b false],[]⟩),(some 4,λp s=>upq (Hc2 p s) [(20,i s.is5),(21,i p.is4),(22,b (decide (s.is5<p.is4)))])],Hc2⟩
theorem Td1:kc5.Ok:=Lo.ok [kc4.pr] (by kernel_rfl) (.cons Td0 .nil) rfl (.cons (λa H=>by kernel_rfl) .nil) λp s=>(.of @ra2 (λF _ _ _ _ _=>by unfold ra2;(repeat' apply j6 (f:=F))<;>rfl) (by kernel_rfl))
structure jb4 where
 is3:Int
structure na8 where
 f7:List V3
 is4:Int
noncomputable def Hc3(p:jb4)(s:na8):St:=⟨eL tV s.f7::.unk::.unk::i p.is3::i s.is4::ra 52 [],[]⟩
noncomputable def ra3{α:Type}(k:na8->α)(e:Nat->α)(z:α)(p:jb4)(s:na8):α:=let t1:=(lp (W9 (⟨p.is3,s.is4⟩:jb3)) (⟨rt tV s.f7,0⟩:na7));(sl (decide (s.is4<p.is3)) (sl ((cnE tV s.f7)&&true) (sl (Nat.beq t1.1 1) (e 1) (sl (Nat.beq t1.1 2) (k ⟨t1.2.f7,W (s.is4+1)⟩) z)) z) (e 2))
noncomputable def X0(p:jb4)(s:na8):Stp na8:=ra3 .next .exit .fail p s
noncomputable def kc6:Lo jb4 na8:=⟨En wb8,0,rf8,[1,0,1,4,4,1,0,4,1,4,4],[0,3,4],.s .p (.s (.b (.s .p (.b (.u kc5.ls)))) .p),[⟨sLq tV::sUq::sUq::sIq::sIq::ru2 52 [],[],λa H=>(⟨aIq a 3⟩,⟨aLq tV a 0,aIq a 4⟩)⟩],X0,[(none,λp s=>⟨[b false],[]⟩),(some 2,λp s=>upq (Hc3 p s) [(15,i s.is4),(16,i p.is3),(17,b (decide (s.is4<p.is3)))])],Hc3⟩
theorem Td2:kc6.Ok:=Lo.ok [kc5.pr] (by kernel_rfl) (.cons Td1 .nil) rfl (.cons (λa H=>by kernel_rfl) .nil) λp s=>(.of @ra3 (λF _ _ _ _ _=>by unfold ra3;(repeat' apply j6 (f:=F))<;>rfl) (by kernel_rfl))
structure jb5 where
structure na9 where
 f7:List V3
 is3:Int
noncomputable def Hc4(p:jb5)(s:na9):St:=⟨eL tV s.f7::.unk::.unk::i s.is3::ra 53 [],[]⟩
noncomputable def ra4{α:Type}(k:na9->α)(e:Nat->α)(z:α)(p:jb5)(s:na9):α:=let t1:=(lp (X0 (⟨s.is3⟩:jb4)) (⟨rt tV s.f7,0⟩:na8));(sl (decide (s.is3<(↑(List.length s.f7):Int))) (sl ((cnE tV s.f7)&&true) (sl (Nat.beq t1.1 1) (e 1) (sl (Nat.beq t1.1 2) (k ⟨t1.2.f7,W (s.is3+1)⟩) z)) z) (e 2))
noncomputable def X1(p:jb5)(s:na9):Stp na9:=ra4 .next .exit .fail p s
noncomputable def kc7:Lo jb5 na9:=⟨En wb8,0,rf8,[1,0,1,4,4],[0,3],.s .p (.s (.b (.s .p (.b (.u kc6.ls)))) .p),[⟨sLq tV::sUq::sUq::sIq::ru2 53 [],[],λa H=>(⟨⟩,⟨aLq tV a 0,aIq a 3⟩)⟩],X1,[(none,λp s=>⟨[b false],[]⟩),(some 0,λp s=>upq (Hc4 p s) [(9,i s.is3),(10,eL tV s.f7),(11,i (↑(List.length s.f7):Int)),(12,b (decide (s.is3<(↑(List.length s.f7):Int))))])],Hc4⟩
theorem Td3:kc7.Ok:=Lo.ok [kc6.pr] (by kernel_rfl) (.cons Td2 .nil) rfl (.cons (λa H=>by kernel_rfl) .nil) λp s=>(.of @ra4 (λF _ _ _ _ _=>by unfold ra4;(repeat' apply j6 (f:=F))<;>rfl) (by kernel_rfl))
noncomputable def db2(x:List V3):Option (b7×List b8):=let t1:=(lp (X1 (⟨⟩:jb5)) (⟨rt tV x,0⟩:na9));(sl ((cnE tV x)&&true) (sl (Nat.beq t1.1 1) (some (b false,[])) (sl (Nat.beq t1.1 2) (some (b true,[])) none)) none)
noncomputable def db3(x:List V3):Bool:=E9 (one r1B) (db2 x)
noncomputable def pb4(x:List V3):Bool:=okO (one r1B) (db2 x)
noncomputable def Mc9:Sum:=O9 (ea7 tV) (λx=>.guard (pb4 x) (.ret ((one r1B).enc (db3 x),[])))
theorem nd0:i5 prog G 78 Mc9:=ua7 (bd b78 ke7) (one r1B) (o:=db2) λx=>za7 (.s .p (.s (.s .p (.b (.u kc7.ls))) .p)) [kc7.pr] (by kernel_rfl) (.cons Td3 .nil) (by kernel_rfl)
noncomputable def Uc9:List (Nat×Sum):=[(162,Uc8),(78,Mc9)]
theorem Td4:i7 prog G Uc9:=⟨ed9,nd0,trivial⟩
structure Ya1 where
 f7:List V3
structure S4 where
 is3:Int
noncomputable def vc8(p:Ya1)(s:S4):St:=⟨eL tV p.f7::.unk::.unk::i s.is3::ra 17 [],[]⟩
noncomputable def la6{α:Type}(k:S4->α)(e:Nat->α)(z:α)(p:Ya1)(s:S4):α:=let t1:=(wb6 (gL tV p.f7 s.is3.toNat));(sl (decide (s.is3<(↑(List.length p.f7):Int))) (sl (inB s.is3 (List.length p.f7)) (sl (wb7 (gL tV p.f7 s.is3.toNat)) (sl (!t1) (e 1) (k ⟨W (s.is3+1)⟩)) z) z) (e 2))
noncomputable def ga9(p:Ya1)(s:S4):Stp S4:=la6 .next .exit .fail p s
noncomputable def Xb7:Lo Ya1 S4:=⟨En Uc9,0,Wf9,[1,1,0,1,4,4],[0,3],.p,[⟨sLq tV::sUq::sUq::sIq::ru2 17 [],[],λa H=>(⟨aLq tV a 0⟩,⟨aIq a 3⟩)⟩],ga9,[(none,λp s=>⟨[i 3],[]⟩),(some 0,λp s=>upq (vc8 p s) [(7,i s.is3),(8,eL tV p.f7),(9,i (↑(List.length p.f7):Int)),(10,b (decide (s.is3<(↑(List.length p.f7):Int))))])],vc8⟩
theorem Fd8:Xb7.Ok:=Lo.ok [] (by kernel_rfl) .nil rfl (.cons (λa H=>by kernel_rfl) .nil) λp s=>(.of @la6 (λF _ _ _ _ _=>by unfold la6;(repeat' apply j6 (f:=F))<;>rfl) (by kernel_rfl))
noncomputable def Pa1(x:List V3):Option (b7×List b8):=let t1:=(lp (ga9 (⟨rt tV x⟩:Ya1)) (⟨0⟩:S4));let t2:=(db3 (rt tV (rt tV x)));(sl (decide ((↑(List.length x):Int)>48)) (some (i 2,[])) (sl ((cnE tV x)&&true) (sl (Nat.beq t1.1 1) (some (i 3,[])) (sl (Nat.beq t1.1 2) (sl (okE tV (rt tV x)) (sl (pb4 (rt tV (rt tV x))) (sl t2 (some (i 11,[])) (some (i 0,[]))) none) none) none)) none))
noncomputable def wb9(x:List V3):Int:=E9 (one r1I) (Pa1 x)
noncomputable def vc9(x:List V3):Bool:=okO (one r1I) (Pa1 x)
noncomputable def nd1:Sum:=O9 (ea7 tV) (λx=>.guard (vc9 x) (.ret ((one r1I).enc (wb9 x),[])))
theorem ke8:i5 prog G 125 nd1:=ua7 (bd Eg0 Td4) (one r1I) (o:=Pa1) λx=>za7 (.s .p (.s .p (.s (.s .p (.b (.u Xb7.ls))) .p))) [Xb7.pr] (by kernel_rfl) (.cons Fd8 .nil) (by kernel_rfl)
noncomputable def Vc0:List (Nat×Sum):=[(135,Mc8)]
theorem Td5:i7 prog G Vc0:=⟨md9,trivial⟩
structure Ya2 where
 W8:List V3
 (c8 b9 c9 g8:Int)
structure S5 where
 is5:Int
noncomputable def wc0(p:Ya2)(s:S5):St:=⟨.unk::eL tV p.W8::.ptr 0 0 0 0::.unk::.unk::i s.is5::ra 13 [],[⟨0,4,[[i p.c8,i p.b9,i p.c9,i p.g8]],true,false,0⟩]⟩
noncomputable def la7{α:Type}(k:S5->α)(e:Nat->α)(z:α)(p:Ya2)(s:S5):α:=let t1:=(pb3 (⟨(⟨p.c8,p.b9,p.c9⟩:V3),p.g8⟩:Pln) (gL tV p.W8 s.is5.toNat));(sl (decide (s.is5<(↑(List.length p.W8):Int))) (sl (inB s.is5 (List.length p.W8)) (sl (kc3 (⟨(⟨p.c8,p.b9,p.c9⟩:V3),p.g8⟩:Pln) (gL tV p.W8 s.is5.toNat)) (sl (decide (t1>0)) (e 1) (k ⟨W (s.is5+1)⟩)) z) z) (e 2))
noncomputable def ha0(p:Ya2)(s:S5):Stp S5:=la7 .next .exit .fail p s
noncomputable def Xb8:Lo Ya2 S5:=⟨En Vc0,0,Xf0,[1,0,1,4,4],[1,2,5],.p,[⟨sUq::sLq tV::sPq 0::sUq::sUq::sIq::ru2 13 [],[⟨0,4,true,some [kLq 4]⟩],λa H=>(⟨aLq tV a 1,hIq H 0 0 0,hIq H 0 0 1,hIq H 0 0 2,hIq H 0 0 3⟩,⟨aIq a 5⟩)⟩],ha0,[(none,λp s=>⟨[b false],[]⟩),(some 0,λp s=>upq (wc0 p s) [(6,i s.is5),(7,eL tV p.W8),(8,i (↑(List.length p.W8):Int)),(9,b (decide (s.is5<(↑(List.length p.W8):Int))))])],wc0⟩
theorem Fd9:Xb8.Ok:=Lo.ok [] (by kernel_rfl) .nil rfl (.cons (λa H=>by kernel_rfl) .nil) λp s=>(.of @la7 (λF _ _ _ _ _=>by unfold la7;(repeat' apply j6 (f:=F))<;>rfl) (by kernel_rfl))
noncomputable def Pa2(x:Pln)(y:List V3):Option (b7×List b8):=let t1:=(lp (ha0 (⟨rt tV y,x.n.x,x.n.y,x.n.z,x.b⟩:Ya2)) (⟨0⟩:S5));(sl ((cnE tV y)&&true) (sl (Nat.beq t1.1 1) (some (b false,[])) (sl (Nat.beq t1.1 2) (some (b true,[])) none)) none)
noncomputable def Ca6(x:Pln)(y:List V3):Bool:=E9 (one r1B) (Pa2 x y)
noncomputable def pa1(x:Pln)(y:List V3):Bool:=okO (one r1B) (Pa2 x y)
noncomputable def nd2:Sum:=ma5 (I8 tP) (ea7 tV) (λx y=>.guard (pa1 x y) (.ret ((one r1B).enc (Ca6 x y),[])))
theorem ke9:i5 prog G 126 nd2:=nb8 (bd Eg1 Td5) (one r1B) (o:=Pa2) λx y=>za7 (.s .p (.s (.s .p (.b (.u Xb8.ls))) .p)) [Xb8.pr] (by kernel_rfl) (.cons Fd9 .nil) (by kernel_rfl)
noncomputable def Gd0:List (Nat×Sum):=[(182,Hc1)]
theorem Be3:i7 prog G Gd0:=⟨Fd7,trivial⟩
structure xb0 where
 d9:List Pln
 (c8 b9 c9 g8:Int)
structure ha3 where
 is5:Int
noncomputable def Vc1(p:xb0)(s:ha3):St:=⟨eL tP p.d9::.unk::.unk::.ptr 0 0 0 0::.unk::i s.is5::ra 42 [],[⟨0,4,[[i p.c8,i p.b9,i p.c9,i p.g8]],true,false,0⟩]⟩
noncomputable def ya7{α:Type}(k:ha3->α)(e:Nat->α)(z:α)(p:xb0)(s:ha3):α:=let t1:=(ya6 (gL tP p.d9 s.is5.toNat) (⟨(⟨p.c8,p.b9,p.c9⟩:V3),p.g8⟩:Pln));(sl (decide (s.is5<(↑(List.length p.d9):Int))) (sl (inB s.is5 (List.length p.d9)) (sl (Xb5 (gL tP p.d9 s.is5.toNat) (⟨(⟨p.c8,p.b9,p.c9⟩:V3),p.g8⟩:Pln)) (sl (decide (t1<0)) (k ⟨W (s.is5+1)⟩) (e 1)) z) z) (e 2))
noncomputable def fa4(p:xb0)(s:ha3):Stp ha3:=ya7 .next .exit .fail p s
noncomputable def wc1:Lo xb0 ha3:=⟨En Gd0,0,Xf1,[1,1,0,4,4],[0,3,5],.p,[⟨sLq tP::sUq::sUq::sPq 0::sUq::sIq::ru2 42 [],[⟨0,4,true,some [kLq 4]⟩],λa H=>(⟨aLq tP a 0,hIq H 0 0 0,hIq H 0 0 1,hIq H 0 0 2,hIq H 0 0 3⟩,⟨aIq a 5⟩)⟩],fa4,[(some 0,λp s=>let t1:=(ya6 (gL tP p.d9 s.is5.toNat) (⟨(⟨p.c8,p.b9,p.c9⟩:V3),p.g8⟩:Pln));⟨eL tP p.d9::.unk::.unk::.ptr 0 0 0 0::.unk::i s.is5::.unk::i s.is5::eL tP p.d9::i (↑(List.length p.d9):Int)::b (decide (s.is5<(↑(List.length p.d9):Int)))::b true::eL tP p.d9::i s.is5::.tptr [i (gL tP p.d9 s.is5.toNat).n.x,i (gL tP p.d9 s.is5.toNat).n.y,i (gL tP p.d9 s.is5.toNat).n.z,i (gL tP p.d9 s.is5.toNat).b]::.agg [i (gL tP p.d9 s.is5.toNat).n.x,i (gL tP p.d9 s.is5.toNat).n.y,i (gL tP p.d9 s.is5.toNat).n.z,i (gL tP p.d9 s.is5.toNat).b]::.agg [i p.c8,i p.b9,i p.c9,i p.g8]::i t1::b (decide (t1<0))::b (decide (t1<0))::ra 28 [],[⟨0,4,[[i p.c8,i p.b9,i p.c9,i p.g8]],true,false,0⟩]⟩),(some 0,λp s=>upq (Vc1 p s) [(7,i s.is5),(8,eL tP p.d9),(9,i (↑(List.length p.d9):Int)),(10,b (decide (s.is5<(↑(List.length p.d9):Int)))),(11,b false),(12,u),(13,u),(14,u),(15,u),(16,u),(17,u),(18,u),(19,b false)])],Vc1⟩
theorem le0:wc1.Ok:=Lo.ok [] (by kernel_rfl) .nil rfl (.cons (λa H=>by kernel_rfl) .nil) λp s=>(.of @ya7 (λF _ _ _ _ _=>by unfold ya7;(repeat' apply j6 (f:=F))<;>rfl) (by kernel_rfl))
noncomputable def pb5(x:List Pln)(y:Pln):Option (b7×List b8):=let t1:=(lp (fa4 (⟨rt tP x,y.n.x,y.n.y,y.n.z,y.b⟩:xb0)) (⟨0⟩:ha3));let a0:=(o8 (λk=>(λk=>(tP).row (gL tP (rt tP x) k)) (0+k)) (List.range (t1.2.is5.toNat-0)));let a1:=(o8 (λk=>(λk=>(tP).row (gL tP (rt tP x) k)) (t1.2.is5.toNat+k)) (List.range ((List.length (rt tP x))-t1.2.is5.toNat)));let a2:=(inB t1.2.is5 ((List.length (rt tP x))+1));let a3:=(Nat.beq (0+(len a0)) (len (app [] a0))&&Nat.ble (((0+(len a0))+1)*32) room);let a4:=(((0+(len a0))+1)+(len a1));let a5:=(gL tP (rt tP x) t1.2.is5.toNat);let a6:=(Nat.beq 1 1&&Nat.ble ((1+(len a1))*32) room);let a7:=(Nat.beq 0 0&&Nat.ble ((0+(len a0))*32) room);let w0:Option (b7×List b8):=(sl a2 (sl (Nat.beq (len a0) 0) (sl a2 (sl (Nat.beq (len a1) 0) (some (.sl 0 0 1 0,[⟨73,4,[[i y.n.x,i y.n.y,i y.n.z,i y.b]],true,false,0⟩])) (sl a6 (some (.sl 0 0 (1+(len a1)) 0,[⟨73,4,app [[i y.n.x,i y.n.y,i y.n.z,i y.b]] a1,true,false,0⟩])) none)) none) (sl a7 (sl a3 (sl a2 (sl (Nat.beq (len a1) 0) (some (.sl 0 0 ((0+(len a0))+1) 0,[⟨73,4,app (app [] a0) [[i y.n.x,i y.n.y,i y.n.z,i y.b]],true,false,0⟩])) (sl (Nat.beq ((0+(len a0))+1) (len (app (app [] a0) [[i y.n.x,i y.n.y,i y.n.z,i y.b]]))&&Nat.ble (a4*32) room) (some (.sl 0 0 a4 0,[⟨73,4,app (app (app [] a0) [[i y.n.x,i y.n.y,i y.n.z,i y.b]]) a1,true,false,0⟩])) none)) none) none) none)) none);let w1:Option (b7×List b8):=(sl (decide (t1.2.is5<(↑(List.length (rt tP x)):Int))) (sl (inB t1.2.is5 (List.length (rt tP x))) (sl ((a5.n.x==y.n.x)&&((a5.n.y==y.n.y)&&((a5.n.z==y.n.z)&&((a5.b==y.b)&&true)))) (some (eL tP (rt tP x),[])) w0) none) w0);(sl ((cnE tP x)&&true) (sl (Nat.beq t1.1 1) w1 (sl (Nat.beq t1.1 2) w1 none)) none)
noncomputable def I6(x:List Pln)(y:Pln):List Pln:=E9 (one (r1L tP)) (pb5 x y)
noncomputable def ta9(x:List Pln)(y:Pln):Bool:=okO (one (r1L tP)) (pb5 x y)
noncomputable def ae3:Sum:=ma5 (ea7 tP) (I8 tP) (λx y=>.guard (ta9 x y) (.ret ((one (r1L tP)).enc (I6 x y),[])))
theorem Pe2:i5 prog G 127 ae3:=nb8 (bd Eg2 Be3) (one (r1L tP)) (o:=pb5) λx y=>za7 (.s .p (.s .p (.s (.b (.u wc1.ls)) .p))) [wc1.pr] (by kernel_rfl) (.cons le0 .nil) (by kernel_rfl)
noncomputable def Eb9:List (Nat×Sum):=[(125,nd1),(107,sb1),(126,nd2),(127,ae3),(73,Fd6)]
theorem Td6:i7 prog G Eb9:=⟨ke8,Mb2,ke9,Pe2,Be1,trivial⟩
structure fa5 where
 f7:List V3
 (is6 is7:Int)
structure A4 where
 ph:Nat
 is8:Int
 za6:List Pln
noncomputable def nc5(p:fa5)(s:A4):St:=⟨eL tV p.f7::ra 4 (.v (.slice none 0 0)::i p.is6::i p.is7::i s.is8::ra 56 []),[]⟩
noncomputable def nc6(p:fa5)(s:A4):St:=⟨eL tV p.f7::ra 4 (eL tP s.za6::i p.is6::i p.is7::i s.is8::ra 56 []),[]⟩
noncomputable def Gd1(p:fa5)(s:A4):St:=(sel (Nat.beq s.ph 1) (nc6 p s) (nc5 p s))
noncomputable def J8{α:Type}(k:A4->α)(e:Nat->α)(z:α)(p:fa5)(s:A4):α:=let t1:=(ya3 (gL tV p.f7 p.is6.toNat) (gL tV p.f7 p.is7.toNat) (gL tV p.f7 s.is8.toNat));let t2:=(Ca6 t1.1 (rt tV p.f7));let t3:=(I6 [] t1.1);let t4:=(pb2 t1.1);let t5:=(Ca6 t4 (rt tV p.f7));let t6:=(I6 (rt tP t3) t4);let t7:=(I6 [] t4);(sl (decide (s.is8<p.is7)) (sl (inB p.is6 (List.length p.f7)) (sl (inB p.is7 (List.length p.f7)) (sl (inB s.is8 (List.length p.f7)) (sl (ya4 (gL tV p.f7 p.is6.toNat) (gL tV p.f7 p.is7.toNat) (gL tV p.f7 s.is8.toNat)) (sl (!t1.2) (k ⟨0,W (s.is8+1),[]⟩) (sl (okE tV p.f7) (sl (pa1 t1.1 (rt tV p.f7)) (sl t2 (sl (ta9 [] t1.1) (sl (okE tV p.f7) (sl (pa1 t4 (rt tV p.f7)) (sl t5 (sl (okE tP t3) (sl (ta9 (rt tP t3) t4) (k ⟨1,W (s.is8+1),t6⟩) z) z) (k ⟨1,W (s.is8+1),t3⟩)) z) z) z) (sl (okE tV p.f7) (sl (pa1 t4 (rt tV p.f7)) (sl t5 (sl (ta9 [] t4) (k ⟨1,W (s.is8+1),t7⟩) z) (k ⟨0,W (s.is8+1),[]⟩)) z) z)) z) z)) z) z) z) z) (e 1))
noncomputable def J9{α:Type}(k:A4->α)(e:Nat->α)(z:α)(p:fa5)(s:A4):α:=let t1:=(ya3 (gL tV p.f7 p.is6.toNat) (gL tV p.f7 p.is7.toNat) (gL tV p.f7 s.is8.toNat));let t2:=(Ca6 t1.1 (rt tV p.f7));let t3:=(I6 (rt tP s.za6) t1.1);let t4:=(pb2 t1.1);let t5:=(Ca6 t4 (rt tV p.f7));let t6:=(I6 (rt tP t3) t4);let t7:=(I6 (rt tP s.za6) t4);(sl (decide (s.is8<p.is7)) (sl (inB p.is6 (List.length p.f7)) (sl (inB p.is7 (List.length p.f7)) (sl (inB s.is8 (List.length p.f7)) (sl (ya4 (gL tV p.f7 p.is6.toNat) (gL tV p.f7 p.is7.toNat) (gL tV p.f7 s.is8.toNat)) (sl (!t1.2) (k ⟨1,W (s.is8+1),s.za6⟩) (sl (okE tV p.f7) (sl (pa1 t1.1 (rt tV p.f7)) (sl t2 (sl (okE tP s.za6) (sl (ta9 (rt tP s.za6) t1.1) (sl (okE tV p.f7) (sl (pa1 t4 (rt tV p.f7)) (sl t5 (sl (okE tP t3) (sl (ta9 (rt tP t3) t4) (k ⟨1,W (s.is8+1),t6⟩) z) z) (k ⟨1,W (s.is8+1),t3⟩)) z) z) z) z) (sl (okE tV p.f7) (sl (pa1 t4 (rt tV p.f7)) (sl t5 (sl (okE tP s.za6) (sl (ta9 (rt tP s.za6) t4) (k ⟨1,W (s.is8+1),t7⟩) z) z) (k ⟨1,W (s.is8+1),s.za6⟩)) z) z)) z) z)) z) z) z) z) (e 2))
noncomputable def Y5(p:fa5)(s:A4):Stp A4:=(sel (Nat.beq s.ph 1) (J9 .next .exit .fail p s) (J8 .next .exit .fail p s))
noncomputable def Xb9:Lo fa5 A4:=⟨En Eb9,0,Lf6,[1,1,1,1,0,1,4,4,1,0,4,1,4,4,1,0,4,1,4,4],[0,5,6,7,8],.p,[⟨sLq tV::ru2 4 (.s (.o .nil)::sIq::sIq::sIq::ru2 56 []),[],λa H=>(⟨aLq tV a 0,aIq a 6,aIq a 7⟩,⟨0,aIq a 8,[]⟩)⟩,⟨sLq tV::ru2 4 (sLq tP::sIq::sIq::sIq::ru2 56 []),[],λa H=>(⟨aLq tV a 0,aIq a 6,aIq a 7⟩,⟨1,aIq a 8,aLq tP a 5⟩)⟩],Y5,[(some 4,λp s=>upq (nc5 p s) [(27,i s.is8),(28,i p.is7),(29,b (decide (s.is8<p.is7)))]),(some 4,λp s=>upq (nc6 p s) [(27,i s.is8),(28,i p.is7),(29,b (decide (s.is8<p.is7)))])],Gd1⟩
theorem Gd2:Xb9.Ok:=Lo.ok [] (by kernel_rfl) .nil rfl (.cons (λa H=>by kernel_rfl) (.cons (λa H=>by kernel_rfl) .nil)) λp s=>(.sel (Nat.beq s.ph 1) (.of @J9 (λF _ _ _ _ _=>by unfold J9;(repeat' apply j6 (f:=F))<;>rfl) (by kernel_rfl)) (.of @J8 (λF _ _ _ _ _=>by unfold J8;(repeat' apply j6 (f:=F))<;>rfl) (by kernel_rfl)))
structure fa6 where
 is6:Int
structure A5 where
 ph:Nat
 f7:List V3
 is7:Int
 za6:List Pln
noncomputable def nc7(p:fa6)(s:A5):St:=⟨eL tV s.f7::ra 4 (.v (.slice none 0 0)::i p.is6::i s.is7::ra 57 []),[]⟩
noncomputable def nc8(p:fa6)(s:A5):St:=⟨eL tV s.f7::ra 4 (eL tP s.za6::i p.is6::i s.is7::ra 57 []),[]⟩
noncomputable def Gd3(p:fa6)(s:A5):St:=(sel (Nat.beq s.ph 1) (nc8 p s) (nc7 p s))
noncomputable def K0{α:Type}(k:A5->α)(e:Nat->α)(z:α)(p:fa6)(s:A5):α:=let t1:=(lp (Y5 (⟨rt tV s.f7,p.is6,s.is7⟩:fa5)) (⟨0,0,[]⟩:A4));(sl (decide (s.is7<p.is6)) (sl ((cnE tV s.f7)&&true) (sl (Nat.beq t1.1 1) (k ⟨0,rt tV s.f7,W (s.is7+1),[]⟩) (sl (Nat.beq t1.1 2) (k ⟨1,rt tV s.f7,W (s.is7+1),t1.2.za6⟩) z)) z) (e 1))
noncomputable def K1{α:Type}(k:A5->α)(e:Nat->α)(z:α)(p:fa6)(s:A5):α:=let t1:=(lp (Y5 (⟨rt tV s.f7,p.is6,s.is7⟩:fa5)) (⟨1,0,rt tP s.za6⟩:A4));(sl (decide (s.is7<p.is6)) (sl ((cnE tV s.f7)&&((cnE tP s.za6)&&true)) (sl (Nat.beq t1.1 1) (k ⟨0,rt tV s.f7,W (s.is7+1),[]⟩) (sl (Nat.beq t1.1 2) (k ⟨1,rt tV s.f7,W (s.is7+1),t1.2.za6⟩) z)) z) (e 2))
noncomputable def Y6(p:fa6)(s:A5):Stp A5:=(sel (Nat.beq s.ph 1) (K1 .next .exit .fail p s) (K0 .next .exit .fail p s))
noncomputable def Yb0:Lo fa6 A5:=⟨En Eb9,0,Lf6,[1,1,1,1,0,1,4,4,1,0,4,1,4,4],[0,5,6,7],.s .p (.s (.b (.s .p (.b (.u Xb9.ls)))) .p),[⟨sLq tV::ru2 4 (.s (.o .nil)::sIq::sIq::ru2 57 []),[],λa H=>(⟨aIq a 6⟩,⟨0,aLq tV a 0,aIq a 7,[]⟩)⟩,⟨sLq tV::ru2 4 (sLq tP::sIq::sIq::ru2 57 []),[],λa H=>(⟨aIq a 6⟩,⟨1,aLq tV a 0,aIq a 7,aLq tP a 5⟩)⟩],Y6,[(some 2,λp s=>upq (nc7 p s) [(22,i s.is7),(23,i p.is6),(24,b (decide (s.is7<p.is6)))]),(some 2,λp s=>upq (nc8 p s) [(22,i s.is7),(23,i p.is6),(24,b (decide (s.is7<p.is6)))])],Gd3⟩
theorem Gd4:Yb0.Ok:=Lo.ok [Xb9.pr] (by kernel_rfl) (.cons Gd2 .nil) rfl (.cons (λa H=>by kernel_rfl) (.cons (λa H=>by kernel_rfl) .nil)) λp s=>(.sel (Nat.beq s.ph 1) (.of @K1 (λF _ _ _ _ _=>by unfold K1;(repeat' apply j6 (f:=F))<;>rfl) (by kernel_rfl)) (.of @K0 (λF _ _ _ _ _=>by unfold K0;(repeat' apply j6 (f:=F))<;>rfl) (by kernel_rfl)))
structure pa2 where
structure A9 where
 ph:Nat
 f7:List V3
 is6:Int
 za6:List Pln
noncomputable def nc9(p:pa2)(s:A9):St:=⟨eL tV s.f7::ra 4 (.v (.slice none 0 0)::i s.is6::ra 58 []),[]⟩
noncomputable def oc0(p:pa2)(s:A9):St:=⟨eL tV s.f7::ra 4 (eL tP s.za6::i s.is6::ra 58 []),[]⟩
noncomputable def Gd5(p:pa2)(s:A9):St:=(sel (Nat.beq s.ph 1) (oc0 p s) (nc9 p s))
noncomputable def K2{α:Type}(k:A9->α)(e:Nat->α)(z:α)(p:pa2)(s:A9):α:=let t1:=(lp (Y6 (⟨s.is6⟩:fa6)) (⟨0,rt tV s.f7,0,[]⟩:A5));(sl (decide (s.is6<(↑(List.length s.f7):Int))) (sl ((cnE tV s.f7)&&true) (sl (Nat.beq t1.1 1) (k ⟨0,t1.2.f7,W (s.is6+1),[]⟩) (sl (Nat.beq t1.1 2) (k ⟨1,t1.2.f7,W (s.is6+1),t1.2.za6⟩) z)) z) (e 1))
noncomputable def K3{α:Type}(k:A9->α)(e:Nat->α)(z:α)(p:pa2)(s:A9):α:=let t1:=(lp (Y6 (⟨s.is6⟩:fa6)) (⟨1,rt tV s.f7,0,rt tP s.za6⟩:A5));(sl (decide (s.is6<(↑(List.length s.f7):Int))) (sl ((cnE tV s.f7)&&((cnE tP s.za6)&&true)) (sl (Nat.beq t1.1 1) (k ⟨0,t1.2.f7,W (s.is6+1),[]⟩) (sl (Nat.beq t1.1 2) (k ⟨1,t1.2.f7,W (s.is6+1),t1.2.za6⟩) z)) z) (e 2))
noncomputable def Ba8(p:pa2)(s:A9):Stp A9:=(sel (Nat.beq s.ph 1) (K3 .next .exit .fail p s) (K2 .next .exit .fail p s))
noncomputable def Yb1:Lo pa2 A9:=⟨En Eb9,0,Lf6,[1,1,1,1,0,1,4,4],[0,5,6],.s .p (.s (.b (.s .p (.b (.u Yb0.ls)))) .p),[⟨sLq tV::ru2 4 (.s (.o .nil)::sIq::ru2 58 []),[],λa H=>(⟨⟩,⟨0,aLq tV a 0,aIq a 6,[]⟩)⟩,⟨sLq tV::ru2 4 (sLq tP::sIq::ru2 58 []),[],λa H=>(⟨⟩,⟨1,aLq tV a 0,aIq a 6,aLq tP a 5⟩)⟩],Ba8,[(some 0,λp s=>upq (nc9 p s) [(16,i s.is6),(17,eL tV s.f7),(18,i (↑(List.length s.f7):Int)),(19,b (decide (s.is6<(↑(List.length s.f7):Int))))]),(some 0,λp s=>upq (oc0 p s) [(16,i s.is6),(17,eL tV s.f7),(18,i (↑(List.length s.f7):Int)),(19,b (decide (s.is6<(↑(List.length s.f7):Int))))])],Gd5⟩
theorem Gd6:Yb1.Ok:=Lo.ok [Yb0.pr] (by kernel_rfl) (.cons Gd4 .nil) rfl (.cons (λa H=>by kernel_rfl) (.cons (λa H=>by kernel_rfl) .nil)) λp s=>(.sel (Nat.beq s.ph 1) (.of @K3 (λF _ _ _ _ _=>by unfold K3;(repeat' apply j6 (f:=F))<;>rfl) (by kernel_rfl)) (.of @K2 (λF _ _ _ _ _=>by unfold K2;(repeat' apply j6 (f:=F))<;>rfl) (by kernel_rfl)))
noncomputable def Pa3(x:List V3):Option (b7×List b8):=let t1:=(wb9 (rt tV x));let t2:=(lp (Ba8 (⟨⟩:pa2)) (⟨0,rt tV x,0,[]⟩:A9));(sl (okE tV x) (sl (vc9 (rt tV x)) (sl (t1 != 0) (some (.tup [.v (.slice none 0 0),i t1],[])) (sl ((cnE tV x)&&true) (sl (Nat.beq t2.1 1) (some (.tup [.v (.slice none 0 0),i 0],[])) (sl (Nat.beq t2.1 2) (some (.tup [eL tP t2.2.za6,i 0],[])) none)) none)) none) none)
noncomputable def xb1(x:List V3):List Pln×Int:=E9 (two (r1L tP) r1I) (Pa3 x)
noncomputable def eb6(x:List V3):Bool:=okO (two (r1L tP) r1I) (Pa3 x)
noncomputable def nd3:Sum:=O9 (ea7 tV) (λx=>.guard (eb6 x) (.ret ((two (r1L tP) r1I).enc (xb1 x),[])))
theorem le1:i5 prog G 71 nd3:=ua7 (bd b71 Td6) (two (r1L tP) r1I) (o:=Pa3) λx=>za7 (.s .p (.s .p (.s .p (.s .p (.s (.s .p (.b (.u Yb1.ls))) .p))))) [Yb1.pr] (by kernel_rfl) (.cons Gd6 .nil) (by kernel_rfl)
noncomputable def Hc5:List (Nat×Sum):=[(68,Ga7),(78,Mc9)]
theorem Gd7:i7 prog G Hc5:=⟨Sa4,nd0,trivial⟩
structure ha4 where
 is4:Int
structure D4 where
 ph:Nat
 is6:Int
 n7:List Int
 b9:Int
 ns5:Nat
 eh1:List (List b7)
noncomputable def cc9(p:ha4)(s:D4):St:=⟨ra 3 (.ptr 0 0 0 0::i p.is4::.v (.slice none 0 0)::i s.is6::ra 127 []),[⟨0,2,[[eL tI s.n7,i s.b9]],true,false,0⟩]⟩
noncomputable def dc0(p:ha4)(s:D4):St:=⟨ra 3 (.ptr 0 0 0 0::i p.is4::.sl 1 0 s.ns5 0::i s.is6::ra 127 []),[⟨0,2,[[eL tI s.n7,i s.b9]],true,false,0⟩,⟨27,3,s.eh1,true,false,0⟩]⟩
noncomputable def rd3(p:ha4)(s:D4):St:=(sel (Nat.beq s.ph 1) (dc0 p s) (cc9 p s))
noncomputable def Ba9{α:Type}(k:D4->α)(e:Nat->α)(z:α)(p:ha4)(s:D4):α:=let t1:=(o2 ⟨17,rt tI s.n7,s.b9⟩);let t2:=(o2 ⟨17,rt tI (rt tI s.n7),t1.b9⟩);let t3:=(o2 ⟨17,rt tI (rt tI (rt tI s.n7)),t2.b9⟩);let t4:=(o2 ⟨6,rt tI (rt tI (rt tI (rt tI s.n7))),t3.b9⟩);let w0:α:=(sl (t4.is0==3) (sl (decide (s.is6>2)) z (k ⟨1,W (s.is6+1),rt tI (rt tI (rt tI (rt tI s.n7))),t4.b9,1,[[i (W (t1.is0-8)),i (W (t2.is0-8)),i (W (t3.is0-8))]]⟩)) (k ⟨1,W (s.is6+1),rt tI (rt tI (rt tI (rt tI s.n7))),t4.b9,1,[[i (W (t1.is0-8)),i (W (t2.is0-8)),i (W (t3.is0-8))]]⟩));(sl (decide (s.is6<p.is4)) (sl ((cnE tI s.n7)&&true) (sl (Nat.beq t1.alt 1) (sl ((cnE tI (rt tI s.n7))&&true) (sl (Nat.beq t2.alt 1) (sl ((cnE tI (rt tI (rt tI s.n7)))&&true) (sl (Nat.beq t3.alt 1) (sl ((cnE tI (rt tI (rt tI (rt tI s.n7))))&&true) (sl (Nat.beq t4.alt 1) (sl (t4.is0==1) (sl (decide (s.is6>1)) z (sl (t4.is0==2) (sl (decide (s.is6>0)) z w0) w0)) (sl (t4.is0==2) (sl (decide (s.is6>0)) z w0) w0)) z) z) z) z) z) z) z) z) (e 1))
noncomputable def P4{α:Type}(k:D4->α)(e:Nat->α)(z:α)(p:ha4)(s:D4):α:=let t1:=(o2 ⟨17,rt tI s.n7,s.b9⟩);let a0:=(o0 s.eh1 (0+(W (s.is6-1)).toNat));let a1:=(Nat.beq s.ns5 (len s.eh1)&&Nat.ble ((s.ns5+1)*24) room);let a3:=(j8 (o0 s.eh1 (0+(W (s.is6-2)).toNat)) 0);let a4:=((Nat.blt (0+(W (s.is6-1)).toNat) (len s.eh1))&&(Nat.ble (2+1) (len a0)));let a5:=(i (W (Int.tdiv (W ((toI (hdA (tlA (j8 a0 0))))+(toI (hdA (tlA a3))))) 2)));let a6:=(i (W (Int.tdiv (W ((toI (hdA (j8 a0 0)))+(toI (hdA a3)))) 2)));let a7:=(app s.eh1 [[a6,a5,i (W (Int.tdiv (W ((toI (hdA (tlA (tlA (j8 a0 0)))))+(toI (hdA (tlA (tlA a3)))))) 2))]]);let a8:=(inB (W (s.is6-1)) s.ns5);let a9:=(i (toI (hdA (tlA (j8 a0 0)))));let a10:=((Nat.blt (0+(W (s.is6-1)).toNat) (len s.eh1))&&(Nat.ble (0+3) (len a0)));let a11:=(i (toI (hdA (j8 a0 0))));let a12:=(app s.eh1 [[a11,a9,i (toI (hdA (tlA (tlA (j8 a0 0)))))]]);let a13:=(i (toI (hdA (j8 a0 2))));let a14:=(rt tI (rt tI s.n7));let t2:=(o2 ⟨17,a14,t1.b9⟩);let t3:=(o2 ⟨17,rt tI a14,t2.b9⟩);let a2:=(rt tI (rt tI a14));let t4:=(o2 ⟨6,a2,t3.b9⟩);let w0:α:=(sl (t4.is0==3) (sl (decide (s.is6>2)) (sl a8 (sl (a4&&(oa7 [CK.int .i64] (j8 a0 2))) (sl a1 (k ⟨1,W (s.is6+1),a2,t4.b9,s.ns5+1,app s.eh1 [[i (W (t1.is0-8)),i (W (t2.is0-8)),a13]]⟩) z) z) z) (sl a1 (k ⟨1,W (s.is6+1),a2,t4.b9,s.ns5+1,app s.eh1 [[i (W (t1.is0-8)),i (W (t2.is0-8)),i (W (t3.is0-8))]]⟩) z)) (sl a1 (k ⟨1,W (s.is6+1),a2,t4.b9,s.ns5+1,app s.eh1 [[i (W (t1.is0-8)),i (W (t2.is0-8)),i (W (t3.is0-8))]]⟩) z));let w1:α:=(sl a8 (sl (a10&&(oa7 [CK.int .i64,CK.int .i64,CK.int .i64] (j8 a0 0))) (sl (t4.is0==3) (sl (decide (s.is6>2)) (sl a8 (sl (a4&&(oa7 [CK.int .i64] (j8 a0 2))) (sl a1 (k ⟨1,W (s.is6+1),a2,t4.b9,s.ns5+1,app s.eh1 [[a11,a9,a13]]⟩) z) z) z) (sl a1 (k ⟨1,W (s.is6+1),a2,t4.b9,s.ns5+1,a12⟩) z)) (sl a1 (k ⟨1,W (s.is6+1),a2,t4.b9,s.ns5+1,a12⟩) z)) z) z);let w2:α:=(sl (t4.is0==3) (sl (decide (s.is6>2)) (sl a8 (sl (a4&&(oa7 [CK.int .i64] (j8 a0 2))) (sl a1 (k ⟨1,W (s.is6+1),a2,t4.b9,s.ns5+1,app s.eh1 [[a6,a5,a13]]⟩) z) z) z) (sl a1 (k ⟨1,W (s.is6+1),a2,t4.b9,s.ns5+1,a7⟩) z)) (sl a1 (k ⟨1,W (s.is6+1),a2,t4.b9,s.ns5+1,a7⟩) z));(sl (decide (s.is6<p.is4)) (sl ((cnE tI s.n7)&&true) (sl (Nat.beq t1.alt 1) (sl ((cnE tI (rt tI s.n7))&&true) (sl (Nat.beq t2.alt 1) (sl ((cnE tI a14)&&true) (sl (Nat.beq t3.alt 1) (sl ((cnE tI (rt tI a14))&&true) (sl (Nat.beq t4.alt 1) (sl (t4.is0==1) (sl (decide (s.is6>1)) (sl a8 (sl (a10&&(oa7 [CK.int .i64,CK.int .i64,CK.int .i64] (j8 a0 0))) (sl (inB (W (s.is6-2)) s.ns5) (sl (((Nat.blt (0+(W (s.is6-2)).toNat) (len s.eh1))&&(Nat.ble (0+3) (len (o0 s.eh1 (0+(W (s.is6-2)).toNat)))))&&(oa7 [CK.int .i64,CK.int .i64,CK.int .i64] a3)) (sl (t4.is0==2) (sl (decide (s.is6>0)) w1 w2) w2) z) z) z) z) (sl (t4.is0==2) (sl (decide (s.is6>0)) w1 w0) w0)) (sl (t4.is0==2) (sl (decide (s.is6>0)) w1 w0) w0)) z) z) z) z) z) z) z) z) (e 2))
noncomputable def ab9(p:ha4)(s:D4):Stp D4:=(sel (Nat.beq s.ph 1) (P4 .next .exit .fail p s) (Ba9 .next .exit .fail p s))
noncomputable def Mb3:Lo ha4 D4:=⟨En Hc5,0,og0,[1,1,1,1,0,1,4,4],[3,4,5,6],.p,[⟨ru2 3 (sPq 0::sIq::.s (.o .nil)::sIq::ru2 127 []),[⟨0,2,true,some [[.c 1 (nL tI),.o (.int .i64)]]⟩],λa H=>(⟨aIq a 4⟩,⟨0,aIq a 6,hLq tI H 0 0 0,hIq H 0 0 1,0,[]⟩)⟩,⟨ru2 3 (sPq 0::sIq::.s (.o (.sl 1 0 (some 0) none))::sIq::ru2 127 []),[⟨0,2,true,some [[.c 1 (nL tI),.o (.int .i64)]]⟩,⟨27,3,true,none⟩],λa H=>(⟨aIq a 4⟩,⟨1,aIq a 6,hLq tI H 0 0 0,hIq H 0 0 1,slN (slT a 5),elT H 1⟩)⟩],ab9,[(some 0,λp s=>upq (cc9 p s) [(18,i s.is6),(19,i p.is4),(20,b (decide (s.is6<p.is4)))]),(some 0,λp s=>upq (dc0 p s) [(18,i s.is6),(19,i p.is4),(20,b (decide (s.is6<p.is4)))])],rd3⟩
theorem rd4:Mb3.Ok:=Lo.ok [] (by kernel_rfl) .nil rfl (.cons (λa H=>by kernel_rfl) (.cons (λa H=>by kernel_rfl) .nil)) λp s=>(.sel (Nat.beq s.ph 1) (.of @P4 (λF _ _ _ _ _=>by unfold P4;(repeat' apply j6 (f:=F))<;>rfl) (by kernel_rfl)) (.of @Ba9 (λF _ _ _ _ _=>by unfold Ba9;(repeat' apply j6 (f:=F))<;>rfl) (by kernel_rfl)))
noncomputable def jb6(x:List Int):Option (b7×List b8):=let t1:=(o2 ⟨5,rt tI x,0⟩);let t2:=(lp (ab9 (⟨W (4+t1.is0)⟩:ha4)) (⟨0,0,rt tI (rt tI x),t1.b9,0,[]⟩:D4));let t3:=(db3 []);let t4:=(db3 (lsL tV t2.2.ns5 (λk=>o0 t2.2.eh1 (0+k))));let a0:=(j8 (o0 t2.2.eh1 0) 0);let a1:=(i (toI (hdA (tlA (tlA a0)))));let a2:=(i (W ((toI (hdA a0))-3)));let a3:=(setAt t2.2.eh1 1 (da4 (o0 t2.2.eh1 1) 0 [a2,i (toI (hdA (tlA a0))),a1]));let a4:=(i (W ((toI (hdA (tlA a0)))-2)));(sl ((cnE tI x)&&true) (sl (Nat.beq t1.alt 1) (sl ((cnE tI (rt tI x))&&true) (sl (Nat.beq t2.1 1) (sl (pb4 []) (sl t3 none (some (.v (.slice none 0 0),[]))) none) (sl (Nat.beq t2.1 2) (sl (okL tV t2.2.ns5 (λk=>o0 t2.2.eh1 (0+k))) (sl (pb4 (lsL tV t2.2.ns5 (λk=>o0 t2.2.eh1 (0+k)))) (sl t4 (sl (inB 0 t2.2.ns5) (sl (((Nat.blt 0 (len t2.2.eh1))&&(Nat.ble (0+3) (len (o0 t2.2.eh1 0))))&&(oa7 [CK.int .i64,CK.int .i64,CK.int .i64] a0)) (sl (inB 1 t2.2.ns5) (sl ((Nat.blt 1 (len t2.2.eh1))&&(Nat.ble (0+3) (len (o0 t2.2.eh1 1)))) (sl (inB 2 t2.2.ns5) (sl ((Nat.blt 2 (len a3))&&(Nat.ble (0+3) (len (o0 a3 2)))) (sl (inB 3 t2.2.ns5) (sl ((Nat.blt 3 (len (setAt a3 2 (da4 (o0 a3 2) 0 [i (toI (hdA a0)),a4,a1]))))&&(Nat.ble (0+3) (len (o0 (setAt a3 2 (da4 (o0 a3 2) 0 [i (toI (hdA a0)),a4,a1])) 3)))) (some (.sl 0 0 t2.2.ns5 0,[⟨27,3,setAt (setAt a3 2 (da4 (o0 a3 2) 0 [i (toI (hdA a0)),a4,a1])) 3 (da4 (o0 (setAt a3 2 (da4 (o0 a3 2) 0 [i (toI (hdA a0)),a4,a1])) 3) 0 [i (toI (hdA a0)),i (toI (hdA (tlA a0))),i (W ((toI (hdA (tlA (tlA a0))))-1))]),true,false,0⟩])) none) none) none) none) none) none) none) none) (some (.sl 0 0 t2.2.ns5 0,[⟨27,3,t2.2.eh1,true,false,0⟩]))) none) none) none)) none) none) none)
noncomputable def D5(x:List Int):List V3:=E9 (one (r1L tV)) (jb6 x)
noncomputable def kc8(x:List Int):Bool:=okO (one (r1L tV)) (jb6 x)
noncomputable def Vc2:Sum:=O9 (ea7 tI) (λx=>.guard (kc8 x) (.ret ((one (r1L tV)).enc (D5 x),[])))
theorem Td7:i5 prog G 25 Vc2:=ua7 (bd b25 Gd7) (one (r1L tV)) (o:=jb6) λx=>za7 (.s .p (.s .p (.s .p (.s .p (.s (.s .p (.b (.u Mb3.ls))) .p))))) [Mb3.pr] (by kernel_rfl) (.cons rd4 .nil) (by kernel_rfl)
noncomputable def Be4:List (Nat×Sum):=[(68,Ga7),(69,ed7),(63,dd4),(51,Fd5),(70,Dd5),(25,Vc2),(71,nd3)]
theorem le2:i7 prog G Be4:=⟨Sa4,Fd2,Dd3,Ae9,ze8,Td7,le1,trivial⟩
noncomputable def Ea0(x:List Int):Option (b7×List b8):=let t1:=(o2 ⟨4,rt tI x,0⟩);let t2:=(pb1 ⟨6,rt tI (rt tI x),t1.b9⟩);let t3:=(o2 ⟨6,rt tI t2.n7,t2.b9⟩);let t4:=(o2 ⟨6,rt tI (rt tI t2.n7),t3.b9⟩);let t5:=(o2 ⟨6,rt tI (rt tI (rt tI t2.n7)),t4.b9⟩);let t6:=(bc4 (⟨t2.K9,t2.L0,t2.L1⟩:V3) (⟨W ((W (t2.K9+1))+t3.is0),W ((W (t2.L0+1))+t4.is0),W ((W (t2.L1+1))+t5.is0)⟩:V3));let a0:=(if 7<(↑(List.length x):Int) then 7 else (↑(List.length x):Int));let a1:=(o8 (λk=>(tP).row (gL tP t6 k)) (List.range (List.length t6)));let a2:=(λk=>(λk=>(tI).row (gL tI x k)) (a0.toNat+k));let a3:=((List.length x)-a0.toNat);let t7:=(Pa0 (lsL tI a3 a2));let t8:=(db0 [t7]);let t9:=(D5 (lsL tI a3 a2));let t10:=(xb1 (rt tV t9));let t11:=(db0 (slR tP (app (app [] a1) [[i t7.n.x,i t7.n.y,i t7.n.z,i t7.b]]) 0 ((0+(len a1))+1)));let w0:Option (b7×List b8):=(sl (t1.is0==3) (sl (okL tI a3 a2) (sl (kc8 (lsL tI a3 a2)) (sl (okE tV t9) (sl (eb6 (rt tV t9)) (sl (t10.2==0) (some (eL tP t10.1,[])) (some (eL tP t6,[]))) none) none) none) none) (some (eL tP t6,[])));(sl ((cnE tI x)&&true) (sl (Nat.beq t1.alt 1) (sl ((cnE tI (rt tI x))&&true) (sl (Nat.beq t2.alt 1) (sl ((cnE tI t2.n7)&&true) (sl (Nat.beq t3.alt 1) (sl ((cnE tI (rt tI t2.n7))&&true) (sl (Nat.beq t4.alt 1) (sl ((cnE tI (rt tI (rt tI t2.n7)))&&true) (sl (Nat.beq t5.alt 1) (sl (Hb2 (⟨t2.K9,t2.L0,t2.L1⟩:V3) (⟨W ((W (t2.K9+1))+t3.is0),W ((W (t2.L0+1))+t4.is0),W ((W (t2.L1+1))+t5.is0)⟩:V3)) (sl (inB a0 ((List.length x)+1)) (sl (t1.is0==2) (sl (Nat.beq (len a1) 0) (sl (okL tI a3 a2) (sl (kc2 (lsL tI a3 a2)) (sl (Na8 [t7]) (sl t8 (some (.sl 0 0 1 0,[⟨73,4,[[i t7.n.x,i t7.n.y,i t7.n.z,i t7.b]],true,false,0⟩])) w0) none) none) none) (sl (Nat.beq 0 0&&Nat.ble ((0+(len a1))*32) room) (sl (okL tI a3 a2) (sl (kc2 (lsL tI a3 a2)) (sl (Nat.beq (0+(len a1)) (len (app [] a1))&&Nat.ble (((0+(len a1))+1)*32) room) (sl (okS tP (app (app [] a1) [[i t7.n.x,i t7.n.y,i t7.n.z,i t7.b]]) 0 ((0+(len a1))+1)) (sl (Na8 (slR tP (app (app [] a1) [[i t7.n.x,i t7.n.y,i t7.n.z,i t7.b]]) 0 ((0+(len a1))+1))) (sl t11 (some (.sl 0 0 ((0+(len a1))+1) 0,[⟨73,4,app (app [] a1) [[i t7.n.x,i t7.n.y,i t7.n.z,i t7.b]],true,false,0⟩])) w0) none) none) none) none) none) none)) w0) none) none) none) none) none) none) none) none) none) none) none) none)
noncomputable def k8(x:List Int):List Pln:=E9 (one (r1L tP)) (Ea0 x)
noncomputable def Nc0(x:List Int):Bool:=okO (one (r1L tP)) (Ea0 x)
noncomputable def Gd8:Sum:=O9 (ea7 tI) (λx=>.guard (Nc0 x) (.ret ((one (r1L tP)).enc (k8 x),[])))
theorem Be5:i5 prog G 16 Gd8:=ua7 (bd b16 le2) (one (r1L tP)) (o:=Ea0) λx=>o5 (by kernel_rfl)
noncomputable def nd4:List (Nat×Sum):=[]
theorem le3:i7 prog G nd4:=trivial
structure jb7 where
 (d9 Db4:List Pln)
structure oa0 where
 is5:Int
noncomputable def Hc6(p:jb7)(s:oa0):St:=⟨eL tP p.d9::eL tP p.Db4::ra 3 (i s.is5::ra 20 []),[]⟩
noncomputable def Pa4{α:Type}(k:oa0->α)(e:Nat->α)(z:α)(p:jb7)(s:oa0):α:=(sl (decide (s.is5<(↑(List.length p.d9):Int))) (sl (inB s.is5 (List.length p.d9)) (sl (inB s.is5 (List.length p.Db4)) (sl (!(((gL tP p.d9 s.is5.toNat).n.x==(gL tP p.Db4 s.is5.toNat).n.x)&&(((gL tP p.d9 s.is5.toNat).n.y==(gL tP p.Db4 s.is5.toNat).n.y)&&(((gL tP p.d9 s.is5.toNat).n.z==(gL tP p.Db4 s.is5.toNat).n.z)&&(((gL tP p.d9 s.is5.toNat).b==(gL tP p.Db4 s.is5.toNat).b)&&true))))) (e 1) (k ⟨W (s.is5+1)⟩)) z) z) (e 2))
noncomputable def Ya3(p:jb7)(s:oa0):Stp oa0:=Pa4 .next .exit .fail p s
noncomputable def kc9:Lo jb7 oa0:=⟨En nd4,0,ng9,[1,1,0,1,4,4],[0,1,5],.p,[⟨sLq tP::sLq tP::ru2 3 (sIq::ru2 20 []),[],λa H=>(⟨aLq tP a 0,aLq tP a 1⟩,⟨aIq a 5⟩)⟩],Ya3,[(none,λp s=>⟨[b false],[]⟩),(some 0,λp s=>upq (Hc6 p s) [(11,i s.is5),(12,eL tP p.d9),(13,i (↑(List.length p.d9):Int)),(14,b (decide (s.is5<(↑(List.length p.d9):Int))))])],Hc6⟩
theorem Td8:kc9.Ok:=Lo.ok [] (by kernel_rfl) .nil rfl (.cons (λa H=>by kernel_rfl) .nil) λp s=>(.of @Pa4 (λF _ _ _ _ _=>by unfold Pa4;(repeat' apply j6 (f:=F))<;>rfl) (by kernel_rfl))
noncomputable def Mb4(x:List Pln)(y:List Pln):Option (b7×List b8):=let t1:=(lp (Ya3 (⟨rt tP x,rt tP y⟩:jb7)) (⟨0⟩:oa0));(sl ((↑(List.length x):Int) != (↑(List.length y):Int)) (some (b false,[])) (sl ((cnE tP x)&&((cnE tP y)&&true)) (sl (Nat.beq t1.1 1) (some (b false,[])) (sl (Nat.beq t1.1 2) (some (b true,[])) none)) none))
noncomputable def Mb5(x:List Pln)(y:List Pln):Bool:=E9 (one r1B) (Mb4 x y)
noncomputable def Mb6(x:List Pln)(y:List Pln):Bool:=okO (one r1B) (Mb4 x y)
noncomputable def Gd9:Sum:=ma5 (ea7 tP) (ea7 tP) (λx y=>.guard (Mb6 x y) (.ret ((one r1B).enc (Mb5 x y),[])))
theorem Be6:i5 prog G 23 Gd9:=nb8 (bd b23 le3) (one r1B) (o:=Mb4) λx y=>za7 (.s .p (.s .p (.s (.s .p (.b (.u kc9.ls))) .p))) [kc9.pr] (by kernel_rfl) (.cons Td8 .nil) (by kernel_rfl)
structure Yf5 where
 is6:Int
structure Yf6 where
 ns5:Nat
 eh0:List (List b7)
structure Be7 where
 (alt ns0:Nat)
 eh0:List (List b7)
structure Yf7 where
 d9:List Pln
 (c8 b9 c9 g8:Int)
structure Yf8 where
 is5:Int
noncomputable def le4:List (Nat×Sum):=[]
theorem Td9:i7 prog G le4:=trivial
noncomputable def Pa5(x:V3)(y:V3):V3:=(⟨W (x.x-y.x),W (x.y-y.y),W (x.z-y.z)⟩:V3)
noncomputable def wc2:Sum:=ma5 (I8 tV) (I8 tV) (λx y=>.ret ((one r1V).enc (Pa5 x y),[]))
theorem Vc3:i5 prog G 108 wc2:=Aa1 (bd Cg6 Td9) λx y=>o5 (by kernel_rfl)
noncomputable def Ud0:List (Nat×Sum):=[(108,wc2)]
theorem Hd0:i7 prog G Ud0:=⟨Vc3,trivial⟩
noncomputable def Sa6(x:Pln):Pln:=let t1:=(Pa5 (⟨0,0,0⟩:V3) x.n);(⟨t1,W (0-x.b)⟩:Pln)
noncomputable def Vc4:Sum:=O9 (I8 tP) (λx=>.ret ((one r1P).enc (Sa6 x),[]))
theorem Ud1:i5 prog G 52 Vc4:=Db9 (bd b52 Hd0) λx=>o5 (by kernel_rfl)
noncomputable def Ud2:List (Nat×Sum):=[(186,zb4)]
theorem Hd1:i7 prog G Ud2:=⟨cc3,trivial⟩
noncomputable def jb8(x:V3):Option (b7×List b8):=let t1:=(ka9 [x.x,x.y,x.z]);(sl (la0 [x.x,x.y,x.z]) (sl (t1==0) (some (.tup [.agg [i 0,i 0,i 0],i 0],[])) (sl (t1==0) none (sl (t1==0) none (sl (t1==0) none (some (.tup [.agg [i (W (Int.tdiv x.x t1)),i (W (Int.tdiv x.y t1)),i (W (Int.tdiv x.z t1))],i t1],[])))))) none)
noncomputable def Sa7(x:V3):V3×Int:=E9 (two r1V r1I) (jb8 x)
noncomputable def Fb0(x:V3):Bool:=okO (two r1V r1I) (jb8 x)
noncomputable def Vc5:Sum:=O9 (I8 tV) (λx=>.guard (Fb0 x) (.ret ((two r1V r1I).enc (Sa7 x),[])))
theorem Ud3:i5 prog G 198 Vc5:=ua7 (bd Ig7 Hd1) (two r1V r1I) (o:=jb8) λx=>o5 (by kernel_rfl)
noncomputable def fd1:List (Nat×Sum):=[(85,Lb7),(108,wc2),(142,rb3),(198,Vc5),(83,Ca5)]
theorem Vc6:i7 prog G fd1:=⟨Tb5,Vc3,Kb4,Ud3,Da2,trivial⟩
noncomputable def Ga9(x:V3)(y:V3)(z:V3):Option (b7×List b8):=let t1:=(ya1 x);let t2:=(ya1 y);let t3:=(ya1 z);let t4:=(Pa5 y x);let t5:=(Pa5 z x);let t6:=(D8 t4 t5);let t7:=(Sa7 t6);let t8:=(j7 t7.1 x);(sl (ya2 x) (sl (!t1) (some (.tup [.agg [i 0,i 0,i 0,i 0],b false],[])) (sl (ya2 y) (sl (!t2) (some (.tup [.agg [i 0,i 0,i 0,i 0],b false],[])) (sl (ya2 z) (sl (!t3) (some (.tup [.agg [i 0,i 0,i 0,i 0],b false],[])) (sl (Fb0 t6) (some (.tup [.agg [i t7.1.x,i t7.1.y,i t7.1.z,i t8],b (decide (t7.2>0))],[])) none)) none)) none)) none)
noncomputable def O6(x:V3)(y:V3)(z:V3):Pln×Bool:=E9 (two r1P r1B) (Ga9 x y z)
noncomputable def ua0(x:V3)(y:V3)(z:V3):Bool:=okO (two r1P r1B) (Ga9 x y z)
noncomputable def Ab7:Sum:=Qd2 (I8 tV) (I8 tV) (I8 tV) (λx y z=>.guard (ua0 x y z) (.ret ((two r1P r1B).enc (O6 x y z),[])))
theorem dc1:i5 prog G 177 Ab7:=cg8 (bd Hg3 Vc6) (two r1P r1B) (o:=Ga9) λx y z=>o5 (by kernel_rfl)
noncomputable def Ud4:List (Nat×Sum):=[(140,rb5),(85,Lb7),(83,Ca5),(141,Xb3)]
theorem Hd2:i7 prog G Ud4:=⟨Lb0,Tb5,Da2,vc5,trivial⟩
noncomputable def jb9(x:Pln)(y:V3):Option (b7×List b8):=let t1:=(Ja1 x);let t2:=(ya1 y);let t3:=(j7 x.n y);let t4:=(oa9 t3 x.b);(sl (Ja2 x) (sl (!t1) (some (i 0,[])) (sl (ya2 y) (sl (!t2) (some (i 0,[])) (sl (pa0 t3 x.b) (some (i t4,[])) none)) none)) none)
noncomputable def wa0(x:Pln)(y:V3):Int:=E9 (one r1I) (jb9 x y)
noncomputable def wa1(x:Pln)(y:V3):Bool:=okO (one r1I) (jb9 x y)
noncomputable def Fb1:Sum:=ma5 (I8 tP) (I8 tV) (λx y=>.guard (wa1 x y) (.ret ((one r1I).enc (wa0 x y),[])))
theorem Yb2:i5 prog G 88 Fb1:=nb8 (bd b88 Hd2) (one r1I) (o:=jb9) λx y=>o5 (by kernel_rfl)
structure sb2 where
 (K9 L0 L1 c8 b9 c9 g8:Int)
noncomputable def Hd3:List (Nat×Sum):=[(88,Fb1)]
theorem rd5:i7 prog G Hd3:=⟨Yb2,trivial⟩
structure sb3 where
 alt:Nat
 bs0:Bool
noncomputable def Ja3{α:Type}(kk:sb3->α)(x:sb2):α:=let t1:=(wa0 (⟨(⟨x.c8,x.b9,x.c9⟩:V3),x.g8⟩:Pln) (⟨x.K9,x.L0,x.L1⟩:V3));(sl (wa1 (⟨(⟨x.c8,x.b9,x.c9⟩:V3),x.g8⟩:Pln) (⟨x.K9,x.L0,x.L1⟩:V3)) (kk ⟨1,t1 != 0⟩) (kk ⟨0,false⟩))
noncomputable def sb4(x:sb2):sb3:=Ja3 (λr=>r) x
noncomputable def Mb7(x:sb2)(r:sb3):DT (b7×List b8):=(.ite (Nat.beq r.alt 1) (.ret (b r.bs0,[⟨0,4,[[i x.c8,i x.b9,i x.c9,i x.g8]],true,false,0⟩])) .fail)
theorem Ud5{α β:Type}(F:α->β)(kk:sb3->α)(x:sb2):F (Ja3 kk x)=Ja3 (λr=>F (kk r)) x:=by unfold Ja3;(repeat' apply j6 (f:=F))<;>rfl
noncomputable def Hc7:Sum:=Ka5 ⟨[.agg (kLq 3),sPq 0],[⟨0,4,true,some [kLq 4]⟩],λa H=>(⟨cIq a 0 0,cIq a 0 1,cIq a 0 2,hIq H 0 0 0,hIq H 0 0 1,hIq H 0 0 2,hIq H 0 0 3⟩,())⟩ (λx=>Mb7 x (sb4 x))
theorem Hd4:i5 prog G 197 Hc7:=B1 (enc:=λx=>⟨[.agg [i x.K9,i x.L0,i x.L1],.ptr 0 0 0 0],[⟨0,4,[[i x.c8,i x.b9,i x.c9,i x.g8]],true,false,0⟩]⟩) (λa H=>by kernel_rfl) (bd Ig6 rd5) λx=>o5 (Qid (b:=Ja3 (λr=>(Mb7 x r).run) x) (by kernel_rfl) (Ud5 (λr=>(Mb7 x r).run) (λr=>r) x).symm)
structure ia3 where
 f7:List V3
 (c8 b9 c9 g8:Int)
noncomputable def Ya4:List (Nat×Sum):=[(197,Hc7)]
theorem Qb6:i7 prog G Ya4:=⟨Hd4,trivial⟩
structure P9 where
 f7:List V3
 (is7 c8 b9 c9 g8:Int)
structure r9 where
 is8:Int
noncomputable def Pa6(p:P9)(s:r9):St:=⟨eL tV p.f7::.fn 197 [.ptr 0 0 0 0]::ra 5 (i p.is7::i s.is8::ra 10 []),[⟨0,4,[[i p.c8,i p.b9,i p.c9,i p.g8]],true,false,0⟩]⟩
noncomputable def M0{α:Type}(k:r9->α)(e:Nat->α)(z:α)(p:P9)(s:r9):α:=let t1:=(sb4 ⟨(gL tV p.f7 s.is8.toNat).x,(gL tV p.f7 s.is8.toNat).y,(gL tV p.f7 s.is8.toNat).z,p.c8,p.b9,p.c9,p.g8⟩);(sl (decide (s.is8<p.is7)) (sl (inB s.is8 (List.length p.f7)) (sl (Nat.beq t1.alt 1) (sl t1.bs0 (e 1) (k ⟨W (s.is8+1)⟩)) z) z) (e 2))
noncomputable def N7(p:P9)(s:r9):Stp r9:=M0 .next .exit .fail p s
noncomputable def sa9:Lo P9 r9:=⟨En Ya4,1,ye6,[1,0,1,4,4],[0,1,7,8],.p,[⟨sLq tV::.fn 197 [.o (.ptr 0 0 0 0)]::ru2 5 (sIq::sIq::ru2 10 []),[⟨0,4,true,some [kLq 4]⟩],λa H=>(⟨aLq tV a 0,aIq a 7,hIq H 0 0 0,hIq H 0 0 1,hIq H 0 0 2,hIq H 0 0 3⟩,⟨aIq a 8⟩)⟩],N7,[(none,λp s=>⟨[i s.is8],[⟨0,4,[[i p.c8,i p.b9,i p.c9,i p.g8]],true,false,0⟩]⟩),(some 0,λp s=>upq (Pa6 p s) [(9,b (decide (s.is8<p.is7)))])],Pa6⟩
theorem Mb8:sa9.Ok:=Lo.ok [] (by kernel_rfl) .nil rfl (.cons (λa H=>by kernel_rfl) .nil) λp s=>(.of @M0 (λF _ _ _ _ _=>by unfold M0;(repeat' apply j6 (f:=F))<;>rfl) (by kernel_rfl))
structure ia4 where
 alt:Nat
 is0:Int
noncomputable def M8{α:Type}(kk:ia4->α)(x:ia3):α:=let t1:=(lp (N7 (⟨rt tV x.f7,(↑(List.length x.f7):Int),x.c8,x.b9,x.c9,x.g8⟩:P9)) (⟨0⟩:r9));(sl ((cnE tV x.f7)&&true) (sl (Nat.beq t1.1 1) (kk ⟨1,t1.2.is8⟩) (sl (Nat.beq t1.1 2) (kk ⟨1,-1⟩) (kk ⟨0,0⟩))) (kk ⟨0,0⟩))
noncomputable def ia5(x:ia3):ia4:=M8 (λr=>r) x
noncomputable def ya8(x:ia3)(r:ia4):DT (b7×List b8):=(.ite (Nat.beq r.alt 1) (.ret (i r.is0,[⟨0,4,[[i x.c8,i x.b9,i x.c9,i x.g8]],true,false,0⟩])) .fail)
theorem dc2{α β:Type}(F:α->β)(kk:ia4->α)(x:ia3):F (M8 kk x)=M8 (λr=>F (kk r)) x:=by unfold M8;(repeat' apply j6 (f:=F))<;>rfl
noncomputable def eb7:Sum:=Ka5 ⟨[sLq tV,.fn 197 [.o (.ptr 0 0 0 0)]],[⟨0,4,true,some [kLq 4]⟩],λa H=>(⟨aLq tV a 0,hIq H 0 0 0,hIq H 0 0 1,hIq H 0 0 2,hIq H 0 0 3⟩,())⟩ (λx=>ya8 x (ia5 x))
theorem Yb3:i5 prog G 144 eb7:=B1 (enc:=λx=>⟨[eL tV x.f7,.fn 197 [.ptr 0 0 0 0]],[⟨0,4,[[i x.c8,i x.b9,i x.c9,i x.g8]],true,false,0⟩]⟩) (λa H=>by kernel_rfl) (bd Lf7 Qb6) λx=>za7 (.s .p (.s (.s .p (.b (.u sa9.ls))) .p)) [sa9.pr] (by kernel_rfl) (.cons Mb8 .nil) (Qid (b:=M8 (λr=>(ya8 x r).run) x) (by kernel_rfl) (dc2 (λr=>(ya8 x r).run) (λr=>r) x).symm)
structure Y7 where
 f7:List V3
 (c8 b9 c9 g8:Int)
noncomputable def Fb2:List (Nat×Sum):=[(144,eb7)]
theorem Ab8:i7 prog G Fb2:=⟨Yb3,trivial⟩
structure Y8 where
 alt:Nat
 bs0:Bool
noncomputable def F4{α:Type}(kk:Y8->α)(x:Y7):α:=let t1:=(ia5 ⟨rt tV x.f7,x.c8,x.b9,x.c9,x.g8⟩);(sl ((cnE tV x.f7)&&true) (sl (Nat.beq t1.alt 1) (kk ⟨1,decide (t1.is0>=0)⟩) (kk ⟨0,false⟩)) (kk ⟨0,false⟩))
noncomputable def u9(x:Y7):Y8:=F4 (λr=>r) x
noncomputable def oa1(x:Y7)(r:Y8):DT (b7×List b8):=(.ite (Nat.beq r.alt 1) (.ret (b r.bs0,[⟨0,4,[[i x.c8,i x.b9,i x.c9,i x.g8]],true,false,0⟩])) .fail)
theorem Mb9{α β:Type}(F:α->β)(kk:Y8->α)(x:Y7):F (F4 kk x)=F4 (λr=>F (kk r)) x:=by unfold F4;(repeat' apply j6 (f:=F))<;>rfl
noncomputable def Pa7:Sum:=Ka5 ⟨[sLq tV,.fn 197 [.o (.ptr 0 0 0 0)]],[⟨0,4,true,some [kLq 4]⟩],λa H=>(⟨aLq tV a 0,hIq H 0 0 0,hIq H 0 0 1,hIq H 0 0 2,hIq H 0 0 3⟩,())⟩ (λx=>oa1 x (u9 x))
theorem Fb3:i5 prog G 174 Pa7:=B1 (enc:=λx=>⟨[eL tV x.f7,.fn 197 [.ptr 0 0 0 0]],[⟨0,4,[[i x.c8,i x.b9,i x.c9,i x.g8]],true,false,0⟩]⟩) (λa H=>by kernel_rfl) (bd eg6 Ab8) λx=>o5 (Qid (b:=F4 (λr=>(oa1 x r).run) x) (by kernel_rfl) (Mb9 (λr=>(oa1 x r).run) (λr=>r) x).symm)
noncomputable def oc1:List (Nat×Sum):=[]
theorem fd2:i7 prog G oc1:=trivial
@[reducible] noncomputable def Pa8:Sum:=Fc1 (En oc1) Wf8
theorem bb0:i5 prog G 119 Pa8:=bd Dg5 fd2
noncomputable def Fb4:List (Nat×Sum):=[(177,Ab7),(174,Pa7),(119,Pa8)]
theorem Ud6:i7 prog G Fb4:=⟨dc1,Fb3,bb0,trivial⟩
structure pa3 where
 (is3 is4 is9 v7 xa5 v8 qb5:Int)
 (c7 g7:List V3)
structure O7 where
 H8:Int
noncomputable def wc3(p:pa3)(s:O7):St:=⟨.unk::.ptr 0 0 0 0::.unk::i p.is3::i p.is4::ra 4 (i p.is9::i p.v7::ra 5 (i p.xa5::i p.v8::ra 5 (i p.qb5::i s.H8::ra 35 (i 0::.unk::.ptr 1 0 0 0::.ptr 2 0 0 0::ra 8 [])))),[⟨0,1,[[eL tV p.c7]],true,false,0⟩,⟨0,1,[[eL tV p.g7]],true,false,0⟩,⟨0,1,[[b false]],true,false,0⟩]⟩
noncomputable def Ha0{α:Type}(k:O7->α)(e:Nat->α)(z:α)(p:pa3)(s:O7):α:=let t1:=(O6 (gL tV p.c7 s.H8.toNat) (gL tV p.c7 p.is4.toNat) (gL tV p.c7 p.is3.toNat));let t2:=(u9 ⟨rt tV p.g7,t1.1.n.x,t1.1.n.y,t1.1.n.z,t1.1.b⟩);(sl (decide (s.H8<p.qb5)) (sl (inB s.H8 (List.length p.c7)) (sl (inB p.is4 (List.length p.c7)) (sl (inB p.is3 (List.length p.c7)) (sl (ua0 (gL tV p.c7 s.H8.toNat) (gL tV p.c7 p.is4.toNat) (gL tV p.c7 p.is3.toNat)) (sl t1.2 (sl t1.2 (sl ((cnE tV p.g7)&&true) (sl (Nat.beq t2.alt 1) (e 1) z) z) (k ⟨W (s.H8+1)⟩)) (sl t1.2 z (k ⟨W (s.H8+1)⟩))) z) z) z) z) (e 2))
noncomputable def Y9(p:pa3)(s:O7):Stp O7:=Ha0 .next .exit .fail p s
noncomputable def Yb4:Lo pa3 O7:=⟨En Fb4,0,We0,[1,0,1,4,4,1,4,4,1,1,0,4,1,1,4,4,1,1,0,4,1,1,4,4],[1,3,4,9,10,16,17,23,24,60,62,63],.p,[⟨sUq::sPq 0::sUq::sIq::sIq::ru2 4 (sIq::sIq::ru2 5 (sIq::sIq::ru2 5 (sIq::sIq::ru2 35 (.s (.o (.lit .i64 0))::sUq::sPq 1::sPq 2::ru2 8 [])))),[⟨0,1,true,some [[.c 3 (nL tV)]]⟩,⟨0,1,true,some [[.c 3 (nL tV)]]⟩,⟨0,1,true,some [[.o (.blit false)]]⟩],λa H=>(⟨aIq a 3,aIq a 4,aIq a 9,aIq a 10,aIq a 16,aIq a 17,aIq a 23,hLq tV H 0 0 0,hLq tV H 1 0 0⟩,⟨aIq a 24⟩)⟩],Y9,[(none,λp s=>let t1:=(O6 (gL tV p.c7 s.H8.toNat) (gL tV p.c7 p.is4.toNat) (gL tV p.c7 p.is3.toNat));let t2:=(u9 ⟨rt tV p.g7,t1.1.n.x,t1.1.n.y,t1.1.n.z,t1.1.b⟩);⟨.unk::.ptr 0 0 0 0::.unk::i p.is3::i p.is4::i s.H8::.ptr 3 0 0 0::b t1.2::.unk::i p.is9::i p.v7::ra 5 (i p.xa5::i p.v8::ra 5 (i p.qb5::i s.H8::b (decide (s.H8<p.qb5))::i s.H8::.tup [.agg [i t1.1.n.x,i t1.1.n.y,i t1.1.n.z,i t1.1.b],b t1.2]::eL tV p.c7::i s.H8::.tptr [i (gL tV p.c7 s.H8.toNat).x,i (gL tV p.c7 s.H8.toNat).y,i (gL tV p.c7 s.H8.toNat).z]::.agg [i (gL tV p.c7 s.H8.toNat).x,i (gL tV p.c7 s.H8.toNat).y,i (gL tV p.c7 s.H8.toNat).z]::eL tV p.c7::i p.is4::.tptr [i (gL tV p.c7 p.is4.toNat).x,i (gL tV p.c7 p.is4.toNat).y,i (gL tV p.c7 p.is4.toNat).z]::.agg [i (gL tV p.c7 p.is4.toNat).x,i (gL tV p.c7 p.is4.toNat).y,i (gL tV p.c7 p.is4.toNat).z]::eL tV p.c7::i p.is3::.tptr [i (gL tV p.c7 p.is3.toNat).x,i (gL tV p.c7 p.is3.toNat).y,i (gL tV p.c7 p.is3.toNat).z]::.agg [i (gL tV p.c7 p.is3.toNat).x,i (gL tV p.c7 p.is3.toNat).y,i (gL tV p.c7 p.is3.toNat).z]::.tup [.agg [i t1.1.n.x,i t1.1.n.y,i t1.1.n.z,i t1.1.b],b t1.2]::.agg [i t1.1.n.x,i t1.1.n.y,i t1.1.n.z,i t1.1.b]::b t1.2::b t1.2::b true::.unk::.agg [i t1.1.n.x,i t1.1.n.y,i t1.1.n.z,i t1.1.b]::b false::b true::b true::.unk::u::u::u::u::b true::b true::ra 3 (i 1::.unk::.ptr 1 0 0 0::.ptr 2 0 0 0::ra 8 []))),[⟨0,1,[[eL tV p.c7]],true,false,0⟩,⟨0,1,[[eL tV p.g7]],true,false,0⟩,⟨0,1,[[b (!t2.bs0)]],true,false,0⟩,⟨0,4,[[i t1.1.n.x,i t1.1.n.y,i t1.1.n.z,i t1.1.b]],true,false,0⟩,⟨0,4,[[i t1.1.n.x,i t1.1.n.y,i t1.1.n.z,i t1.1.b]],true,false,0⟩]⟩),(some 4,λp s=>upq (wc3 p s) [(25,b (decide (s.H8<p.qb5)))])],wc3⟩
theorem Hd5:Yb4.OkM:=Lo.okM [] (by kernel_rfl) .nil rfl (.cons (λa H=>by kernel_rfl) .nil) λp s=>(.of @Ha0 (λF _ _ _ _ _=>by unfold Ha0;(repeat' apply j6 (f:=F))<;>rfl) (by kernel_rfl))
structure ya9 where
 (is3 is9 v7 xa5:Int)
structure S6 where
 v8:Int
 (c7 g7:List V3)
noncomputable def wc4(p:ya9)(s:S6):St:=⟨.unk::.ptr 0 0 0 0::.unk::i p.is3::ra 5 (i p.is9::i p.v7::ra 5 (i p.xa5::i s.v8::ra 42 (i 0::.unk::.ptr 1 0 0 0::.ptr 2 0 0 0::ra 8 []))),[⟨0,1,[[eL tV s.c7]],true,false,0⟩,⟨0,1,[[eL tV s.g7]],true,false,0⟩,⟨0,1,[[b false]],true,false,0⟩]⟩
noncomputable def Ha1{α:Type}(k:S6->α)(e:Nat->α)(z:α)(p:ya9)(s:S6):α:=let t1:=(lp (Y9 (⟨p.is3,s.v8,p.is9,p.v7,p.xa5,s.v8,(↑(s.v8.toNat-0):Int),rt tV s.c7,rt tV s.g7⟩:pa3)) (⟨0⟩:O7));(sl (decide (s.v8<p.xa5)) (sl (inB s.v8 ((List.length s.c7)+1)) (sl ((cnE tV s.c7)&&((cnE tV s.g7)&&true)) (sl (Nat.beq t1.1 1) (e 1) (sl (Nat.beq t1.1 2) (k ⟨W (s.v8+1),rt tV s.c7,rt tV s.g7⟩) z)) z) z) (e 2))
noncomputable def ha5(p:ya9)(s:S6):Stp S6:=Ha1 .next .exit .fail p s
noncomputable def Yb5:Lo ya9 S6:=⟨En Fb4,0,We0,[1,0,1,4,4,1,4,4,1,1,0,4,1,1,4,4],[1,3,9,10,16,17,60,62,63],.s .p (.s .p (.s (.b (.s .p (.s .p (.b (.u Yb4.lsM))))) .p)),[⟨sUq::sPq 0::sUq::sIq::ru2 5 (sIq::sIq::ru2 5 (sIq::sIq::ru2 42 (.s (.o (.lit .i64 0))::sUq::sPq 1::sPq 2::ru2 8 []))),[⟨0,1,true,some [[.c 3 (nL tV)]]⟩,⟨0,1,true,some [[.c 3 (nL tV)]]⟩,⟨0,1,true,some [[.o (.blit false)]]⟩],λa H=>(⟨aIq a 3,aIq a 9,aIq a 10,aIq a 16⟩,⟨aIq a 17,hLq tV H 0 0 0,hLq tV H 1 0 0⟩)⟩],ha5,[(none,λp s=>let t1:=(lp (Y9 (⟨p.is3,s.v8,p.is9,p.v7,p.xa5,s.v8,(↑(s.v8.toNat-0):Int),rt tV s.c7,rt tV s.g7⟩:pa3)) (⟨0⟩:O7));let t2:=(O6 (gL tV (rt tV s.c7) t1.2.H8.toNat) (gL tV (rt tV s.c7) s.v8.toNat) (gL tV (rt tV s.c7) p.is3.toNat));let t3:=(u9 ⟨rt tV (rt tV s.g7),t2.1.n.x,t2.1.n.y,t2.1.n.z,t2.1.b⟩);⟨.unk::.ptr 0 0 0 0::.unk::i p.is3::i s.v8::i t1.2.H8::.ptr 3 0 0 0::b t2.2::.unk::i p.is9::i p.v7::ra 5 (i p.xa5::i s.v8::ra 5 (i (↑(s.v8.toNat-0):Int)::i t1.2.H8::b (decide (t1.2.H8<(↑(s.v8.toNat-0):Int)))::i t1.2.H8::.tup [.agg [i t2.1.n.x,i t2.1.n.y,i t2.1.n.z,i t2.1.b],b t2.2]::eL tV (rt tV s.c7)::i t1.2.H8::.tptr [i (gL tV (rt tV s.c7) t1.2.H8.toNat).x,i (gL tV (rt tV s.c7) t1.2.H8.toNat).y,i (gL tV (rt tV s.c7) t1.2.H8.toNat).z]::.agg [i (gL tV (rt tV s.c7) t1.2.H8.toNat).x,i (gL tV (rt tV s.c7) t1.2.H8.toNat).y,i (gL tV (rt tV s.c7) t1.2.H8.toNat).z]::eL tV (rt tV s.c7)::i s.v8::.tptr [i (gL tV (rt tV s.c7) s.v8.toNat).x,i (gL tV (rt tV s.c7) s.v8.toNat).y,i (gL tV (rt tV s.c7) s.v8.toNat).z]::.agg [i (gL tV (rt tV s.c7) s.v8.toNat).x,i (gL tV (rt tV s.c7) s.v8.toNat).y,i (gL tV (rt tV s.c7) s.v8.toNat).z]::eL tV (rt tV s.c7)::i p.is3::.tptr [i (gL tV (rt tV s.c7) p.is3.toNat).x,i (gL tV (rt tV s.c7) p.is3.toNat).y,i (gL tV (rt tV s.c7) p.is3.toNat).z]::.agg [i (gL tV (rt tV s.c7) p.is3.toNat).x,i (gL tV (rt tV s.c7) p.is3.toNat).y,i (gL tV (rt tV s.c7) p.is3.toNat).z]::.tup [.agg [i t2.1.n.x,i t2.1.n.y,i t2.1.n.z,i t2.1.b],b t2.2]::.agg [i t2.1.n.x,i t2.1.n.y,i t2.1.n.z,i t2.1.b]::b t2.2::b t2.2::b true::.unk::.agg [i t2.1.n.x,i t2.1.n.y,i t2.1.n.z,i t2.1.b]::b false::b true::b true::.unk::u::u::u::u::b true::b true::ra 3 (i 1::.unk::.ptr 1 0 0 0::.ptr 2 0 0 0::ra 8 []))),[⟨0,1,[[eL tV (rt tV s.c7)]],true,false,0⟩,⟨0,1,[[eL tV (rt tV s.g7)]],true,false,0⟩,⟨0,1,[[b (!t3.bs0)]],true,false,0⟩,⟨0,4,[[i t2.1.n.x,i t2.1.n.y,i t2.1.n.z,i t2.1.b]],true,false,0⟩,⟨0,4,[[i t2.1.n.x,i t2.1.n.y,i t2.1.n.z,i t2.1.b]],true,false,0⟩]⟩),(some 2,λp s=>upq (wc4 p s) [(18,b (decide (s.v8<p.xa5)))])],wc4⟩
theorem Hd6:Yb5.OkM:=Lo.okM [Yb4.prM] (by kernel_rfl) (.cons Hd5 .nil) rfl (.cons (λa H=>by kernel_rfl) .nil) λp s=>(.of @Ha1 (λF _ _ _ _ _=>by unfold Ha1;(repeat' apply j6 (f:=F))<;>rfl) (by kernel_rfl))
structure Ya5 where
 is9:Int
structure fa7 where
 v7:Int
 (c7 g7:List V3)
noncomputable def wc5(p:Ya5)(s:fa7):St:=⟨.unk::.ptr 0 0 0 0::ra 7 (i p.is9::i s.v7::ra 49 (i 0::.unk::.ptr 1 0 0 0::.ptr 2 0 0 0::ra 8 [])),[⟨0,1,[[eL tV s.c7]],true,false,0⟩,⟨0,1,[[eL tV s.g7]],true,false,0⟩,⟨0,1,[[b false]],true,false,0⟩]⟩
noncomputable def Ha2{α:Type}(k:fa7->α)(e:Nat->α)(z:α)(p:Ya5)(s:fa7):α:=let t1:=(lp (ha5 (⟨s.v7,p.is9,s.v7,(↑(s.v7.toNat-0):Int)⟩:ya9)) (⟨0,rt tV s.c7,rt tV s.g7⟩:S6));(sl (decide (s.v7<p.is9)) (sl (inB s.v7 ((List.length s.c7)+1)) (sl ((cnE tV s.c7)&&((cnE tV s.g7)&&true)) (sl (Nat.beq t1.1 1) (e 1) (sl (Nat.beq t1.1 2) (k ⟨W (s.v7+1),t1.2.c7,t1.2.g7⟩) z)) z) z) (e 2))
noncomputable def Ca0(p:Ya5)(s:fa7):Stp fa7:=Ha2 .next .exit .fail p s
noncomputable def Yb6:Lo Ya5 fa7:=⟨En Fb4,0,We0,[1,0,1,4,4,1,4,4],[1,9,10,60,62,63],.s .p (.s .p (.s (.b (.s .p (.s .p (.b (.u Yb5.lsM))))) .p)),[⟨sUq::sPq 0::ru2 7 (sIq::sIq::ru2 49 (.s (.o (.lit .i64 0))::sUq::sPq 1::sPq 2::ru2 8 [])),[⟨0,1,true,some [[.c 3 (nL tV)]]⟩,⟨0,1,true,some [[.c 3 (nL tV)]]⟩,⟨0,1,true,some [[.o (.blit false)]]⟩],λa H=>(⟨aIq a 9⟩,⟨aIq a 10,hLq tV H 0 0 0,hLq tV H 1 0 0⟩)⟩],Ca0,[(none,λp s=>let t1:=(lp (ha5 (⟨s.v7,p.is9,s.v7,(↑(s.v7.toNat-0):Int)⟩:ya9)) (⟨0,rt tV s.c7,rt tV s.g7⟩:S6));let t2:=(lp (Y9 (⟨s.v7,t1.2.v8,p.is9,s.v7,(↑(s.v7.toNat-0):Int),t1.2.v8,(↑(t1.2.v8.toNat-0):Int),rt tV t1.2.c7,rt tV t1.2.g7⟩:pa3)) (⟨0⟩:O7));let t3:=(O6 (gL tV (rt tV t1.2.c7) t2.2.H8.toNat) (gL tV (rt tV t1.2.c7) t1.2.v8.toNat) (gL tV (rt tV t1.2.c7) s.v7.toNat));let t4:=(u9 ⟨rt tV (rt tV t1.2.g7),t3.1.n.x,t3.1.n.y,t3.1.n.z,t3.1.b⟩);⟨.unk::.ptr 0 0 0 0::.unk::i s.v7::i t1.2.v8::i t2.2.H8::.ptr 3 0 0 0::b t3.2::.unk::i p.is9::i s.v7::ra 5 (i (↑(s.v7.toNat-0):Int)::i t1.2.v8::ra 5 (i (↑(t1.2.v8.toNat-0):Int)::i t2.2.H8::b (decide (t2.2.H8<(↑(t1.2.v8.toNat-0):Int)))::i t2.2.H8::.tup [.agg [i t3.1.n.x,i t3.1.n.y,i t3.1.n.z,i t3.1.b],b t3.2]::eL tV (rt tV t1.2.c7)::i t2.2.H8::.tptr [i (gL tV (rt tV t1.2.c7) t2.2.H8.toNat).x,i (gL tV (rt tV t1.2.c7) t2.2.H8.toNat).y,i (gL tV (rt tV t1.2.c7) t2.2.H8.toNat).z]::.agg [i (gL tV (rt tV t1.2.c7) t2.2.H8.toNat).x,i (gL tV (rt tV t1.2.c7) t2.2.H8.toNat).y,i (gL tV (rt tV t1.2.c7) t2.2.H8.toNat).z]::eL tV (rt tV t1.2.c7)::i t1.2.v8::.tptr [i (gL tV (rt tV t1.2.c7) t1.2.v8.toNat).x,i (gL tV (rt tV t1.2.c7) t1.2.v8.toNat).y,i (gL tV (rt tV t1.2.c7) t1.2.v8.toNat).z]::.agg [i (gL tV (rt tV t1.2.c7) t1.2.v8.toNat).x,i (gL tV (rt tV t1.2.c7) t1.2.v8.toNat).y,i (gL tV (rt tV t1.2.c7) t1.2.v8.toNat).z]::eL tV (rt tV t1.2.c7)::i s.v7::.tptr [i (gL tV (rt tV t1.2.c7) s.v7.toNat).x,i (gL tV (rt tV t1.2.c7) s.v7.toNat).y,i (gL tV (rt tV t1.2.c7) s.v7.toNat).z]::.agg [i (gL tV (rt tV t1.2.c7) s.v7.toNat).x,i (gL tV (rt tV t1.2.c7) s.v7.toNat).y,i (gL tV (rt tV t1.2.c7) s.v7.toNat).z]::.tup [.agg [i t3.1.n.x,i t3.1.n.y,i t3.1.n.z,i t3.1.b],b t3.2]::.agg [i t3.1.n.x,i t3.1.n.y,i t3.1.n.z,i t3.1.b]::b t3.2::b t3.2::b true::.unk::.agg [i t3.1.n.x,i t3.1.n.y,i t3.1.n.z,i t3.1.b]::b false::b true::b true::.unk::u::u::u::u::b true::b true::ra 3 (i 1::.unk::.ptr 1 0 0 0::.ptr 2 0 0 0::ra 8 []))),[⟨0,1,[[eL tV (rt tV t1.2.c7)]],true,false,0⟩,⟨0,1,[[eL tV (rt tV t1.2.g7)]],true,false,0⟩,⟨0,1,[[b (!t4.bs0)]],true,false,0⟩,⟨0,4,[[i t3.1.n.x,i t3.1.n.y,i t3.1.n.z,i t3.1.b]],true,false,0⟩,⟨0,4,[[i t3.1.n.x,i t3.1.n.y,i t3.1.n.z,i t3.1.b]],true,false,0⟩]⟩),(some 0,λp s=>upq (wc5 p s) [(11,b (decide (s.v7<p.is9)))])],wc5⟩
theorem Hd7:Yb6.OkM:=Lo.okM [Yb5.prM] (by kernel_rfl) (.cons Hd6 .nil) rfl (.cons (λa H=>by kernel_rfl) .nil) λp s=>(.of @Ha2 (λF _ _ _ _ _=>by unfold Ha2;(repeat' apply j6 (f:=F))<;>rfl) (by kernel_rfl))
noncomputable def xb2(x:List V3):Option (b7×List b8):=let t1:=(lp (Ca0 (⟨(↑(List.length x):Int)⟩:Ya5)) (⟨0,rt tV x,rt tV x⟩:fa7));let t2:=(lp (ha5 (⟨t1.2.v7,(↑(List.length x):Int),t1.2.v7,(↑(t1.2.v7.toNat-0):Int)⟩:ya9)) (⟨0,rt tV t1.2.c7,rt tV t1.2.g7⟩:S6));let t3:=(lp (Y9 (⟨t1.2.v7,t2.2.v8,(↑(List.length x):Int),t1.2.v7,(↑(t1.2.v7.toNat-0):Int),t2.2.v8,(↑(t2.2.v8.toNat-0):Int),rt tV t2.2.c7,rt tV t2.2.g7⟩:pa3)) (⟨0⟩:O7));let t4:=(O6 (gL tV (rt tV t2.2.c7) t3.2.H8.toNat) (gL tV (rt tV t2.2.c7) t2.2.v8.toNat) (gL tV (rt tV t2.2.c7) t1.2.v7.toNat));let t5:=(u9 ⟨rt tV (rt tV t2.2.g7),t4.1.n.x,t4.1.n.y,t4.1.n.z,t4.1.b⟩);(sl ((cnE tV x)&&((cnE tV x)&&true)) (sl (Nat.beq t1.1 1) (some (b (!t5.bs0),[])) (sl (Nat.beq t1.1 2) (some (b true,[])) none)) none)
noncomputable def Tb6(x:List V3):Bool:=E9 (one r1B) (xb2 x)
noncomputable def Tb7(x:List V3):Bool:=okO (one r1B) (xb2 x)
noncomputable def nd5:Sum:=O9 (ea7 tV) (λx=>.guard (Tb7 x) (.ret ((one r1B).enc (Tb6 x),[])))
theorem le5:i5 prog G 175 nd5:=ua7 (bd Hg2 Ud6) (one r1B) (o:=xb2) λx=>Cd6 (.s .p (.s (.s .p (.b (.i (.s .p (.b (.u Yb6.lsM)))))) .p)) [Yb6.prM] (by kernel_rfl) (.cons Hd7 .nil) (by kernel_rfl)
structure bb1 where
 (K9 L0 L1 c8 b9 c9 g8:Int)
noncomputable def fd3:List (Nat×Sum):=[(88,Fb1)]
theorem Vc7:i7 prog G fd3:=⟨Yb2,trivial⟩
structure bb2 where
 alt:Nat
 bs0:Bool
noncomputable def ua1{α:Type}(kk:bb2->α)(x:bb1):α:=let t1:=(wa0 (⟨(⟨x.c8,x.b9,x.c9⟩:V3),x.g8⟩:Pln) (⟨x.K9,x.L0,x.L1⟩:V3));(sl (wa1 (⟨(⟨x.c8,x.b9,x.c9⟩:V3),x.g8⟩:Pln) (⟨x.K9,x.L0,x.L1⟩:V3)) (kk ⟨1,decide (t1>0)⟩) (kk ⟨0,false⟩))
noncomputable def bb3(x:bb1):bb2:=ua1 (λr=>r) x
noncomputable def pb6(x:bb1)(r:bb2):DT (b7×List b8):=(.ite (Nat.beq r.alt 1) (.ret (b r.bs0,[⟨0,4,[[i x.c8,i x.b9,i x.c9,i x.g8]],true,false,0⟩])) .fail)
theorem rd6{α β:Type}(F:α->β)(kk:bb2->α)(x:bb1):F (ua1 kk x)=ua1 (λr=>F (kk r)) x:=by unfold ua1;(repeat' apply j6 (f:=F))<;>rfl
noncomputable def oc2:Sum:=Ka5 ⟨[.agg (kLq 3),sPq 0],[⟨0,4,true,some [kLq 4]⟩],λa H=>(⟨cIq a 0 0,cIq a 0 1,cIq a 0 2,hIq H 0 0 0,hIq H 0 0 1,hIq H 0 0 2,hIq H 0 0 3⟩,())⟩ (λx=>pb6 x (bb3 x))
theorem fd4:i5 prog G 178 oc2:=B1 (enc:=λx=>⟨[.agg [i x.K9,i x.L0,i x.L1],.ptr 0 0 0 0],[⟨0,4,[[i x.c8,i x.b9,i x.c9,i x.g8]],true,false,0⟩]⟩) (λa H=>by kernel_rfl) (bd Hg4 Vc7) λx=>o5 (Qid (b:=ua1 (λr=>(pb6 x r).run) x) (by kernel_rfl) (rd6 (λr=>(pb6 x r).run) (λr=>r) x).symm)
structure ia6 where
 f7:List V3
 (c8 b9 c9 g8:Int)
noncomputable def Ya6:List (Nat×Sum):=[(178,oc2)]
theorem Qb7:i7 prog G Ya6:=⟨fd4,trivial⟩
structure Q0 where
 f7:List V3
 (is7 c8 b9 c9 g8:Int)
structure s6 where
 is8:Int
noncomputable def Pa9(p:Q0)(s:s6):St:=⟨eL tV p.f7::.fn 178 [.ptr 0 0 0 0]::ra 5 (i p.is7::i s.is8::ra 10 []),[⟨0,4,[[i p.c8,i p.b9,i p.c9,i p.g8]],true,false,0⟩]⟩
noncomputable def M1{α:Type}(k:s6->α)(e:Nat->α)(z:α)(p:Q0)(s:s6):α:=let t1:=(bb3 ⟨(gL tV p.f7 s.is8.toNat).x,(gL tV p.f7 s.is8.toNat).y,(gL tV p.f7 s.is8.toNat).z,p.c8,p.b9,p.c9,p.g8⟩);(sl (decide (s.is8<p.is7)) (sl (inB s.is8 (List.length p.f7)) (sl (Nat.beq t1.alt 1) (sl t1.bs0 (e 1) (k ⟨W (s.is8+1)⟩)) z) z) (e 2))
noncomputable def N8(p:Q0)(s:s6):Stp s6:=M1 .next .exit .fail p s
noncomputable def ta0:Lo Q0 s6:=⟨En Ya6,1,ye6,[1,0,1,4,4],[0,1,7,8],.p,[⟨sLq tV::.fn 178 [.o (.ptr 0 0 0 0)]::ru2 5 (sIq::sIq::ru2 10 []),[⟨0,4,true,some [kLq 4]⟩],λa H=>(⟨aLq tV a 0,aIq a 7,hIq H 0 0 0,hIq H 0 0 1,hIq H 0 0 2,hIq H 0 0 3⟩,⟨aIq a 8⟩)⟩],N8,[(none,λp s=>⟨[i s.is8],[⟨0,4,[[i p.c8,i p.b9,i p.c9,i p.g8]],true,false,0⟩]⟩),(some 0,λp s=>upq (Pa9 p s) [(9,b (decide (s.is8<p.is7)))])],Pa9⟩
theorem Nb0:ta0.Ok:=Lo.ok [] (by kernel_rfl) .nil rfl (.cons (λa H=>by kernel_rfl) .nil) λp s=>(.of @M1 (λF _ _ _ _ _=>by unfold M1;(repeat' apply j6 (f:=F))<;>rfl) (by kernel_rfl))
structure ia7 where
 alt:Nat
 is0:Int
noncomputable def M9{α:Type}(kk:ia7->α)(x:ia6):α:=let t1:=(lp (N8 (⟨rt tV x.f7,(↑(List.length x.f7):Int),x.c8,x.b9,x.c9,x.g8⟩:Q0)) (⟨0⟩:s6));(sl ((cnE tV x.f7)&&true) (sl (Nat.beq t1.1 1) (kk ⟨1,t1.2.is8⟩) (sl (Nat.beq t1.1 2) (kk ⟨1,-1⟩) (kk ⟨0,0⟩))) (kk ⟨0,0⟩))
noncomputable def ia8(x:ia6):ia7:=M9 (λr=>r) x
noncomputable def za0(x:ia6)(r:ia7):DT (b7×List b8):=(.ite (Nat.beq r.alt 1) (.ret (i r.is0,[⟨0,4,[[i x.c8,i x.b9,i x.c9,i x.g8]],true,false,0⟩])) .fail)
theorem dc3{α β:Type}(F:α->β)(kk:ia7->α)(x:ia6):F (M9 kk x)=M9 (λr=>F (kk r)) x:=by unfold M9;(repeat' apply j6 (f:=F))<;>rfl
noncomputable def eb8:Sum:=Ka5 ⟨[sLq tV,.fn 178 [.o (.ptr 0 0 0 0)]],[⟨0,4,true,some [kLq 4]⟩],λa H=>(⟨aLq tV a 0,hIq H 0 0 0,hIq H 0 0 1,hIq H 0 0 2,hIq H 0 0 3⟩,())⟩ (λx=>za0 x (ia8 x))
theorem Yb7:i5 prog G 144 eb8:=B1 (enc:=λx=>⟨[eL tV x.f7,.fn 178 [.ptr 0 0 0 0]],[⟨0,4,[[i x.c8,i x.b9,i x.c9,i x.g8]],true,false,0⟩]⟩) (λa H=>by kernel_rfl) (bd Lf7 Qb7) λx=>za7 (.s .p (.s (.s .p (.b (.u ta0.ls))) .p)) [ta0.pr] (by kernel_rfl) (.cons Nb0 .nil) (Qid (b:=M9 (λr=>(za0 x r).run) x) (by kernel_rfl) (dc3 (λr=>(za0 x r).run) (λr=>r) x).symm)
structure Z0 where
 f7:List V3
 (c8 b9 c9 g8:Int)
noncomputable def Fb5:List (Nat×Sum):=[(144,eb8)]
theorem Ab9:i7 prog G Fb5:=⟨Yb7,trivial⟩
structure Z1 where
 alt:Nat
 bs0:Bool
noncomputable def F5{α:Type}(kk:Z1->α)(x:Z0):α:=let t1:=(ia8 ⟨rt tV x.f7,x.c8,x.b9,x.c9,x.g8⟩);(sl ((cnE tV x.f7)&&true) (sl (Nat.beq t1.alt 1) (kk ⟨1,decide (t1.is0>=0)⟩) (kk ⟨0,false⟩)) (kk ⟨0,false⟩))
noncomputable def Z2(x:Z0):Z1:=F5 (λr=>r) x
noncomputable def oa2(x:Z0)(r:Z1):DT (b7×List b8):=(.ite (Nat.beq r.alt 1) (.ret (b r.bs0,[⟨0,4,[[i x.c8,i x.b9,i x.c9,i x.g8]],true,false,0⟩])) .fail)
theorem Nb1{α β:Type}(F:α->β)(kk:Z1->α)(x:Z0):F (F5 kk x)=F5 (λr=>F (kk r)) x:=by unfold F5;(repeat' apply j6 (f:=F))<;>rfl
noncomputable def Qa0:Sum:=Ka5 ⟨[sLq tV,.fn 178 [.o (.ptr 0 0 0 0)]],[⟨0,4,true,some [kLq 4]⟩],λa H=>(⟨aLq tV a 0,hIq H 0 0 0,hIq H 0 0 1,hIq H 0 0 2,hIq H 0 0 3⟩,())⟩ (λx=>oa2 x (Z2 x))
theorem Fb6:i5 prog G 174 Qa0:=B1 (enc:=λx=>⟨[eL tV x.f7,.fn 178 [.ptr 0 0 0 0]],[⟨0,4,[[i x.c8,i x.b9,i x.c9,i x.g8]],true,false,0⟩]⟩) (λa H=>by kernel_rfl) (bd eg6 Ab9) λx=>o5 (Qid (b:=F5 (λr=>(oa2 x r).run) x) (by kernel_rfl) (Nb1 (λr=>(oa2 x r).run) (λr=>r) x).symm)
noncomputable def Hd8:List (Nat×Sum):=[(174,Qa0)]
theorem rd7:i7 prog G Hd8:=⟨Fb6,trivial⟩
noncomputable def Ya7(x:List V3)(y:Pln):Option (b7×List b8):=let t1:=(Z2 ⟨rt tV x,y.n.x,y.n.y,y.n.z,y.b⟩);(sl ((cnE tV x)&&true) (sl (Nat.beq t1.alt 1) (some (b t1.bs0,[])) none) none)
noncomputable def pa4(x:List V3)(y:Pln):Bool:=E9 (one r1B) (Ya7 x y)
noncomputable def O8(x:List V3)(y:Pln):Bool:=okO (one r1B) (Ya7 x y)
noncomputable def Hc8:Sum:=ma5 (ea7 tV) (I8 tP) (λx y=>.guard (O8 x y) (.ret ((one r1B).enc (pa4 x y),[])))
theorem Hd9:i5 prog G 120 Hc8:=nb8 (bd Dg6 rd7) (one r1B) (o:=Ya7) λx y=>o5 (by kernel_rfl)
noncomputable def rd8:List (Nat×Sum):=[(85,Lb7)]
theorem fd5:i7 prog G rd8:=⟨Tb5,trivial⟩
noncomputable def Qa1(x:V3):Option (b7×List b8):=let t1:=(ya1 x);(sl (ya2 x) (some (b (!t1),[])) none)
noncomputable def kb0(x:V3):Bool:=E9 (one r1B) (Qa1 x)
noncomputable def kb1(x:V3):Bool:=okO (one r1B) (Qa1 x)
noncomputable def wc6:Sum:=O9 (I8 tV) (λx=>.guard (kb1 x) (.ret ((one r1B).enc (kb0 x),[])))
theorem rd9:i5 prog G 173 wc6:=ua7 (bd Hg1 fd5) (one r1B) (o:=Qa1) λx=>o5 (by kernel_rfl)
structure ia9 where
 f7:List V3
noncomputable def Ya8:List (Nat×Sum):=[(173,wc6)]
theorem Qb8:i7 prog G Ya8:=⟨rd9,trivial⟩
structure Q1 where
 f7:List V3
 is7:Int
structure s7 where
 is8:Int
noncomputable def Qa2(p:Q1)(s:s7):St:=⟨eL tV p.f7::.fn 173 []::ra 5 (i p.is7::i s.is8::ra 10 []),[]⟩
noncomputable def M2{α:Type}(k:s7->α)(e:Nat->α)(z:α)(p:Q1)(s:s7):α:=let t1:=(kb0 (gL tV p.f7 s.is8.toNat));(sl (decide (s.is8<p.is7)) (sl (inB s.is8 (List.length p.f7)) (sl (kb1 (gL tV p.f7 s.is8.toNat)) (sl t1 (e 1) (k ⟨W (s.is8+1)⟩)) z) z) (e 2))
noncomputable def N9(p:Q1)(s:s7):Stp s7:=M2 .next .exit .fail p s
noncomputable def ta1:Lo Q1 s7:=⟨En Ya8,0,ye6,[1,0,1,4,4],[0,1,7,8],.p,[⟨sLq tV::.s (.o (.fn 173))::ru2 5 (sIq::sIq::ru2 10 []),[],λa H=>(⟨aLq tV a 0,aIq a 7⟩,⟨aIq a 8⟩)⟩],N9,[(none,λp s=>⟨[i s.is8],[]⟩),(some 0,λp s=>upq (Qa2 p s) [(9,b (decide (s.is8<p.is7)))])],Qa2⟩
theorem Nb2:ta1.Ok:=Lo.ok [] (by kernel_rfl) .nil rfl (.cons (λa H=>by kernel_rfl) .nil) λp s=>(.of @M2 (λF _ _ _ _ _=>by unfold M2;(repeat' apply j6 (f:=F))<;>rfl) (by kernel_rfl))
structure ja0 where
 alt:Nat
 is0:Int
noncomputable def N0{α:Type}(kk:ja0->α)(x:ia9):α:=let t1:=(lp (N9 (⟨rt tV x.f7,(↑(List.length x.f7):Int)⟩:Q1)) (⟨0⟩:s7));(sl ((cnE tV x.f7)&&true) (sl (Nat.beq t1.1 1) (kk ⟨1,t1.2.is8⟩) (sl (Nat.beq t1.1 2) (kk ⟨1,-1⟩) (kk ⟨0,0⟩))) (kk ⟨0,0⟩))
noncomputable def ja1(x:ia9):ja0:=N0 (λr=>r) x
noncomputable def za1(x:ia9)(r:ja0):DT (b7×List b8):=(.ite (Nat.beq r.alt 1) (.ret (i r.is0,[])) .fail)
theorem dc4{α β:Type}(F:α->β)(kk:ja0->α)(x:ia9):F (N0 kk x)=N0 (λr=>F (kk r)) x:=by unfold N0;(repeat' apply j6 (f:=F))<;>rfl
noncomputable def eb9:Sum:=Ka5 ⟨[sLq tV,.s (.o (.fn 173))],[],λa H=>(⟨aLq tV a 0⟩,())⟩ (λx=>za1 x (ja1 x))
theorem Yb8:i5 prog G 144 eb9:=B1 (enc:=λx=>⟨[eL tV x.f7,.fn 173 []],[]⟩) (λa H=>by kernel_rfl) (bd Lf7 Qb8) λx=>za7 (.s .p (.s (.s .p (.b (.u ta1.ls))) .p)) [ta1.pr] (by kernel_rfl) (.cons Nb2 .nil) (Qid (b:=N0 (λr=>(za1 x r).run) x) (by kernel_rfl) (dc4 (λr=>(za1 x r).run) (λr=>r) x).symm)
structure Z3 where
 f7:List V3
noncomputable def Fb7:List (Nat×Sum):=[(144,eb9)]
theorem Bb0:i7 prog G Fb7:=⟨Yb8,trivial⟩
structure Z4 where
 alt:Nat
 bs0:Bool
noncomputable def F6{α:Type}(kk:Z4->α)(x:Z3):α:=let t1:=(ja1 ⟨rt tV x.f7⟩);(sl ((cnE tV x.f7)&&true) (sl (Nat.beq t1.alt 1) (kk ⟨1,decide (t1.is0>=0)⟩) (kk ⟨0,false⟩)) (kk ⟨0,false⟩))
noncomputable def Z5(x:Z3):Z4:=F6 (λr=>r) x
noncomputable def oa3(x:Z3)(r:Z4):DT (b7×List b8):=(.ite (Nat.beq r.alt 1) (.ret (b r.bs0,[])) .fail)
theorem Nb3{α β:Type}(F:α->β)(kk:Z4->α)(x:Z3):F (F6 kk x)=F6 (λr=>F (kk r)) x:=by unfold F6;(repeat' apply j6 (f:=F))<;>rfl
noncomputable def Qa3:Sum:=Ka5 ⟨[sLq tV,.s (.o (.fn 173))],[],λa H=>(⟨aLq tV a 0⟩,())⟩ (λx=>oa3 x (Z5 x))
theorem Fb8:i5 prog G 174 Qa3:=B1 (enc:=λx=>⟨[eL tV x.f7,.fn 173 []],[]⟩) (λa H=>by kernel_rfl) (bd eg6 Bb0) λx=>o5 (Qid (b:=F6 (λr=>(oa3 x r).run) x) (by kernel_rfl) (Nb3 (λr=>(oa3 x r).run) (λr=>r) x).symm)
noncomputable def Ud7:List (Nat×Sum):=[(174,Qa3),(175,nd5)]
theorem Id0:i7 prog G Ud7:=⟨Fb8,le5,trivial⟩
noncomputable def kb2(x:List V3):Option (b7×List b8):=let t1:=(Z5 ⟨rt tV x⟩);let t2:=(Tb6 (rt tV x));(sl (decide ((↑(List.length x):Int)>48)) (some (i 2,[])) (sl ((cnE tV x)&&true) (sl (Nat.beq t1.alt 1) (sl t1.bs0 (some (i 3,[])) (sl (okE tV x) (sl (Tb7 (rt tV x)) (sl t2 (some (i 11,[])) (some (i 0,[]))) none) none)) none) none))
noncomputable def kb3(x:List V3):Int:=E9 (one r1I) (kb2 x)
noncomputable def kb4(x:List V3):Bool:=okO (one r1I) (kb2 x)
noncomputable def lc0:Sum:=O9 (ea7 tV) (λx=>.guard (kb4 x) (.ret ((one r1I).enc (kb3 x),[])))
theorem Hc9:i5 prog G 118 lc0:=ua7 (bd Dg4 Id0) (one r1I) (o:=kb2) λx=>o5 (by kernel_rfl)
noncomputable def fd6:List (Nat×Sum):=[]
theorem Vc8:i7 prog G fd6:=trivial
noncomputable def bb4(x:Int):Bool:=(x != x)
noncomputable def oc3:Sum:=O9 cI (λx=>.ret ((one r1B).enc (bb4 x),[]))
theorem fd7:i5 prog G 220 oc3:=Db9 (bd Jg1 Vc8) λx=>o5 (by kernel_rfl)
noncomputable def Nc1:List (Nat×Sum):=[(220,oc3)]
theorem Dc6:i7 prog G Nc1:=⟨fd7,trivial⟩
noncomputable def wa2(x:Int)(y:Int):Option (b7×List b8):=let t1:=(bb4 x);let t2:=(bb4 y);(sl t1 (sl t2 (some (i 0,[])) (some (i (-1),[]))) (sl t2 (some (i 1,[])) (sl (decide (x<y)) (some (i (-1),[])) (sl (decide (x>y)) (some (i 1,[])) (some (i 0,[]))))))
noncomputable def ja2(x:Int)(y:Int):Int:=E9 (one r1I) (wa2 x y)
noncomputable def ja3(x:Int)(y:Int):Bool:=okO (one r1I) (wa2 x y)
noncomputable def Tb8:Sum:=ma5 cI cI (λx y=>.guard (ja3 x y) (.ret ((one r1I).enc (ja2 x y),[])))
theorem Nc2:i5 prog G 189 Tb8:=nb8 (bd Ig1 Dc6) (one r1I) (o:=wa2) λx y=>o5 (by kernel_rfl)
noncomputable def Ic0:List (Nat×Sum):=[]
theorem Id1:i7 prog G Ic0:=trivial
structure Qa4 where
 Ra7:List Int
 is7:Int
structure S7 where
 is8:Int
noncomputable def oc4(p:Qa4)(s:S7):St:=⟨ra 3 (i 0::.unk::.unk::eL tI p.Ra7::i p.is7::i s.is8::ra 9 []),[]⟩
noncomputable def pb7{α:Type}(k:S7->α)(e:Nat->α)(z:α)(p:Qa4)(s:S7):α:=(sl (decide (s.is8<p.is7)) (sl (inB s.is8 (List.length p.Ra7)) (sl ((gL tI p.Ra7 s.is8.toNat) != 0) (e 1) (k ⟨W (s.is8+1)⟩)) z) (e 2))
noncomputable def la8(p:Qa4)(s:S7):Stp S7:=pb7 .next .exit .fail p s
noncomputable def Nb4:Lo Qa4 S7:=⟨En Ic0,0,Xf7,[1,1,0,1,4,4],[3,6,7,8],.p,[⟨ru2 3 (.s (.o (.lit .i64 0))::sUq::sUq::sLq tI::sIq::sIq::ru2 9 []),[],λa H=>(⟨aLq tI a 6,aIq a 7⟩,⟨aIq a 8⟩)⟩],la8,[(none,λp s=>⟨[i (gL tI p.Ra7 s.is8.toNat)],[]⟩),(some 0,λp s=>upq (oc4 p s) [(9,b (decide (s.is8<p.is7)))])],oc4⟩
theorem sd0:Nb4.Ok:=Lo.ok [] (by kernel_rfl) .nil rfl (.cons (λa H=>by kernel_rfl) .nil) λp s=>(.of @pb7 (λF _ _ _ _ _=>by unfold pb7;(repeat' apply j6 (f:=F))<;>rfl) (by kernel_rfl))
noncomputable def kb5(x:List Int):Option (b7×List b8):=let t1:=(lp (la8 (⟨rt tI x,(↑(List.length x):Int)⟩:Qa4)) (⟨0⟩:S7));(sl ((cnE tI x)&&true) (sl (Nat.beq t1.1 1) (some (i (gL tI (rt tI x) t1.2.is8.toNat),[])) (sl (Nat.beq t1.1 2) (some (i 0,[])) none)) none)
noncomputable def Fb9(x:List Int):Int:=E9 (one r1I) (kb5 x)
noncomputable def Gb0(x:List Int):Bool:=okO (one r1I) (kb5 x)
noncomputable def Vc9:Sum:=O9 (ea7 tI) (λx=>.guard (Gb0 x) (.ret ((one r1I).enc (Fb9 x),[])))
theorem Ud8:i5 prog G 188 Vc9:=ua7 (bd Ig0 Id1) (one r1I) (o:=kb5) λx=>za7 (.s .p (.s .p (.s (.s .p (.b (.u Nb4.ls))) .p))) [Nb4.pr] (by kernel_rfl) (.cons sd0 .nil) (by kernel_rfl)
noncomputable def sd1:List (Nat×Sum):=[(189,Tb8),(188,Vc9)]
theorem fd8:i7 prog G sd1:=⟨Nc2,Ud8,trivial⟩
noncomputable def Qa5(x:V3)(y:V3):Option (b7×List b8):=let t1:=(ja2 x.x y.x);let t2:=(ja2 x.y y.y);let t3:=(ja2 x.z y.z);let t4:=(Fb9 [t1,t2,t3]);(sl (ja3 x.x y.x) (sl (ja3 x.y y.y) (sl (ja3 x.z y.z) (sl (Gb0 [t1,t2,t3]) (some (i t4,[])) none) none) none) none)
noncomputable def kb6(x:V3)(y:V3):Int:=E9 (one r1I) (Qa5 x y)
noncomputable def kb7(x:V3)(y:V3):Bool:=okO (one r1I) (Qa5 x y)
noncomputable def Nb5:Sum:=ma5 (I8 tV) (I8 tV) (λx y=>.guard (kb7 x y) (.ret ((one r1I).enc (kb6 x y),[])))
theorem sd2:i5 prog G 147 Nb5:=nb8 (bd Fg4 fd8) (one r1I) (o:=Qa5) λx y=>o5 (by kernel_rfl)
end Go.Ev.Ce
namespace Go.Ev.L
open Go Go.Ev
theorem sf8(n:Int):W n=(n+9223372036854775808) % 18446744073709551616-9223372036854775808:=IntKind.wrap_i64 n
theorem E4{n:Int}(h1:-9223372036854775808<=n)(h2:n<=9223372036854775807):W n=n:=by rw[sf8];omega
theorem We4(n:Int):∃k,W n=n+18446744073709551616*k:=⟨-((n+9223372036854775808) / 18446744073709551616),by rw[sf8];omega⟩
theorem Bc5(n k:Int):W (n+18446744073709551616*k)=W n:=by rw[sf8,sf8];omega
theorem Va9(a b:Int):W (W a+b)=W (a+b):=by
 obtain⟨k,hk⟩:=We4 a;rw[hk,show a+18446744073709551616*k+b=a+b+18446744073709551616*k by omega,Bc5]
theorem pb8(a b:Int):W (a+W b)=W (a+b):=by rw[Int.add_comm,Va9,Int.add_comm]
theorem Id2(a b:Int):W (W a-b)=W (a-b):=by
 obtain⟨k,hk⟩:=We4 a;rw[hk,show a+18446744073709551616*k-b=a-b+18446744073709551616*k by omega,Bc5]
theorem le6(a b:Int):W (a-W b)=W (a-b):=by
 obtain⟨k,hk⟩:=We4 b;rw[hk,show a-(b+18446744073709551616*k)=a-b+18446744073709551616*(-k) by omega,Bc5]
theorem Pe3(a b:Int):W (W a*b)=W (a*b):=by
 obtain⟨k,hk⟩:=We4 a;rw[hk,show (a+18446744073709551616*k)*b=a*b+18446744073709551616*(k*b) by grind,Bc5]
theorem sf9(a b:Int):W (a*W b)=W (a*b):=by rw[Int.mul_comm,Pe3,Int.mul_comm]
theorem m9{j n:Nat}(h:j<n)(hn:n<=4611686018427387904):W ((j:Int)+1)=((j+1:Nat):Int):=by
 rw[E4 (by omega) (by omega)];omega
theorem Nb6{j n:Nat}(h:j<n):decide ((j:Int)<(n:Int))=true:=decide_eq_true (by omega)
theorem sb5{j n:Nat}(h:¬ j<n):decide ((j:Int)<(n:Int))=false:=decide_eq_false (by omega)
theorem f9{j n:Nat}(h:j<n):inB (j:Int) n=true:=by
 show Nat.blt j n=true;rw[Nat.blt_eq];exact h
theorem wd7(m:Int)(n:Nat):inB m n=decide (0<=m/\m<n):=by
 unfold inB;cases m with
 |ofNat k =>
  rw[Bool.eq_iff_iff,decide_eq_true_eq];show Nat.blt k n=true↔_;rw[Nat.blt_eq];constructor
  ·intro h;exact⟨Int.natCast_nonneg k,Int.ofNat_lt.2 h⟩
  ·intro h;exact Int.ofNat_lt.1 h.2
 |negSucc k=>exact (decide_eq_false (λh=>by omega)).symm
theorem bt{c:Bool}(h:c=true){α:Type}(t e:α):sl c t e=t:=by rw[h];rfl
theorem bf{c:Bool}(h:c=false){α:Type}(t e:α):sl c t e=e:=by rw[h];rfl
theorem ja4{n:Nat}(h:n<=1000000000000):Nat.ble (n*32) room=true:=by
 rw[Nat.ble_eq];unfold room;omega
theorem tf0 {σ : Type} {step : σ → Stp σ} {I : Nat → σ → Prop} {Q : Nat → σ → Prop} (h : ∀ m s, I m s → (∃ t, step s = .exit t ∧ Q t s) ∨ ∃ s' m', m = m' + 1 ∧ step s = .next s' ∧ I m' s') :
  ∀(m n:Nat) (s:σ),m<=n->I m s->Q (lp0 step n s).1 (lp0 step n s).2
 |m,n,s,hn,hi=>by
  rcases h m s hi with⟨t,h1,h2⟩|⟨s',m',rfl,h1,h2⟩
  ·rw[Ad9 h1];exact h2
  ·cases n with
   |zero=>omega
   |succ n =>
    rw[ve5 h1];exact tf0 h m' n s' (by omega) h2
theorem wc7 {σ : Type} {step : σ → Stp σ} {I : Nat → σ → Prop} {Q : Nat → σ → Prop} (h : ∀ m s, I m s → (∃ t, step s = .exit t ∧ Q t s) ∨ ∃ s' m', m = m' + 1 ∧ step s = .next s' ∧ I m' s')
  (m:Nat) (s:σ) (hm:m<=18446744073709551615) (hi:I m s):Q (lp step s).1 (lp step s).2:=by
 rw[nf7];exact tf0 h m rounds s (by unfold rounds;omega) hi
section
variable{σ τ α:Type}{step:σ->Stp σ}
theorem le7 {mk : Nat → τ → σ} {f : τ → α → τ} {fin : Nat} (t : Ty α) (l : List α) (I : Nat → τ → Prop) (hl : l.length ≤ 1000000000)
  (h:∀j a,j<l.length->I j a->step (mk j a)=.next (mk (j+1) (f a (gL t l j)))/\I (j+1) (f a (gL t l j)))
  (hf:∀a,I l.length a->step (mk l.length a)=.exit fin) (j0:Nat) (hj:j0<=l.length) (a:τ) (hi:I j0 a) :
  lp step (mk j0 a)=(fin,mk l.length ((l.drop j0).foldl f a))/\I l.length ((l.drop j0).foldl f a):=by
 have key:=wc7 (step:=step) (I:=λm s=>∃j b,m=l.length-j/\j<=l.length/\s=mk j b/\I j b/\(l.drop j).foldl f b=(l.drop j0).foldl f a)
  (Q:=λu s=>u=fin/\s=mk l.length ((l.drop j0).foldl f a)/\I l.length ((l.drop j0).foldl f a)) (λm s ⟨j,b,hm,hj,hs,hb,he⟩=>by
   subst hs;by_cases hlt:j<l.length
   ·obtain⟨h1,h2⟩:=h j b hlt hb;refine .inr ⟨_,l.length-(j+1),by omega,h1,j+1,_,rfl,by omega,rfl,h2,?_⟩
    rw[<- he,Qic hlt,List.foldl_cons];simp[gL,Qia,Qib hlt]
   ·have:j=l.length:=by omega
    subst this;have he:b=(l.drop j0).foldl f a:=by rw[<- he];simp
    subst he;exact .inl ⟨fin,hf _ hb,rfl,rfl,hb⟩) (l.length-j0) (mk j0 a) (by omega) ⟨j0,a,rfl,hj,rfl,hi,rfl⟩
 exact⟨by rw[<- key.2.1,<- key.1],key.2.2⟩
theorem kb8 {mk : Nat → σ} {c : α → Bool} {u fin : Nat} (t : Ty α) (l : List α) (hl : l.length ≤ 1000000000)
  (h:∀j,j<l.length->step (mk j)=sl (c (gL t l j)) (.exit u) (.next (mk (j+1)))) (hf:step (mk l.length)=.exit fin) (j0:Nat) (hj:j0<=l.length) :
  (lp step (mk j0)).1=if (l.drop j0).any c then u else fin :=
 wc7 (step:=step) (I:=λm s=>∃j,m=l.length-j/\j<=l.length/\s=mk j/\(l.drop j).any c=(l.drop j0).any c)
  (Q:=λv _=>v=if (l.drop j0).any c then u else fin) (λm s ⟨j,hm,hj,hs,he⟩=>by
   subst hs;by_cases hlt:j<l.length
   ·have h1:=h j hlt;have e:gL t l j=l[j]:=by simp[gL,Qia,Qib hlt]
    have e2:(l.drop j).any c=(c l[j]||(l.drop (j+1)).any c):=by rw[Qic hlt,List.any_cons]
    rw[e] at h1;cases hc:c l[j] with
    |true =>
     rw[hc] at h1;refine .inl ⟨u,h1,?_⟩;rw[<- he,e2,hc];rfl
    |false =>
     rw[hc] at h1;refine .inr ⟨_,l.length-(j+1),by omega,h1,j+1,rfl,by omega,rfl,?_⟩
     rw[<- he,e2,hc];rfl
   ·have:j=l.length:=by omega
    subst this;refine .inl ⟨fin,hf,?_⟩;rw[<- he];simp) (l.length-j0) (mk j0) (by omega) ⟨j0,rfl,hj,rfl,rfl⟩
theorem wa3 {mk : Nat → σ} {c : α → Bool} {u fin : Nat} (t : Ty α) (l : List α) (hl : l.length ≤ 1000000000)
  (h:∀j,j<l.length->step (mk j)=sl (c (gL t l j)) (.exit u) (.next (mk (j+1)))) (hf:step (mk l.length)=.exit fin) (j0:Nat) (hj:j0<=l.length) :
  lp step (mk j0)=if (l.drop j0).any c then (u,mk (j0+(l.drop j0).findIdx c)) else (fin,mk l.length):=by
 have key:=wc7 (step:=step) (I:=λm s=>∃j,m=l.length-j/\j<=l.length/\j0<=j/\s=mk j/\(l.drop j).any c=(l.drop j0).any c/\j+(l.drop j).findIdx c=j0+(l.drop j0).findIdx c)
  (Q:=λv s=>(v,s)=if (l.drop j0).any c then (u,mk (j0+(l.drop j0).findIdx c)) else (fin,mk l.length)) (λm s ⟨j,hm,hj,hj0,hs,he,hi⟩=>by
   subst hs;by_cases hlt:j<l.length
   ·have h1:=h j hlt;have e:gL t l j=l[j]:=by simp[gL,Qia,Qib hlt]
    have e2:(l.drop j).any c=(c l[j]||(l.drop (j+1)).any c):=by rw[Qic hlt,List.any_cons]
    have e3:(l.drop j).findIdx c=if c l[j] then 0 else (l.drop (j+1)).findIdx c+1:=by rw[Qic hlt,List.findIdx_cons];cases c l[j]<;>rfl
    rw[e] at h1;cases hc:c l[j] with
    |true =>
     rw[hc] at h1;refine .inl ⟨u,h1,?_⟩;rw[<- he,e2,hc,<- hi,e3,hc];rfl
    |false =>
     rw[hc] at h1;refine .inr ⟨_,l.length-(j+1),by omega,h1,j+1,rfl,by omega,by omega,rfl,?_,?_⟩
     ·rw[<- he,e2,hc];rfl
     ·rw[<- hi,e3,hc];simp only[Qif,if_false];omega
   ·have:j=l.length:=by omega
    subst this;refine .inl ⟨fin,hf,?_⟩;rw[<- he];simp) (l.length-j0) (mk j0) (by omega) ⟨j0,rfl,hj,Qie _,rfl,rfl,rfl⟩
 exact key
end
theorem lc1{α:Type}(t:Ty α){l:List α}{j:Nat}(h:j<l.length):gL t l j∈l:=by
 simp[gL,Qia,Qib h]
theorem Ma0{α:Type}(t:Ty α){l:List α}{j:Nat}(h:j<l.length):gL t l j=l[j]:=by
 simp[gL,Qia,Qib h]
def euF:Nat->Int->Int->Int
 |0,g,_=>g
 |k+1,g,n=>if n=0 then g else euF k n (Int.tmod g n)
def eu(g n:Int):Int:=euF (n.natAbs+1) g n
theorem nb5{g n:Int}(h:n≠0):(Int.tmod g n).natAbs<n.natAbs:=by
 rw[Int.natAbs_tmod];exact Nat.mod_lt _ (by omega)
theorem Be8:∀(k m:Nat) {g n:Int},n.natAbs<k->n.natAbs<m->euF k g n=euF m g n
 |0,_,_,_,h,_=>by omega
 |_+1,0,_,_,_,h=>by omega
 |k+1,m+1,g,n,h1,h2=>by
  unfold euF;by_cases h:n=0
  ·rw[if_pos h,if_pos h]
  ·rw[if_neg h,if_neg h]
   have:=nb5 (g:=g) h
   exact Be8 k m (by omega) (by omega)
theorem Bc6(g:Int):eu g 0=g:=by simp[eu,euF]
theorem wd8{g n:Int}(h:n≠0):eu g n=eu n (Int.tmod g n):=by
 have:=nb5 (g:=g) h
 unfold eu
 conv=>lhs;unfold euF
 rw[if_neg h];exact Be8 _ _ (by omega) (by omega)
theorem eg8:∀(k:Nat) (g n:Int),n.natAbs<=k->(eu g n).natAbs=Int.gcd g n:=by
 intro k
 induction k with
 |zero =>
  intro g n h
  have:n=0:=by omega
  subst this;rw[Bc6];simp
 |succ k ih =>
  intro g n h;by_cases h0:n=0
  ·subst h0;rw[Bc6];simp
  ·have:=nb5 (g:=g) h0
   rw[wd8 h0,ih n (Int.tmod g n) (by omega)]
   unfold Int.gcd;rw[Int.natAbs_tmod,Nat.gcd_comm g.natAbs,Nat.gcd_comm n.natAbs,<- Nat.gcd_rec]
theorem tf1(g n:Int):(eu g n).natAbs=Int.gcd g n:=eg8 _ g n (Qie _)
theorem gf6:∀(k:Nat) (g n:Int),n.natAbs<=k->0<=g->0<=n->0<=eu g n:=by
 intro k
 induction k with
 |zero =>
  intro g n h hg _
  have:n=0:=by omega
  subst this;rw[Bc6];exact hg
 |succ k ih =>
  intro g n h hg hn;by_cases h0:n=0
  ·subst h0;rw[Bc6];exact hg
  ·have:=nb5 (g:=g) h0
   rw[wd8 h0];exact ih n _ (by omega) hn (Int.tmod_nonneg _ hg)
theorem tf2{g n:Int}(hg:0<=g)(hn:0<=n):eu g n=(Int.gcd g n:Int):=by
 have h1:=gf6 _ g n (Qie _) hg hn;have h2:=tf1 g n;omega
section
variable{σ:Type}{step:σ->Stp σ}{mk:Int->Int->σ}
theorem We5(h:∀g n,n≠0->step (mk g n)=.next (mk n (Int.tmod g n)))(h0:∀g,step (mk g 0)=.exit 1)(g n:Int)(hn:n.natAbs<=9223372036854775808):lp step (mk g n)=(1,mk (eu g n) 0):=by
 have:=wc7 (step:=step) (I:=λm s=>∃a c,s=mk a c/\c.natAbs<=m/\eu a c=eu g n) (Q:=λu s=>(u,s)=(1,mk (eu g n) 0)) (λm s ⟨a,c,hs,hm,he⟩=>by
  subst hs;by_cases hc:c=0
  ·subst hc;rw[Bc6] at he;subst he;exact .inl ⟨1,h0 _,rfl⟩
  ·have ht:=nb5 (g:=a) hc;exact .inr ⟨_,m-1,by omega,h a c hc,c,_,rfl,by omega,by rw[<- he,wd8 hc]⟩) n.natAbs (mk g n) (by omega) ⟨g,n,rfl,Qie _,rfl⟩
 exact this
theorem nd6(h:∀g n,0<n->step (mk g n)=.next (mk n (Int.tmod g n)))(h0:∀g,step (mk g 0)=.exit 1)(g n:Int)(hg:0<=g)(h1:0<=n)(hn:n<=9223372036854775808):lp step (mk g n)=(1,mk (eu g n) 0):=by
 have:=wc7 (step:=step) (I:=λm s=>∃a c,s=mk a c/\c.natAbs<=m/\0<=a/\0<=c/\eu a c=eu g n) (Q:=λu s=>(u,s)=(1,mk (eu g n) 0)) (λm s ⟨a,c,hs,hm,ha,hc0,he⟩=>by
  subst hs;by_cases hc:c=0
  ·subst hc;rw[Bc6] at he;subst he;exact .inl ⟨1,h0 _,rfl⟩
  ·have ht:=nb5 (g:=a) hc;exact .inr ⟨_,m-1,by omega,h a c (by omega),c,_,rfl,by omega,hc0,Int.tmod_nonneg _ ha,by rw[<- he,wd8 hc]⟩) n.natAbs (mk g n) (by omega) ⟨g,n,rfl,Qie _,hg,h1,rfl⟩
 exact this
end
theorem mb{a c A C:Int}(h1:-A<=a)(h2:a<=A)(h3:-C<=c)(h4:c<=C):-(A*C)<=a*c/\a*c<=A*C:=by
 have hA:a.natAbs<=A.natAbs:=by omega
 have hC:c.natAbs<=C.natAbs:=by omega
 have h5:=Nat.mul_le_mul hA hC;rw[<- Int.natAbs_mul,<- Int.natAbs_mul] at h5;have h6:0<=A*C:=Int.mul_nonneg (by omega) (by omega)
 omega
end Go.Ev.L
namespace Go.Proofs
open Go.Shelf
set_option maxRecDepth 100000 in
def Ce.sortLayV_ren:Go.Shelf.Ren:=⟨fun | 6=>146 | 15=>180 | 14=>187 | 28=>207 | 29=>208 | 20=>212 | 21=>213 | 22=>214 | 23=>215 | 24=>216 | 25=>217 | 26=>218 | 27=>219 | 46=>230 | 47=>224 | 48=>225 | 49=>231 | 50=>232 | 57=>234 | n=>n,fun | 22=>33 | 24=>27 | 25=>112 | 3=>3 | 39=>173 | 0=>0 | 53=>197 | 55=>199 | 4=>4 | 46=>191 | 45=>190 | 50=>50 | 5=>5 | 9=>9 | 66=>210 | 70=>214 | 76=>218 | 77=>219 | n=>n,fun | n=>n⟩
set_option maxRecDepth 100000 in
theorem Ce.sortLayV:Go.Proofs.SlLaysF0.n6 Tryz.prog Ce.sortLayV_ren:={
 mixed:=by kernel_rfl
 f6:=⟨Tryz.f146.name,by decide,Tryz.func146.trans (congrArg some (by kernel_rfl))⟩
 f14:=⟨Tryz.f187.name,by decide,Tryz.func187.trans (congrArg some (by kernel_rfl))⟩
 f15:=Tryz.func180.trans (congrArg some (by kernel_rfl))
 f20:=⟨Tryz.f212.name,by decide,Tryz.func212.trans (congrArg some (by kernel_rfl))⟩
 f21:=⟨Tryz.f213.name,by decide,Tryz.func213.trans (congrArg some (by kernel_rfl))⟩
 f22:=⟨Tryz.f214.name,by decide,Tryz.func214.trans (congrArg some (by kernel_rfl))⟩
 f23:=⟨Tryz.f215.name,by decide,Tryz.func215.trans (congrArg some (by kernel_rfl))⟩
 f24:=⟨Tryz.f216.name,by decide,Tryz.func216.trans (congrArg some (by kernel_rfl))⟩
 f25:=⟨Tryz.f217.name,by decide,Tryz.func217.trans (congrArg some (by kernel_rfl))⟩
 f26:=⟨Tryz.f218.name,by decide,Tryz.func218.trans (congrArg some (by kernel_rfl))⟩
 f27:=⟨Tryz.f219.name,by decide,Tryz.func219.trans (congrArg some (by kernel_rfl))⟩
 f28:=Tryz.func207.trans (congrArg some (by kernel_rfl))
 f29:=Tryz.func208.trans (congrArg some (by kernel_rfl))
 f46:=⟨Tryz.f230.name,by decide,Tryz.func230.trans (congrArg some (by kernel_rfl))⟩
 f47:=Tryz.func224.trans (congrArg some (by kernel_rfl))
 f48:=Tryz.func225.trans (congrArg some (by kernel_rfl))
 f49:=⟨Tryz.f231.name,by decide,Tryz.func231.trans (congrArg some (by kernel_rfl))⟩
 f50:=⟨Tryz.f232.name,by decide,Tryz.func232.trans (congrArg some (by kernel_rfl))⟩
 f57:=⟨Tryz.f234.name,by decide,Tryz.func234.trans (congrArg some (by kernel_rfl))⟩
 t0:=Tryz.underlying0
 a0:=Tryz.isAgg0
 z0:=Tryz.sizeOf0
 v0:=Tryz.zeroValue0
 t3:=Tryz.underlying3
 a3:=Tryz.isAgg3
 z3:=Tryz.sizeOf3
 v3:=Tryz.zeroValue3
 t4:=Tryz.underlying4
 a4:=Tryz.isAgg4
 z4:=Tryz.sizeOf4
 v4:=Tryz.zeroValue4
 t5:=Tryz.underlying5
 a5:=Tryz.isAgg5
 z5:=Tryz.sizeOf5
 v5:=Tryz.zeroValue5
 t9:=Tryz.underlying9
 a9:=Tryz.isAgg9
 z9:=Tryz.sizeOf9
 v9:=Tryz.zeroValue9
 t22:=Tryz.underlying33
 a22:=Tryz.isAgg33
 z22:=Tryz.sizeOf33
 v22:=Tryz.zeroValue33
 t25:=Tryz.underlying112
 a25:=Tryz.isAgg112
 z25:=Tryz.sizeOf112
 v25:=Tryz.zeroValue112
 t39:=Tryz.underlying173
 a39:=Tryz.isAgg173
 z39:=Tryz.sizeOf173
 v39:=Tryz.zeroValue173
 t45:=Tryz.underlying190
 a45:=Tryz.isAgg190
 z45:=Tryz.sizeOf190
 v45:=Tryz.zeroValue190
 t46:=Tryz.underlying191
 a46:=Tryz.isAgg191
 z46:=Tryz.sizeOf191
 v46:=Tryz.zeroValue191
 t50:=Tryz.underlying50
 a50:=Tryz.isAgg50
 z50:=Tryz.sizeOf50
 v50:=Tryz.zeroValue50
 t53:=Tryz.underlying197
 a53:=Tryz.isAgg197
 z53:=Tryz.sizeOf197
 v53:=Tryz.zeroValue197
 t55:=Tryz.underlying199
 a55:=Tryz.isAgg199
 z55:=Tryz.sizeOf199
 v55:=Tryz.zeroValue199
 t66:=Tryz.underlying210
 a66:=Tryz.isAgg210
 z66:=Tryz.sizeOf210
 v66:=Tryz.zeroValue210
 t70:=Tryz.underlying214
 a70:=Tryz.isAgg214
 z70:=Tryz.sizeOf214
 v70:=Tryz.zeroValue214
 t76:=Tryz.underlying218
 a76:=Tryz.isAgg218
 z76:=Tryz.sizeOf218
 v76:=Tryz.zeroValue218
 t77:=Tryz.underlying219
 a77:=Tryz.isAgg219
 z77:=Tryz.sizeOf219
 v77:=Tryz.zeroValue219 }
end Go.Proofs
namespace Go.Ev.Ce
open Go Go.Ev Go.Ev.L Go.Proofs Go.Sort
theorem We6(x y:Int):wa2 x y=some (i (fb5 x y),[]):=by
 unfold wa2 bb4 fb5;simp only[bne_self_eq_false,yb6,decide_eq_true_eq,Qif,if_false]
 split<;>(try split)<;>rfl
theorem eg9(x y:Int):ja2 x y=fb5 x y:=by unfold ja2;rw[We6];rfl
theorem fg0(x y:Int):ja3 x y=true:=by unfold ja3;rw[We6];rfl
def orI(a c d:Int):Int:=if a=0 then if c=0 then d else c else a
theorem Lf8(a c d:Int):((lp (la8 ⟨[a,c,d],3⟩) ⟨0⟩).1=1/\gL tI [a,c,d] (lp (la8 ⟨[a,c,d],3⟩) ⟨0⟩).2.is8.toNat=orI a c d)\/((lp (la8 ⟨[a,c,d],3⟩) ⟨0⟩).1=2/\orI a c d=0):=by
 have g0:gL tI [a,c,d] 0=a:=rfl;have g1:gL tI [a,c,d] 1=c:=rfl;have g2:gL tI [a,c,d] 2=d:=rfl;refine wc7 (step:=la8 ⟨[a,c,d],3⟩) (I:=λm s=>(m=3/\s=⟨0⟩)\/(m=2/\s=⟨1⟩/\a=0)\/(m=1/\s=⟨2⟩/\a=0/\c=0)\/(m=0/\s=⟨3⟩/\a=0/\c=0/\d=0))
  (Q:=λt s=>(t=1/\gL tI [a,c,d] s.is8.toNat=orI a c d)\/(t=2/\orI a c d=0)) (λm s hi=>?_) 3 ⟨0⟩ (by omega) (.inl ⟨rfl,rfl⟩)
 rcases hi with⟨rfl,rfl⟩|⟨rfl,rfl,ha⟩|⟨rfl,rfl,ha,hc⟩|⟨rfl,rfl,ha,hc,hd⟩
 ·by_cases h:a=0
  ·exact .inr ⟨⟨1⟩,2,rfl,by subst h;rfl,.inr (.inl ⟨rfl,rfl,h⟩)⟩
  ·refine .inl ⟨1,?_,.inl ⟨rfl,by unfold orI;rw[if_neg h];rfl⟩⟩
   show sl (a != 0) (Stp.exit 1) (Stp.next (⟨W (0+1)⟩:S7))=_;rw[bt (by simpa using h)]
 ·by_cases h:c=0
  ·exact .inr ⟨⟨2⟩,1,rfl,by subst h;rfl,.inr (.inr (.inl ⟨rfl,rfl,ha,h⟩))⟩
  ·refine .inl ⟨1,?_,.inl ⟨rfl,by unfold orI;rw[if_pos ha,if_neg h];rfl⟩⟩
   show sl (c != 0) (Stp.exit 1) (Stp.next (⟨W (1+1)⟩:S7))=_;rw[bt (by simpa using h)]
 ·by_cases h:d=0
  ·exact .inr ⟨⟨3⟩,0,rfl,by subst h;rfl,.inr (.inr (.inr ⟨rfl,rfl,ha,hc,h⟩))⟩
  ·refine .inl ⟨1,?_,.inl ⟨rfl,by unfold orI;rw[if_pos ha,if_pos hc];rfl⟩⟩
   show sl (d != 0) (Stp.exit 1) (Stp.next (⟨W (2+1)⟩:S7))=_;rw[bt (by simpa using h)]
 ·exact .inl ⟨2,rfl,.inr ⟨rfl,by unfold orI;rw[if_pos ha,if_pos hc];exact hd⟩⟩
theorem Yf9(a c d:Int):kb5 [a,c,d]=some (i (orI a c d),[]):=by
 have h:=Lf8 a c d;unfold kb5;simp only[i9,i6];rw[show ((([a,c,d]:List Int).length:Nat):Int)=3 from rfl]
 generalize lp (la8 ⟨[a,c,d],3⟩) ⟨0⟩=r at *
 rcases h with⟨h1,h2⟩|⟨h1,h2⟩
 ·rw[h1,h2];rfl
 ·rw[h1,h2];rfl
theorem Jg7(a c d:Int):Fb9 [a,c,d]=orI a c d:=by unfold Fb9;rw[Yf9];rfl
theorem Jg8(a c d:Int):Gb0 [a,c,d]=true:=by unfold Gb0;rw[Yf9];rfl
def Yb9(x y:V3):Int:=orI (fb5 x.x y.x) (fb5 x.y y.y) (fb5 x.z y.z)
def LtV(x y:V3):Prop:=x.x<y.x\/x.x=y.x/\(x.y<y.y\/x.y=y.y/\x.z<y.z)
instance(x y:V3):Decidable (LtV x y):=by unfold LtV;exact inferInstance
theorem Lf9(x y:V3):Yb9 x y<0↔LtV x y:=by
 have h1:=kc1 x.x y.x;have h2:=Uc6 x.x y.x;have h3:=kc1 x.y y.y;have h4:=Uc6 x.y y.y;have h5:=kc1 x.z y.z;unfold Yb9 orI LtV;split
 ·split<;>omega
 ·omega
theorem fb0(x y:V3):ltOf Yb9 x y=decide (LtV x y):=by
 unfold ltOf;rw[decide_eq_decide];exact Lf9 x y
theorem ug3:SWO (ltOf Yb9) where
 irrefl x:=by rw[fb0];simp[LtV]
 trans x y z h1 h2:=by rw[fb0,decide_eq_true_eq] at *;unfold LtV at *;omega
 ntrans x y z h1 h2:=by rw[fb0,decide_eq_false_iff_not] at *;unfold LtV at *;omega
theorem Jg9(x y:V3)(h1:ltOf Yb9 x y=false)(h2:ltOf Yb9 y x=false):x=y:=by
 rw[fb0,decide_eq_false_iff_not] at *
 unfold LtV at *
 obtain⟨a,b,c⟩:=x;obtain⟨a',b',c'⟩:=y
 simp only at *
 have:a=a'/\b=b'/\c=c':=by omega
 obtain⟨rfl,rfl,rfl⟩:=this;rfl
theorem nd7(x y:V3):Qa5 x y=some (i (Yb9 x y),[]):=by
 unfold Qa5 Yb9;simp only[eg9,fg0,Jg7,Jg8,l9]
theorem fg1(x y:V3):kb6 x y=Yb9 x y:=by unfold kb6;rw[nd7];rfl
theorem fg2(x y:V3):kb7 x y=true:=by unfold kb7;rw[nd7];rfl
theorem fg3(x y:V3):(Nb5 [.agg (tV.row x),.agg (tV.row y)] []).run=some (i (Yb9 x y),[]):=by
 have:(Nb5 [.agg (tV.row x),.agg (tV.row y)] []).run=sel (kb7 x y) (some (i (kb6 x y),[])) none:=by kernel_rfl
 rw[this,fg2,fg1]
def tf3(p:V3):List Value:=[.int .i64 p.x,.int .i64 p.y,.int .i64 p.z]
instance:Inhabited V3:=⟨⟨0,0,0⟩⟩
def oc5(l:List V3):List V3:=l.mergeSort λx y=>!ltOf Yb9 y x
theorem ae4(l:List V3):(oc5 l).length=l.length:=List.length_mergeSort l
noncomputable def Ka9:Sum:=Ve1 tV 147 27 oc5
theorem gf7:Ce.sortLayV_ren.f 6=146:=by kernel_rfl
theorem Id3:Ce.sortLayV_ren.t 24=27:=by kernel_rfl
set_option maxRecDepth 100000 in
theorem kb9:i5 prog G 146 Ka9:=by
 refine Ve2 (enc:=tf3) (cf:=Yb9) ⟨_,Tryz.func146,by kernel_rfl,of_decide_eq_true (by kernel_rfl)⟩ (by decide) (λ_=>rfl) (λr h=>eb1 (n:=3) h) (λx v hv=>?_) ae4
  (λblk off size w=>Ve0 sd2 fg3 (λ_=>rfl) (λ_=>rfl) _ _ _ _ _) (λblk cap d w hcl hH hb hs=>?_)
 ·simp[tf3] at hv
  rcases hv with rfl|rfl|rfl<;>rfl
 ·have eg:∀args w,(callFunc 147 args).run Tryz.prog w=.ok (.enter 147 args) w:=enters_of Tryz.func147 (by kernel_rfl) rfl
  have:=AnyQ.slices_SortFunc Ce.sortLayV 3 (by rw[Id3];exact Tryz.isAgg27) (by rw[Id3];exact Tryz.sizeOf27) tf3 (λ_=>rfl) (λx v hv=>by simp[tf3] at hv;rcases hv with rfl | rfl | rfl<;>rfl) Yb9 ug3 147 #[] blk 0 cap d w eg (hcl 0 d.size) hH hb hs
  rw[gf7] at this;refine this.mono λe w' ⟨h1,d',n,os,h2,h3,h4⟩=>⟨h1,n,os,?_⟩
  have h5:=sorted_unique_holds ug3 Jg9 d d' h2 h3;rw[h4];show _=sortWorldK tf3 3 w blk 0 n (d.toList.mergeSort λx y=>!ltOf Yb9 y x).toArray os
  rw[<- h5]
end Go.Ev.Ce
namespace Go.Ev.Ce
open Go Go.Ev Go.Ev.L Go.Proofs
set_option maxRecDepth 100000
noncomputable def Dc7:List (Nat×Sum):=[]
theorem wc8:i7 prog G Dc7:=trivial
structure Ea1 where
 (alt ns0:Nat)
 eh0:List (List b7)
noncomputable def da8{α:Type}(kk:Ea1->α)(x:V3×List V3):α:=(sl (Nat.beq (len (o8 (λk=>(tV).row (gL tV (x.1::x.2) k)) (List.range (List.length x.2+1)))) 0) (kk ⟨1,0,[]⟩) (sl (Nat.beq 0 0&&Nat.ble ((0+(len (o8 (λk=>(tV).row (gL tV (x.1::x.2) k)) (List.range (List.length x.2+1)))))*24) room) (kk ⟨1,(0+(len (o8 (λk=>(tV).row (gL tV (x.1::x.2) k)) (List.range (List.length x.2+1))))),(app [] (o8 (λk=>(tV).row (gL tV (x.1::x.2) k)) (List.range (List.length x.2+1))))⟩) (kk ⟨0,0,[]⟩)))
noncomputable def ra5(x:V3×List V3):Ea1:=da8 (λr=>r) x
noncomputable def Wa0(r:Ea1):DT (b7×List b8):=(.ite (Nat.beq r.alt 1) (.ret (.sl 0 0 r.ns0 0,[⟨27,3,r.eh0,true,false,0⟩])) .fail)
theorem Nc3{α β:Type}(F:α->β)(kk:Ea1->α)(x:V3×List V3):F (da8 kk x)=da8 (λr=>F (kk r)) x:=by unfold da8;(repeat' apply j6 (f:=F))<;>rfl
noncomputable def db4:Sum:=O9 (ve8 tV) (λx=>Wa0 (ra5 x))
theorem Cb9:i5 prog G 145 db4:=Db9 (bd Fg3 wc8) λx=>o5 (Qid (b:=da8 (λr=>(Wa0 r).run) x) (by kernel_rfl) (Nc3 (λr=>(Wa0 r).run) (λr=>r) x).symm)
structure wa4 where
 ns0:Nat
 eh0:List (List b7)
noncomputable def La0:List (Nat×Sum):=[]
theorem lc2:i7 prog G La0:=trivial
structure I9 where
 (ns0 os4 ns4:Nat)
structure u7 where
 (is3 is5:Int)
 eh0:List (List b7)
noncomputable def fb1(p:I9)(s:u7):St:=⟨.sl 0 0 p.ns0 0::.unk::.unk::i s.is3::.sl 0 p.os4 p.ns4 0::i s.is5::ra 55 [],[⟨27,3,s.eh0,true,false,0⟩]⟩
noncomputable def S8{α:Type}(k:u7->α)(e:Nat->α)(z:α)(p:I9)(s:u7):α:=(sl (decide (s.is5<(↑p.ns4:Int))) (sl (inB s.is5 p.ns4) (sl (ldR tV s.eh0 (p.os4+s.is5.toNat)) (sl (inB (W (s.is5-1)) p.ns4) (sl (ldR tV s.eh0 (p.os4+(W (s.is5-1)).toNat)) (sl (!(((rdR tV s.eh0 (p.os4+s.is5.toNat)).x==(rdR tV s.eh0 (p.os4+(W (s.is5-1)).toNat)).x)&&(((rdR tV s.eh0 (p.os4+s.is5.toNat)).y==(rdR tV s.eh0 (p.os4+(W (s.is5-1)).toNat)).y)&&(((rdR tV s.eh0 (p.os4+s.is5.toNat)).z==(rdR tV s.eh0 (p.os4+(W (s.is5-1)).toNat)).z)&&true)))) (sl (inB s.is5 p.ns4) (sl (ldR tV s.eh0 (p.os4+s.is5.toNat)) (sl (inB s.is3 p.ns0) (sl ((Nat.blt (0+s.is3.toNat) (len s.eh0))&&(Nat.ble (0+3) (len (o0 s.eh0 (0+s.is3.toNat))))) (k ⟨W (s.is3+1),W (s.is5+1),setAt s.eh0 (0+s.is3.toNat) (da4 (o0 s.eh0 (0+s.is3.toNat)) 0 [i (rdR tV s.eh0 (p.os4+s.is5.toNat)).x,i (rdR tV s.eh0 (p.os4+s.is5.toNat)).y,i (rdR tV s.eh0 (p.os4+s.is5.toNat)).z])⟩) z) z) z) z) (k ⟨s.is3,W (s.is5+1),s.eh0⟩)) z) z) z) z) (e 1))
noncomputable def w8(p:I9)(s:u7):Stp u7:=S8 .next .exit .fail p s
noncomputable def Ea2:Lo I9 u7:=⟨En La0,1,sf0,[1,1,0,1,4,4,1,0,4,1,2,1,0,1,4,4],[0,3,4,5],.p,[⟨.s (.o (.sl 0 0 (some 0) none))::sUq::sUq::sIq::.s (.o (.sl 0 0 none none))::sIq::ru2 55 [],[⟨27,3,true,none⟩],λa H=>(⟨slN (slT a 0),slO (slT a 4),slN (slT a 4)⟩,⟨aIq a 3,aIq a 5,elT H 0⟩)⟩],w8,[(some 2,λp s=>upq (fb1 p s) [(29,i s.is5),(30,.sl 0 p.os4 p.ns4 0),(31,i (↑p.ns4:Int)),(32,b (decide (s.is5<(↑p.ns4:Int))))])],fb1⟩
theorem dc5:Ea2.Ok:=Lo.ok [] (by kernel_rfl) .nil rfl (.cons (λa H=>by kernel_rfl) .nil) λp s=>(.of @S8 (λF _ _ _ _ _=>by unfold S8;(repeat' apply j6 (f:=F))<;>rfl) (by kernel_rfl))
structure Z6 where
 ns0:Nat
 eh0:List (List b7)
structure z8 where
 is3:Int
noncomputable def fb2(p:Z6)(s:z8):St:=⟨.sl 0 0 p.ns0 0::.unk::.unk::i s.is3::ra 57 [],[⟨27,3,p.eh0,true,false,0⟩]⟩
noncomputable def S9{α:Type}(k:z8->α)(e:Nat->α)(z:α)(p:Z6)(s:z8):α:=let t1:=(lp (w8 (⟨p.ns0,0+s.is3.toNat,p.ns0-s.is3.toNat⟩:I9)) (⟨s.is3,1,p.eh0⟩:u7));(sl (decide (s.is3<(↑p.ns0:Int))) (sl (inB s.is3 p.ns0) (sl (ldR tV p.eh0 (0+s.is3.toNat)) (sl (inB (W (s.is3-1)) p.ns0) (sl (ldR tV p.eh0 (0+(W (s.is3-1)).toNat)) (sl (((rdR tV p.eh0 (0+s.is3.toNat)).x==(rdR tV p.eh0 (0+(W (s.is3-1)).toNat)).x)&&(((rdR tV p.eh0 (0+s.is3.toNat)).y==(rdR tV p.eh0 (0+(W (s.is3-1)).toNat)).y)&&(((rdR tV p.eh0 (0+s.is3.toNat)).z==(rdR tV p.eh0 (0+(W (s.is3-1)).toNat)).z)&&true))) (sl (inB s.is3 (p.ns0+1)) (sl (Nat.beq t1.1 1) (sl (inB t1.2.is3 (p.ns0+1)) (sl (inB t1.2.is3 (p.ns0+1)) (e 1) z) z) z) z) (k ⟨W (s.is3+1)⟩)) z) z) z) z) (e 2))
noncomputable def V9(p:Z6)(s:z8):Stp z8:=S9 .next .exit .fail p s
noncomputable def Ea3:Lo Z6 z8:=⟨En La0,1,sf0,[1,1,0,1,4,4],[0,3],.s .p (.s (.b (.s .p (.c (.s .p (.s (.s .p (.b (.u Ea2.ls))) .p)) .p))) .p),[⟨.s (.o (.sl 0 0 (some 0) none))::sUq::sUq::sIq::ru2 57 [],[⟨27,3,true,none⟩],λa H=>(⟨slN (slT a 0),elT H 0⟩,⟨aIq a 3⟩)⟩],V9,[(none,λp s=>let t1:=(lp (w8 (⟨p.ns0,0+s.is3.toNat,p.ns0-s.is3.toNat⟩:I9)) (⟨s.is3,1,p.eh0⟩:u7));⟨[.sl 0 0 (t1.2.is3.toNat-0) 0],[⟨27,3,app (M7 t1.2.eh0 (0+t1.2.is3.toNat)) (app (List.replicate (p.ns0-t1.2.is3.toNat) [i 0,i 0,i 0]) (j8 t1.2.eh0 ((0+t1.2.is3.toNat)+(p.ns0-t1.2.is3.toNat)))),true,false,0⟩]⟩),(some 0,λp s=>upq (fb2 p s) [(10,i s.is3),(11,.sl 0 0 p.ns0 0),(12,i (↑p.ns0:Int)),(13,b (decide (s.is3<(↑p.ns0:Int))))])],fb2⟩
theorem dc6:Ea3.Ok:=Lo.ok [Ea2.pr] (by kernel_rfl) (.cons dc5 .nil) rfl (.cons (λa H=>by kernel_rfl) .nil) λp s=>(.of @S9 (λF _ _ _ _ _=>by unfold S9;(repeat' apply j6 (f:=F))<;>rfl) (by kernel_rfl))
structure wa5 where
 (alt ns0:Nat)
 eh0:List (List b7)
noncomputable def W0{α:Type}(kk:wa5->α)(x:wa4):α:=let t1:=(lp (V9 (⟨x.ns0,x.eh0⟩:Z6)) (⟨1⟩:z8));let t2:=(lp (w8 (⟨x.ns0,0+t1.2.is3.toNat,x.ns0-t1.2.is3.toNat⟩:I9)) (⟨t1.2.is3,1,x.eh0⟩:u7));(sl (decide ((↑x.ns0:Int)<2)) (kk ⟨1,x.ns0,x.eh0⟩) (sl (Nat.beq t1.1 1) (kk ⟨1,t2.2.is3.toNat-0,app (M7 t2.2.eh0 (0+t2.2.is3.toNat)) (app (List.replicate (x.ns0-t2.2.is3.toNat) [i 0,i 0,i 0]) (j8 t2.2.eh0 ((0+t2.2.is3.toNat)+(x.ns0-t2.2.is3.toNat))))⟩) (sl (Nat.beq t1.1 2) (kk ⟨1,x.ns0,x.eh0⟩) (kk ⟨0,0,[]⟩))))
noncomputable def W4(x:wa4):wa5:=W0 (λr=>r) x
noncomputable def La1(x:wa4)(r:wa5):DT (b7×List b8):=(.ite (Nat.beq r.alt 1) (.ret (.sl 0 0 r.ns0 0,[⟨27,3,r.eh0,true,false,0⟩])) .fail)
theorem wc9{α β:Type}(F:α->β)(kk:wa5->α)(x:wa4):F (W0 kk x)=W0 (λr=>F (kk r)) x:=by unfold W0;(repeat' apply j6 (f:=F))<;>rfl
noncomputable def Qa6:Sum:=Ka5 ⟨[.s (.o (.sl 0 0 (some 0) none))],[⟨27,3,true,none⟩],λa H=>(⟨slN (slT a 0),elT H 0⟩,())⟩ (λx=>La1 x (W4 x))
theorem mb7:i5 prog G 148 Qa6:=B1 (enc:=λx=>⟨[.sl 0 0 x.ns0 0],[⟨27,3,x.eh0,true,false,0⟩]⟩) (λa H=>by kernel_rfl) (bd Fg5 lc2) λx=>za7 (.s .p (.s .p (.s (.s .p (.b (.u Ea3.ls))) .p))) [Ea3.pr] (by kernel_rfl) (.cons dc6 .nil) (Qid (b:=W0 (λr=>(La1 x r).run) x) (by kernel_rfl) (wc9 (λr=>(La1 x r).run) (λr=>r) x).symm)
noncomputable def fd9:List (Nat×Sum):=[(145,db4),(146,Ka9),(148,Qa6)]
theorem Wc0:i7 prog G fd9:=⟨Cb9,kb9,mb7,trivial⟩
noncomputable def Ha3(x:V3×List V3):Option (b7×List b8):=let t1:=(ra5 (hC tV (λk=>(tV).row (gL tV (x.1::x.2) k)),tC tV (List.length x.2) (λk=>(tV).row (gL tV (x.1::x.2) k))));let t2:=(W4 ⟨t1.ns0,app (bL tV (oc5 (slR tV t1.eh0 0 t1.ns0))) (j8 t1.eh0 t1.ns0)⟩);(sl (okL tV (List.length x.2+1) (λk=>(tV).row (gL tV (x.1::x.2) k))) (sl (Nat.beq t1.alt 1) (sl (Bool.and (Nat.ble t1.ns0 room) (Bool.and (Nat.ble t1.ns0 (len t1.eh0)) (okS tV t1.eh0 0 t1.ns0))) (sl (Nat.beq t2.alt 1) (some (.sl 0 0 t2.ns0 0,[⟨27,3,t2.eh0,true,false,0⟩])) none) none) none) none)
noncomputable def Bb1(x:V3×List V3):List V3:=E9 (one (r1L tV)) (Ha3 x)
noncomputable def Bb2(x:V3×List V3):Bool:=okO (one (r1L tV)) (Ha3 x)
noncomputable def oc6:Sum:=O9 (ve8 tV) (λx=>.guard (Bb2 x) (.ret ((one (r1L tV)).enc (Bb1 x),[])))
theorem gd0:i5 prog G 92 oc6:=ua7 (bd b92 Wc0) (one (r1L tV)) (o:=Ha3) λx=>o5 (by kernel_rfl)
noncomputable def sb6:List (Nat×Sum):=[(118,lc0),(92,oc6),(177,Ab7),(52,Vc4),(120,Hc8),(121,eb5),(119,Pa8)]
theorem Id4:i7 prog G sb6:=⟨Hc9,gd0,dc1,Ud1,Hd9,Xb4,bb0,trivial⟩
structure Z7 where
 (is3 is4 is9 v7 xa5 v8 qb5:Int)
 (c7 g7:List V3)
structure F7 where
 ph:Nat
 H8:Int
 eh4:List (List b7)
 A8:Nat
 eh5:List (List b7)
noncomputable def dc7(p:Z7)(s:F7):St:=⟨.unk::.ptr 0 0 0 0::.unk::i p.is3::i p.is4::ra 4 (i p.is9::i p.v7::ra 5 (i p.xa5::i p.v8::ra 5 (i p.qb5::i s.H8::ra 35 (i 0::.unk::.ptr 1 0 0 0::.v (.slice none 0 0)::i 0::.unk::.ptr 2 0 0 0::.ptr 3 0 0 0::ra 28 [])))),[⟨0,1,[[eL tV p.c7]],true,false,0⟩,⟨0,1,[[eL tV p.g7]],true,false,0⟩,⟨0,0,[[.ptr 4 0 0 0]],true,false,0⟩,⟨0,0,[[.v (.slice none 0 0)]],true,false,0⟩,⟨143,0,s.eh4,true,false,0⟩]⟩
noncomputable def dc8(p:Z7)(s:F7):St:=⟨.unk::.ptr 0 0 0 0::.unk::i p.is3::i p.is4::ra 4 (i p.is9::i p.v7::ra 5 (i p.xa5::i p.v8::ra 5 (i p.qb5::i s.H8::ra 35 (i 0::.unk::.ptr 1 0 0 0::.v (.slice none 0 0)::i 0::.unk::.ptr 2 0 0 0::.ptr 3 0 0 0::ra 28 [])))),[⟨0,1,[[eL tV p.c7]],true,false,0⟩,⟨0,1,[[eL tV p.g7]],true,false,0⟩,⟨0,0,[[.ptr 4 0 0 0]],true,false,0⟩,⟨0,0,[[.sl 5 0 s.A8 0]],true,false,0⟩,⟨143,0,s.eh4,true,false,0⟩,⟨73,4,s.eh5,true,false,0⟩]⟩
noncomputable def sd3(p:Z7)(s:F7):St:=(sel (Nat.beq s.ph 1) (dc8 p s) (dc7 p s))
noncomputable def da9{α:Type}(k:F7->α)(e:Nat->α)(z:α)(p:Z7)(s:F7):α:=let t1:=(O6 (gL tV p.c7 s.H8.toNat) (gL tV p.c7 p.is4.toNat) (gL tV p.c7 p.is3.toNat));let t2:=(Sa6 t1.1);let t3:=(pa4 (rt tV p.g7) t2);let t4:=(pa4 (rt tV p.g7) t1.1);(sl (decide (s.H8<p.qb5)) (sl (inB s.H8 (List.length p.c7)) (sl (inB p.is4 (List.length p.c7)) (sl (inB p.is3 (List.length p.c7)) (sl (ua0 (gL tV p.c7 s.H8.toNat) (gL tV p.c7 p.is4.toNat) (gL tV p.c7 p.is3.toNat)) (sl t1.2 (sl t1.2 (sl (La5 4 [(0,.int .i64),(1,.int .i64),(2,.int .i64),(3,.int .i64)] [i t1.1.n.x,i t1.1.n.y,i t1.1.n.z,i t1.1.b] s.eh4) (sl (La5 4 [(0,.int .i64),(1,.int .i64),(2,.int .i64),(3,.int .i64)] [i t2.n.x,i t2.n.y,i t2.n.z,i t2.b] s.eh4) (k ⟨0,W (s.H8+1),s.eh4,0,[]⟩) (sl (okE tV p.g7) (sl (O8 (rt tV p.g7) t2) (sl (!t3) (k ⟨1,W (s.H8+1),aa3 [(0,.int .i64),(1,.int .i64),(2,.int .i64),(3,.int .i64)] [i t2.n.x,i t2.n.y,i t2.n.z,i t2.b] [i t2.n.x,i t2.n.y,i t2.n.z,i t2.b,b true] s.eh4,1,[[i t2.n.x,i t2.n.y,i t2.n.z,i t2.b]]⟩) (k ⟨0,W (s.H8+1),aa3 [(0,.int .i64),(1,.int .i64),(2,.int .i64),(3,.int .i64)] [i t2.n.x,i t2.n.y,i t2.n.z,i t2.b] [i t2.n.x,i t2.n.y,i t2.n.z,i t2.b,b true] s.eh4,0,[]⟩)) z) z)) (sl (okE tV p.g7) (sl (O8 (rt tV p.g7) t1.1) (sl (!t4) (sl (La5 4 [(0,.int .i64),(1,.int .i64),(2,.int .i64),(3,.int .i64)] [i t2.n.x,i t2.n.y,i t2.n.z,i t2.b] (aa3 [(0,.int .i64),(1,.int .i64),(2,.int .i64),(3,.int .i64)] [i t1.1.n.x,i t1.1.n.y,i t1.1.n.z,i t1.1.b] [i t1.1.n.x,i t1.1.n.y,i t1.1.n.z,i t1.1.b,b true] s.eh4)) (k ⟨1,W (s.H8+1),aa3 [(0,.int .i64),(1,.int .i64),(2,.int .i64),(3,.int .i64)] [i t1.1.n.x,i t1.1.n.y,i t1.1.n.z,i t1.1.b] [i t1.1.n.x,i t1.1.n.y,i t1.1.n.z,i t1.1.b,b true] s.eh4,1,[[i t1.1.n.x,i t1.1.n.y,i t1.1.n.z,i t1.1.b]]⟩) (sl (okE tV p.g7) (sl (O8 (rt tV p.g7) t2) (sl (!t3) (k ⟨1,W (s.H8+1),aa3 [(0,.int .i64),(1,.int .i64),(2,.int .i64),(3,.int .i64)] [i t2.n.x,i t2.n.y,i t2.n.z,i t2.b] [i t2.n.x,i t2.n.y,i t2.n.z,i t2.b,b true] (aa3 [(0,.int .i64),(1,.int .i64),(2,.int .i64),(3,.int .i64)] [i t1.1.n.x,i t1.1.n.y,i t1.1.n.z,i t1.1.b] [i t1.1.n.x,i t1.1.n.y,i t1.1.n.z,i t1.1.b,b true] s.eh4),2,[[i t1.1.n.x,i t1.1.n.y,i t1.1.n.z,i t1.1.b],[i t2.n.x,i t2.n.y,i t2.n.z,i t2.b]]⟩) (k ⟨1,W (s.H8+1),aa3 [(0,.int .i64),(1,.int .i64),(2,.int .i64),(3,.int .i64)] [i t2.n.x,i t2.n.y,i t2.n.z,i t2.b] [i t2.n.x,i t2.n.y,i t2.n.z,i t2.b,b true] (aa3 [(0,.int .i64),(1,.int .i64),(2,.int .i64),(3,.int .i64)] [i t1.1.n.x,i t1.1.n.y,i t1.1.n.z,i t1.1.b] [i t1.1.n.x,i t1.1.n.y,i t1.1.n.z,i t1.1.b,b true] s.eh4),1,[[i t1.1.n.x,i t1.1.n.y,i t1.1.n.z,i t1.1.b]]⟩)) z) z)) (sl (La5 4 [(0,.int .i64),(1,.int .i64),(2,.int .i64),(3,.int .i64)] [i t2.n.x,i t2.n.y,i t2.n.z,i t2.b] (aa3 [(0,.int .i64),(1,.int .i64),(2,.int .i64),(3,.int .i64)] [i t1.1.n.x,i t1.1.n.y,i t1.1.n.z,i t1.1.b] [i t1.1.n.x,i t1.1.n.y,i t1.1.n.z,i t1.1.b,b true] s.eh4)) (k ⟨0,W (s.H8+1),aa3 [(0,.int .i64),(1,.int .i64),(2,.int .i64),(3,.int .i64)] [i t1.1.n.x,i t1.1.n.y,i t1.1.n.z,i t1.1.b] [i t1.1.n.x,i t1.1.n.y,i t1.1.n.z,i t1.1.b,b true] s.eh4,0,[]⟩) (sl (okE tV p.g7) (sl (O8 (rt tV p.g7) t2) (sl (!t3) (k ⟨1,W (s.H8+1),aa3 [(0,.int .i64),(1,.int .i64),(2,.int .i64),(3,.int .i64)] [i t2.n.x,i t2.n.y,i t2.n.z,i t2.b] [i t2.n.x,i t2.n.y,i t2.n.z,i t2.b,b true] (aa3 [(0,.int .i64),(1,.int .i64),(2,.int .i64),(3,.int .i64)] [i t1.1.n.x,i t1.1.n.y,i t1.1.n.z,i t1.1.b] [i t1.1.n.x,i t1.1.n.y,i t1.1.n.z,i t1.1.b,b true] s.eh4),1,[[i t2.n.x,i t2.n.y,i t2.n.z,i t2.b]]⟩) (k ⟨0,W (s.H8+1),aa3 [(0,.int .i64),(1,.int .i64),(2,.int .i64),(3,.int .i64)] [i t2.n.x,i t2.n.y,i t2.n.z,i t2.b] [i t2.n.x,i t2.n.y,i t2.n.z,i t2.b,b true] (aa3 [(0,.int .i64),(1,.int .i64),(2,.int .i64),(3,.int .i64)] [i t1.1.n.x,i t1.1.n.y,i t1.1.n.z,i t1.1.b] [i t1.1.n.x,i t1.1.n.y,i t1.1.n.z,i t1.1.b,b true] s.eh4),0,[]⟩)) z) z))) z) z)) (k ⟨0,W (s.H8+1),s.eh4,0,[]⟩)) (sl t1.2 z (k ⟨0,W (s.H8+1),s.eh4,0,[]⟩))) z) z) z) z) (e 1))
noncomputable def ea0{α:Type}(k:F7->α)(e:Nat->α)(z:α)(p:Z7)(s:F7):α:=let t1:=(O6 (gL tV p.c7 s.H8.toNat) (gL tV p.c7 p.is4.toNat) (gL tV p.c7 p.is3.toNat));let t2:=(Sa6 t1.1);let t3:=(pa4 (rt tV p.g7) t2);let t4:=(pa4 (rt tV p.g7) t1.1);let a0:=(Nat.beq s.A8 (len s.eh5)&&Nat.ble ((s.A8+1)*32) room);(sl (decide (s.H8<p.qb5)) (sl (inB s.H8 (List.length p.c7)) (sl (inB p.is4 (List.length p.c7)) (sl (inB p.is3 (List.length p.c7)) (sl (ua0 (gL tV p.c7 s.H8.toNat) (gL tV p.c7 p.is4.toNat) (gL tV p.c7 p.is3.toNat)) (sl t1.2 (sl t1.2 (sl (La5 4 [(0,.int .i64),(1,.int .i64),(2,.int .i64),(3,.int .i64)] [i t1.1.n.x,i t1.1.n.y,i t1.1.n.z,i t1.1.b] s.eh4) (sl (La5 4 [(0,.int .i64),(1,.int .i64),(2,.int .i64),(3,.int .i64)] [i t2.n.x,i t2.n.y,i t2.n.z,i t2.b] s.eh4) (k ⟨1,W (s.H8+1),s.eh4,s.A8,s.eh5⟩) (sl (okE tV p.g7) (sl (O8 (rt tV p.g7) t2) (sl (!t3) (sl a0 (k ⟨1,W (s.H8+1),aa3 [(0,.int .i64),(1,.int .i64),(2,.int .i64),(3,.int .i64)] [i t2.n.x,i t2.n.y,i t2.n.z,i t2.b] [i t2.n.x,i t2.n.y,i t2.n.z,i t2.b,b true] s.eh4,s.A8+1,app s.eh5 [[i t2.n.x,i t2.n.y,i t2.n.z,i t2.b]]⟩) z) (k ⟨1,W (s.H8+1),aa3 [(0,.int .i64),(1,.int .i64),(2,.int .i64),(3,.int .i64)] [i t2.n.x,i t2.n.y,i t2.n.z,i t2.b] [i t2.n.x,i t2.n.y,i t2.n.z,i t2.b,b true] s.eh4,s.A8,s.eh5⟩)) z) z)) (sl (okE tV p.g7) (sl (O8 (rt tV p.g7) t1.1) (sl (!t4) (sl a0 (sl (La5 4 [(0,.int .i64),(1,.int .i64),(2,.int .i64),(3,.int .i64)] [i t2.n.x,i t2.n.y,i t2.n.z,i t2.b] (aa3 [(0,.int .i64),(1,.int .i64),(2,.int .i64),(3,.int .i64)] [i t1.1.n.x,i t1.1.n.y,i t1.1.n.z,i t1.1.b] [i t1.1.n.x,i t1.1.n.y,i t1.1.n.z,i t1.1.b,b true] s.eh4)) (k ⟨1,W (s.H8+1),aa3 [(0,.int .i64),(1,.int .i64),(2,.int .i64),(3,.int .i64)] [i t1.1.n.x,i t1.1.n.y,i t1.1.n.z,i t1.1.b] [i t1.1.n.x,i t1.1.n.y,i t1.1.n.z,i t1.1.b,b true] s.eh4,s.A8+1,app s.eh5 [[i t1.1.n.x,i t1.1.n.y,i t1.1.n.z,i t1.1.b]]⟩) (sl (okE tV p.g7) (sl (O8 (rt tV p.g7) t2) (sl (!t3) (sl (Nat.beq (s.A8+1) (len (app s.eh5 [[i t1.1.n.x,i t1.1.n.y,i t1.1.n.z,i t1.1.b]]))&&Nat.ble (((s.A8+1)+1)*32) room) (k ⟨1,W (s.H8+1),aa3 [(0,.int .i64),(1,.int .i64),(2,.int .i64),(3,.int .i64)] [i t2.n.x,i t2.n.y,i t2.n.z,i t2.b] [i t2.n.x,i t2.n.y,i t2.n.z,i t2.b,b true] (aa3 [(0,.int .i64),(1,.int .i64),(2,.int .i64),(3,.int .i64)] [i t1.1.n.x,i t1.1.n.y,i t1.1.n.z,i t1.1.b] [i t1.1.n.x,i t1.1.n.y,i t1.1.n.z,i t1.1.b,b true] s.eh4),(s.A8+1)+1,app (app s.eh5 [[i t1.1.n.x,i t1.1.n.y,i t1.1.n.z,i t1.1.b]]) [[i t2.n.x,i t2.n.y,i t2.n.z,i t2.b]]⟩) z) (k ⟨1,W (s.H8+1),aa3 [(0,.int .i64),(1,.int .i64),(2,.int .i64),(3,.int .i64)] [i t2.n.x,i t2.n.y,i t2.n.z,i t2.b] [i t2.n.x,i t2.n.y,i t2.n.z,i t2.b,b true] (aa3 [(0,.int .i64),(1,.int .i64),(2,.int .i64),(3,.int .i64)] [i t1.1.n.x,i t1.1.n.y,i t1.1.n.z,i t1.1.b] [i t1.1.n.x,i t1.1.n.y,i t1.1.n.z,i t1.1.b,b true] s.eh4),s.A8+1,app s.eh5 [[i t1.1.n.x,i t1.1.n.y,i t1.1.n.z,i t1.1.b]]⟩)) z) z)) z) (sl (La5 4 [(0,.int .i64),(1,.int .i64),(2,.int .i64),(3,.int .i64)] [i t2.n.x,i t2.n.y,i t2.n.z,i t2.b] (aa3 [(0,.int .i64),(1,.int .i64),(2,.int .i64),(3,.int .i64)] [i t1.1.n.x,i t1.1.n.y,i t1.1.n.z,i t1.1.b] [i t1.1.n.x,i t1.1.n.y,i t1.1.n.z,i t1.1.b,b true] s.eh4)) (k ⟨1,W (s.H8+1),aa3 [(0,.int .i64),(1,.int .i64),(2,.int .i64),(3,.int .i64)] [i t1.1.n.x,i t1.1.n.y,i t1.1.n.z,i t1.1.b] [i t1.1.n.x,i t1.1.n.y,i t1.1.n.z,i t1.1.b,b true] s.eh4,s.A8,s.eh5⟩) (sl (okE tV p.g7) (sl (O8 (rt tV p.g7) t2) (sl (!t3) (sl a0 (k ⟨1,W (s.H8+1),aa3 [(0,.int .i64),(1,.int .i64),(2,.int .i64),(3,.int .i64)] [i t2.n.x,i t2.n.y,i t2.n.z,i t2.b] [i t2.n.x,i t2.n.y,i t2.n.z,i t2.b,b true] (aa3 [(0,.int .i64),(1,.int .i64),(2,.int .i64),(3,.int .i64)] [i t1.1.n.x,i t1.1.n.y,i t1.1.n.z,i t1.1.b] [i t1.1.n.x,i t1.1.n.y,i t1.1.n.z,i t1.1.b,b true] s.eh4),s.A8+1,app s.eh5 [[i t2.n.x,i t2.n.y,i t2.n.z,i t2.b]]⟩) z) (k ⟨1,W (s.H8+1),aa3 [(0,.int .i64),(1,.int .i64),(2,.int .i64),(3,.int .i64)] [i t2.n.x,i t2.n.y,i t2.n.z,i t2.b] [i t2.n.x,i t2.n.y,i t2.n.z,i t2.b,b true] (aa3 [(0,.int .i64),(1,.int .i64),(2,.int .i64),(3,.int .i64)] [i t1.1.n.x,i t1.1.n.y,i t1.1.n.z,i t1.1.b] [i t1.1.n.x,i t1.1.n.y,i t1.1.n.z,i t1.1.b,b true] s.eh4),s.A8,s.eh5⟩)) z) z))) z) z)) (k ⟨1,W (s.H8+1),s.eh4,s.A8,s.eh5⟩)) (sl t1.2 z (k ⟨1,W (s.H8+1),s.eh4,s.A8,s.eh5⟩))) z) z) z) z) (e 2))
noncomputable def aa7(p:Z7)(s:F7):Stp F7:=(sel (Nat.beq s.ph 1) (ea0 .next .exit .fail p s) (da9 .next .exit .fail p s))
noncomputable def Nb7:Lo Z7 F7:=⟨En sb6,0,Lf5,[1,1,1,1,1,0,1,4,4,1,4,4,1,1,0,4,1,1,4,4,1,1,0,4,1,1,4,4],[1,3,4,9,10,16,17,23,24,60,62,63,64,66,67],.p,[⟨sUq::sPq 0::sUq::sIq::sIq::ru2 4 (sIq::sIq::ru2 5 (sIq::sIq::ru2 5 (sIq::sIq::ru2 35 (.s (.o (.lit .i64 0))::sUq::sPq 1::.s (.o .nil)::.s (.o (.lit .i64 0))::sUq::sPq 2::sPq 3::ru2 28 [])))),[⟨0,1,true,some [[.c 3 (nL tV)]]⟩,⟨0,1,true,some [[.c 3 (nL tV)]]⟩,⟨0,0,true,some [[.o (.ptr 4 0 0 0)]]⟩,⟨0,0,true,some [[.o .nil]]⟩,⟨143,0,true,none⟩],λa H=>(⟨aIq a 3,aIq a 4,aIq a 9,aIq a 10,aIq a 16,aIq a 17,aIq a 23,hLq tV H 0 0 0,hLq tV H 1 0 0⟩,⟨0,aIq a 24,elT H 4,0,[]⟩)⟩,⟨sUq::sPq 0::sUq::sIq::sIq::ru2 4 (sIq::sIq::ru2 5 (sIq::sIq::ru2 5 (sIq::sIq::ru2 35 (.s (.o (.lit .i64 0))::sUq::sPq 1::.s (.o .nil)::.s (.o (.lit .i64 0))::sUq::sPq 2::sPq 3::ru2 28 [])))),[⟨0,1,true,some [[.c 3 (nL tV)]]⟩,⟨0,1,true,some [[.c 3 (nL tV)]]⟩,⟨0,0,true,some [[.o (.ptr 4 0 0 0)]]⟩,⟨0,0,true,some [[.o (.sl 5 0 (some 0) none)]]⟩,⟨143,0,true,none⟩,⟨73,4,true,none⟩],λa H=>(⟨aIq a 3,aIq a 4,aIq a 9,aIq a 10,aIq a 16,aIq a 17,aIq a 23,hLq tV H 0 0 0,hLq tV H 1 0 0⟩,⟨1,aIq a 24,elT H 4,slN (slT (rwT (elT H 3) 0) 0),elT H 5⟩)⟩],aa7,[(some 4,λp s=>upq (dc7 p s) [(25,b (decide (s.H8<p.qb5)))]),(some 4,λp s=>upq (dc8 p s) [(25,b (decide (s.H8<p.qb5)))])],sd3⟩
theorem sd4:Nb7.OkM:=Lo.okM [] (by kernel_rfl) .nil rfl (.cons (λa H=>by kernel_rfl) (.cons (λa H=>by kernel_rfl) .nil)) λp s=>(.sel (Nat.beq s.ph 1) (.of @ea0 (λF _ _ _ _ _=>by unfold ea0;(repeat' apply j6 (f:=F))<;>rfl) (by kernel_rfl)) (.of @da9 (λF _ _ _ _ _=>by unfold da9;(repeat' apply j6 (f:=F))<;>rfl) (by kernel_rfl)))
structure Z8 where
 (is3 is9 v7 xa5:Int)
structure D6 where
 ph:Nat
 v8:Int
 (c7 g7:List V3)
 eh4:List (List b7)
 A8:Nat
 eh5:List (List b7)
noncomputable def dc9(p:Z8)(s:D6):St:=⟨.unk::.ptr 0 0 0 0::.unk::i p.is3::ra 5 (i p.is9::i p.v7::ra 5 (i p.xa5::i s.v8::ra 42 (i 0::.unk::.ptr 1 0 0 0::.v (.slice none 0 0)::i 0::.unk::.ptr 2 0 0 0::.ptr 3 0 0 0::ra 28 []))),[⟨0,1,[[eL tV s.c7]],true,false,0⟩,⟨0,1,[[eL tV s.g7]],true,false,0⟩,⟨0,0,[[.ptr 4 0 0 0]],true,false,0⟩,⟨0,0,[[.v (.slice none 0 0)]],true,false,0⟩,⟨143,0,s.eh4,true,false,0⟩]⟩
noncomputable def ec0(p:Z8)(s:D6):St:=⟨.unk::.ptr 0 0 0 0::.unk::i p.is3::ra 5 (i p.is9::i p.v7::ra 5 (i p.xa5::i s.v8::ra 42 (i 0::.unk::.ptr 1 0 0 0::.v (.slice none 0 0)::i 0::.unk::.ptr 2 0 0 0::.ptr 3 0 0 0::ra 28 []))),[⟨0,1,[[eL tV s.c7]],true,false,0⟩,⟨0,1,[[eL tV s.g7]],true,false,0⟩,⟨0,0,[[.ptr 4 0 0 0]],true,false,0⟩,⟨0,0,[[.sl 5 0 s.A8 0]],true,false,0⟩,⟨143,0,s.eh4,true,false,0⟩,⟨73,4,s.eh5,true,false,0⟩]⟩
noncomputable def sd5(p:Z8)(s:D6):St:=(sel (Nat.beq s.ph 1) (ec0 p s) (dc9 p s))
noncomputable def ea1{α:Type}(k:D6->α)(e:Nat->α)(z:α)(p:Z8)(s:D6):α:=let t1:=(lp (aa7 (⟨p.is3,s.v8,p.is9,p.v7,p.xa5,s.v8,(↑(s.v8.toNat-0):Int),rt tV s.c7,rt tV s.g7⟩:Z7)) (⟨0,0,s.eh4,0,[]⟩:F7));(sl (decide (s.v8<p.xa5)) (sl (inB s.v8 ((List.length s.c7)+1)) (sl ((cnE tV s.c7)&&((cnE tV s.g7)&&true)) (sl (Nat.beq t1.1 1) (k ⟨0,W (s.v8+1),rt tV s.c7,rt tV s.g7,t1.2.eh4,0,[]⟩) (sl (Nat.beq t1.1 2) (k ⟨1,W (s.v8+1),rt tV s.c7,rt tV s.g7,t1.2.eh4,t1.2.A8,t1.2.eh5⟩) z)) z) z) (e 1))
noncomputable def ea2{α:Type}(k:D6->α)(e:Nat->α)(z:α)(p:Z8)(s:D6):α:=let t1:=(lp (aa7 (⟨p.is3,s.v8,p.is9,p.v7,p.xa5,s.v8,(↑(s.v8.toNat-0):Int),rt tV s.c7,rt tV s.g7⟩:Z7)) (⟨1,0,s.eh4,s.A8,s.eh5⟩:F7));(sl (decide (s.v8<p.xa5)) (sl (inB s.v8 ((List.length s.c7)+1)) (sl ((cnE tV s.c7)&&((cnE tV s.g7)&&true)) (sl (Nat.beq t1.1 1) (k ⟨0,W (s.v8+1),rt tV s.c7,rt tV s.g7,t1.2.eh4,0,[]⟩) (sl (Nat.beq t1.1 2) (k ⟨1,W (s.v8+1),rt tV s.c7,rt tV s.g7,t1.2.eh4,t1.2.A8,t1.2.eh5⟩) z)) z) z) (e 2))
noncomputable def la9(p:Z8)(s:D6):Stp D6:=(sel (Nat.beq s.ph 1) (ea2 .next .exit .fail p s) (ea1 .next .exit .fail p s))
noncomputable def Nb8:Lo Z8 D6:=⟨En sb6,0,Lf5,[1,1,1,1,1,0,1,4,4,1,4,4,1,1,0,4,1,1,4,4],[1,3,9,10,16,17,60,62,63,64,66,67],.s .p (.s .p (.s (.b (.s .p (.s .p (.b (.u Nb7.lsM))))) .p)),[⟨sUq::sPq 0::sUq::sIq::ru2 5 (sIq::sIq::ru2 5 (sIq::sIq::ru2 42 (.s (.o (.lit .i64 0))::sUq::sPq 1::.s (.o .nil)::.s (.o (.lit .i64 0))::sUq::sPq 2::sPq 3::ru2 28 []))),[⟨0,1,true,some [[.c 3 (nL tV)]]⟩,⟨0,1,true,some [[.c 3 (nL tV)]]⟩,⟨0,0,true,some [[.o (.ptr 4 0 0 0)]]⟩,⟨0,0,true,some [[.o .nil]]⟩,⟨143,0,true,none⟩],λa H=>(⟨aIq a 3,aIq a 9,aIq a 10,aIq a 16⟩,⟨0,aIq a 17,hLq tV H 0 0 0,hLq tV H 1 0 0,elT H 4,0,[]⟩)⟩,⟨sUq::sPq 0::sUq::sIq::ru2 5 (sIq::sIq::ru2 5 (sIq::sIq::ru2 42 (.s (.o (.lit .i64 0))::sUq::sPq 1::.s (.o .nil)::.s (.o (.lit .i64 0))::sUq::sPq 2::sPq 3::ru2 28 []))),[⟨0,1,true,some [[.c 3 (nL tV)]]⟩,⟨0,1,true,some [[.c 3 (nL tV)]]⟩,⟨0,0,true,some [[.o (.ptr 4 0 0 0)]]⟩,⟨0,0,true,some [[.o (.sl 5 0 (some 0) none)]]⟩,⟨143,0,true,none⟩,⟨73,4,true,none⟩],λa H=>(⟨aIq a 3,aIq a 9,aIq a 10,aIq a 16⟩,⟨1,aIq a 17,hLq tV H 0 0 0,hLq tV H 1 0 0,elT H 4,slN (slT (rwT (elT H 3) 0) 0),elT H 5⟩)⟩],la9,[(some 2,λp s=>upq (dc9 p s) [(18,b (decide (s.v8<p.xa5)))]),(some 2,λp s=>upq (ec0 p s) [(18,b (decide (s.v8<p.xa5)))])],sd5⟩
theorem sd6:Nb8.OkM:=Lo.okM [Nb7.prM] (by kernel_rfl) (.cons sd4 .nil) rfl (.cons (λa H=>by kernel_rfl) (.cons (λa H=>by kernel_rfl) .nil)) λp s=>(.sel (Nat.beq s.ph 1) (.of @ea2 (λF _ _ _ _ _=>by unfold ea2;(repeat' apply j6 (f:=F))<;>rfl) (by kernel_rfl)) (.of @ea1 (λF _ _ _ _ _=>by unfold ea1;(repeat' apply j6 (f:=F))<;>rfl) (by kernel_rfl)))
structure ha6 where
 is9:Int
structure F8 where
 ph:Nat
 v7:Int
 (c7 g7:List V3)
 eh4:List (List b7)
 A8:Nat
 eh5:List (List b7)
noncomputable def ec1(p:ha6)(s:F8):St:=⟨.unk::.ptr 0 0 0 0::ra 7 (i p.is9::i s.v7::ra 49 (i 0::.unk::.ptr 1 0 0 0::.v (.slice none 0 0)::i 0::.unk::.ptr 2 0 0 0::.ptr 3 0 0 0::ra 28 [])),[⟨0,1,[[eL tV s.c7]],true,false,0⟩,⟨0,1,[[eL tV s.g7]],true,false,0⟩,⟨0,0,[[.ptr 4 0 0 0]],true,false,0⟩,⟨0,0,[[.v (.slice none 0 0)]],true,false,0⟩,⟨143,0,s.eh4,true,false,0⟩]⟩
noncomputable def ec2(p:ha6)(s:F8):St:=⟨.unk::.ptr 0 0 0 0::ra 7 (i p.is9::i s.v7::ra 49 (i 0::.unk::.ptr 1 0 0 0::.v (.slice none 0 0)::i 0::.unk::.ptr 2 0 0 0::.ptr 3 0 0 0::ra 28 [])),[⟨0,1,[[eL tV s.c7]],true,false,0⟩,⟨0,1,[[eL tV s.g7]],true,false,0⟩,⟨0,0,[[.ptr 4 0 0 0]],true,false,0⟩,⟨0,0,[[.sl 5 0 s.A8 0]],true,false,0⟩,⟨143,0,s.eh4,true,false,0⟩,⟨73,4,s.eh5,true,false,0⟩]⟩
noncomputable def sd7(p:ha6)(s:F8):St:=(sel (Nat.beq s.ph 1) (ec2 p s) (ec1 p s))
noncomputable def ea3{α:Type}(k:F8->α)(e:Nat->α)(z:α)(p:ha6)(s:F8):α:=let t1:=(lp (la9 (⟨s.v7,p.is9,s.v7,(↑(s.v7.toNat-0):Int)⟩:Z8)) (⟨0,0,rt tV s.c7,rt tV s.g7,s.eh4,0,[]⟩:D6));(sl (decide (s.v7<p.is9)) (sl (inB s.v7 ((List.length s.c7)+1)) (sl ((cnE tV s.c7)&&((cnE tV s.g7)&&true)) (sl (Nat.beq t1.1 1) (k ⟨0,W (s.v7+1),t1.2.c7,t1.2.g7,t1.2.eh4,0,[]⟩) (sl (Nat.beq t1.1 2) (k ⟨1,W (s.v7+1),t1.2.c7,t1.2.g7,t1.2.eh4,t1.2.A8,t1.2.eh5⟩) z)) z) z) (e 1))
noncomputable def ea4{α:Type}(k:F8->α)(e:Nat->α)(z:α)(p:ha6)(s:F8):α:=let t1:=(lp (la9 (⟨s.v7,p.is9,s.v7,(↑(s.v7.toNat-0):Int)⟩:Z8)) (⟨1,0,rt tV s.c7,rt tV s.g7,s.eh4,s.A8,s.eh5⟩:D6));(sl (decide (s.v7<p.is9)) (sl (inB s.v7 ((List.length s.c7)+1)) (sl ((cnE tV s.c7)&&((cnE tV s.g7)&&true)) (sl (Nat.beq t1.1 1) (k ⟨0,W (s.v7+1),t1.2.c7,t1.2.g7,t1.2.eh4,0,[]⟩) (sl (Nat.beq t1.1 2) (k ⟨1,W (s.v7+1),t1.2.c7,t1.2.g7,t1.2.eh4,t1.2.A8,t1.2.eh5⟩) z)) z) z) (e 2))
noncomputable def bb5(p:ha6)(s:F8):Stp F8:=(sel (Nat.beq s.ph 1) (ea4 .next .exit .fail p s) (ea3 .next .exit .fail p s))
noncomputable def Nb9:Lo ha6 F8:=⟨En sb6,0,Lf5,[1,1,1,1,1,0,1,4,4,1,4,4],[1,9,10,60,62,63,64,66,67],.s .p (.s .p (.s (.b (.s .p (.s .p (.b (.u Nb8.lsM))))) .p)),[⟨sUq::sPq 0::ru2 7 (sIq::sIq::ru2 49 (.s (.o (.lit .i64 0))::sUq::sPq 1::.s (.o .nil)::.s (.o (.lit .i64 0))::sUq::sPq 2::sPq 3::ru2 28 [])),[⟨0,1,true,some [[.c 3 (nL tV)]]⟩,⟨0,1,true,some [[.c 3 (nL tV)]]⟩,⟨0,0,true,some [[.o (.ptr 4 0 0 0)]]⟩,⟨0,0,true,some [[.o .nil]]⟩,⟨143,0,true,none⟩],λa H=>(⟨aIq a 9⟩,⟨0,aIq a 10,hLq tV H 0 0 0,hLq tV H 1 0 0,elT H 4,0,[]⟩)⟩,⟨sUq::sPq 0::ru2 7 (sIq::sIq::ru2 49 (.s (.o (.lit .i64 0))::sUq::sPq 1::.s (.o .nil)::.s (.o (.lit .i64 0))::sUq::sPq 2::sPq 3::ru2 28 [])),[⟨0,1,true,some [[.c 3 (nL tV)]]⟩,⟨0,1,true,some [[.c 3 (nL tV)]]⟩,⟨0,0,true,some [[.o (.ptr 4 0 0 0)]]⟩,⟨0,0,true,some [[.o (.sl 5 0 (some 0) none)]]⟩,⟨143,0,true,none⟩,⟨73,4,true,none⟩],λa H=>(⟨aIq a 9⟩,⟨1,aIq a 10,hLq tV H 0 0 0,hLq tV H 1 0 0,elT H 4,slN (slT (rwT (elT H 3) 0) 0),elT H 5⟩)⟩],bb5,[(some 0,λp s=>upq (ec1 p s) [(11,b (decide (s.v7<p.is9)))]),(some 0,λp s=>upq (ec2 p s) [(11,b (decide (s.v7<p.is9)))])],sd7⟩
theorem sd8:Nb9.OkM:=Lo.okM [Nb8.prM] (by kernel_rfl) (.cons sd6 .nil) rfl (.cons (λa H=>by kernel_rfl) (.cons (λa H=>by kernel_rfl) .nil)) λp s=>(.sel (Nat.beq s.ph 1) (.of @ea4 (λF _ _ _ _ _=>by unfold ea4;(repeat' apply j6 (f:=F))<;>rfl) (by kernel_rfl)) (.of @ea3 (λF _ _ _ _ _=>by unfold ea3;(repeat' apply j6 (f:=F))<;>rfl) (by kernel_rfl)))
noncomputable def Ea4(x:V3×List V3):Option (b7×List b8):=let t1:=(kb3 (rt tV (x.1::x.2)));let t2:=(Bb1 (hC tV (λk=>(tV).row (gL tV (x.1::x.2) k)),tC tV (List.length x.2) (λk=>(tV).row (gL tV (x.1::x.2) k))));let t3:=(lp (bb5 (⟨(↑(List.length t2):Int)⟩:ha6)) (⟨0,0,rt tV t2,rt tV t2,[],0,[]⟩:F8));(sl (okE tV (x.1::x.2)) (sl (kb4 (rt tV (x.1::x.2))) (sl (t1 != 0) (some (.tup [.v (.slice none 0 0),i t1],[])) (sl (okL tV (List.length x.2+1) (λk=>(tV).row (gL tV (x.1::x.2) k))) (sl (Bb2 (hC tV (λk=>(tV).row (gL tV (x.1::x.2) k)),tC tV (List.length x.2) (λk=>(tV).row (gL tV (x.1::x.2) k)))) (sl ((cnE tV t2)&&((cnE tV t2)&&true)) (sl (Nat.beq t3.1 1) none (sl (Nat.beq t3.1 2) (sl (Bool.and (Nat.ble t3.2.A8 room) (Bool.and (Nat.ble t3.2.A8 (len t3.2.eh5)) (okS tP t3.2.eh5 0 t3.2.A8))) (some (.tup [.sl 0 0 t3.2.A8 0,i 0],[⟨73,4,app (bL tP (Hc0 (slR tP t3.2.eh5 0 t3.2.A8))) (j8 t3.2.eh5 t3.2.A8),true,false,0⟩])) none) none)) none) none) none)) none) none)
noncomputable def lc3(x:V3×List V3):List Pln×Int:=E9 (two (r1L tP) r1I) (Ea4 x)
noncomputable def lc4(x:V3×List V3):Bool:=okO (two (r1L tP) r1I) (Ea4 x)
noncomputable def Wc1:Sum:=O9 (ve8 tV) (λx=>.guard (lc4 x) (.ret ((two (r1L tP) r1I).enc (lc3 x),[])))
theorem Ud9:i5 prog G 64 Wc1:=ua7 (bd b64 Id4) (two (r1L tP) r1I) (o:=Ea4) λx=>Cd6 (.s .p (.s .p (.s .p (.s .p (.s .p (.s (.s .p (.b (.i (.s .p (.b (.u Nb9.lsM)))))) .p)))))) [Nb9.prM] (by kernel_rfl) (.cons sd8 .nil) (by kernel_rfl)
end Go.Ev.Ce
