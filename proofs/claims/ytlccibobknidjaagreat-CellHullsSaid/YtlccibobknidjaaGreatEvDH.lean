/- Own work: a part of the proof. -/
import Derived.Test.YtlccibobknidjaaGreatEvDS
import Derived.Test.YtlccibobknidjaaGreatEvSp3
import Derived.Test.YtlccibobknidjaaGreatEvE2
set_option linter.unusedVariables false
set_option linter.unusedSimpArgs false
set_option linter.unnecessarySimpa false
set_option linter.unusedSectionVars false
section
namespace Go.Ev.Ce
open Go Go.Ev Go.Ev.L Go.Proofs
set_option maxRecDepth 100000
noncomputable def dc9:List (Nat×Sum):=[]
theorem Zb5:i4 prog G dc9:=trivial
structure ya8 where
 alt:Nat
 ns0:Nat
 eh0:List (List b7)
noncomputable def W4 {α:Type} (kk:ya8→α) (x:Pln×List Pln):α:=(sl (Nat.beq (len (w8 (fun k=>(tP).row (gL tP (x.1::x.2) k)) (List.range (List.length x.2+1)))) 0) (kk ⟨1,0,[]⟩) (sl (Nat.beq 0 0&&Nat.ble ((0+(len (w8 (fun k=>(tP).row (gL tP (x.1::x.2) k)) (List.range (List.length x.2+1)))))*32) room) (kk ⟨1,(0+(len (w8 (fun k=>(tP).row (gL tP (x.1::x.2) k)) (List.range (List.length x.2+1))))),(app [] (w8 (fun k=>(tP).row (gL tP (x.1::x.2) k)) (List.range (List.length x.2+1))))⟩) (kk ⟨0,0,[]⟩)))
noncomputable def ya9 (x:Pln×List Pln):ya8:=W4 (fun r=>r) x
noncomputable def Ka6 (r:ya8):DT (b7×List b8):=(.ite (Nat.beq r.alt 1) (.ret ((.sl 0 0 r.ns0 0),[⟨50,4,r.eh0,true,false,0⟩])) .fail)
theorem lc5 {α β:Type} (F:α→β) (kk:ya8→α) (x:Pln×List Pln):F (W4 kk x)=W4 (fun r=>F (kk r)) x:=by unfold W4;(repeat' apply j5 (f:=F))<;>rfl
noncomputable def ob9:Sum:=S5 (qd1 tP) (fun x=>Ka6 (ya9 x))
theorem ec0:g8 prog G 100 ob9:=lb0 (bd kf8 Zb5) fun x=>q8 (Eq.trans (b:=W4 (fun r=>(Ka6 r).run) x) (by kernel_rfl) (lc5 (fun r=>(Ka6 r).run) (fun r=>r) x).symm)
noncomputable def Jd3:List (Nat×Sum):=[(20,Fa0),(18,qa8),(100,ob9),(99,va7),(103,ia9),(105,Fa9)]
theorem ud0:i4 prog G Jd3:=⟨Fa6,ta2,ec0,Na7,Aa4,Za3,trivial⟩
noncomputable def pb0 (x:Pln×List Pln):Option (b7×List b8):=let t1:=(ga9 (rt tP (x.1::x.2)));let t2:=(T0 (rt tP (x.1::x.2)));let t3:=(ya9 (hC tP (fun k=>(tP).row (gL tP (x.1::x.2) k)),tC tP (List.length x.2) (fun k=>(tP).row (gL tP (x.1::x.2) k))));let t4:=(I6 ⟨t3.ns0,t3.eh0,(rt tX t2)⟩);let t5:=(Y5 ⟨t4.ns0,(app (bL tP (Ra8 (slR tP t4.eh0 0 t4.ns0))) (g9 t4.eh0 t4.ns0))⟩);(sl (okE tP (x.1::x.2)) (sl (ha0 (rt tP (x.1::x.2))) (sl (!t1) (some ((.v (.slice none 0 0)),[])) (sl (okE tP (x.1::x.2)) (sl (T1 (rt tP (x.1::x.2))) (sl (okL tP (List.length x.2+1) (fun k=>(tP).row (gL tP (x.1::x.2) k))) (sl (Nat.beq t3.alt 1) (sl ((cnE tX t2)&&true) (sl (Nat.beq t4.alt 1) (sl (Bool.and (Nat.ble t4.ns0 room) (Bool.and (Nat.ble t4.ns0 (len t4.eh0)) (okS tP t4.eh0 0 t4.ns0))) (sl (Nat.beq t5.alt 1) (some ((.sl 0 0 t5.ns0 0),[⟨50,4,t5.eh0,true,false,0⟩])) none) none) none) none) none) none) none) none)) none) none)
noncomputable def lc6 (x:Pln×List Pln):List Pln:=aa3 (one (r1L tP)) (pb0 x)
noncomputable def lc7 (x:Pln×List Pln):Bool:=okO (one (r1L tP)) (pb0 x)
noncomputable def Tc5:Sum:=S5 (qd1 tP) (fun x=>.guard (lc7 x) (.ret ((one (r1L tP)).enc (lc6 x),[])))
theorem Gc5:g8 prog G 25 Tc5:=Pa9 (bd b25 ud0) (one (r1L tP)) (o:=pb0) fun x=>q8 (by kernel_rfl)
noncomputable def Xc3:List (Nat×Sum):=[(81,Gc2),(18,qa8),(17,Sb7),(25,Tc5),(26,yc4),(20,Fa0),(28,yc5),(22,Ec5),(31,Gc0),(33,uc7),(15,Xb8)]
theorem Oc0:i4 prog G Xc3:=⟨td9,ta2,Fc2,Gc5,Tc3,Fa6,Tc4,sd1,td7,ld0,uc2,trivial⟩
noncomputable def Na9  : Option (b7×List b8):=let t1:=Zb3;let t2:=(T0 [(⟨(⟨1,0,0⟩:V3),t1.d9⟩:Pln),(⟨(⟨(-1),0,0⟩:V3),t1.X2⟩:Pln),(⟨(⟨0,1,0⟩:V3),t1.X3⟩:Pln),(⟨(⟨0,(-1),0⟩:V3),t1.X4⟩:Pln),(⟨(⟨0,0,1⟩:V3),t1.X5⟩:Pln),(⟨(⟨0,0,(-1)⟩:V3),t1.X6⟩:Pln)]);let t3:=(T0 [(⟨(⟨(-1),0,0⟩:V3),0⟩:Pln),(⟨(⟨0,(-1),0⟩:V3),0⟩:Pln),(⟨(⟨0,0,(-1)⟩:V3),0⟩:Pln),(⟨(⟨2,3,4⟩:V3),1⟩:Pln)]);let t4:=(Da8 (rt tX t2) [(⟨1,1,1,1⟩:Pt),(⟨1,1,0,1⟩:Pt),(⟨1,0,1,1⟩:Pt),(⟨1,0,0,1⟩:Pt),(⟨0,1,1,1⟩:Pt),(⟨0,1,0,1⟩:Pt),(⟨0,0,1,1⟩:Pt),(⟨0,0,0,1⟩:Pt)]);let t5:=(Da8 (rt tX t3) [(⟨0,0,0,1⟩:Pt),(⟨0,0,1,4⟩:Pt),(⟨0,1,0,3⟩:Pt),(⟨1,0,0,2⟩:Pt)]);let t6:=(lc6 ((⟨(⟨1,0,0⟩:V3),t1.d9⟩:Pln),[(⟨(⟨(-1),0,0⟩:V3),t1.X2⟩:Pln),(⟨(⟨0,1,0⟩:V3),t1.X3⟩:Pln),(⟨(⟨0,(-1),0⟩:V3),t1.X4⟩:Pln),(⟨(⟨0,0,1⟩:V3),t1.X5⟩:Pln),(⟨(⟨0,0,(-1)⟩:V3),t1.X6⟩:Pln),(⟨(⟨1,0,0⟩:V3),t1.d9⟩:Pln),(⟨(⟨1,1,1⟩:V3),3⟩:Pln),(⟨(⟨1,0,0⟩:V3),7⟩:Pln)]));let t7:=(Cb3 (rt tP t6) [(⟨(⟨(-1),0,0⟩:V3),t1.X2⟩:Pln),(⟨(⟨0,(-1),0⟩:V3),t1.X4⟩:Pln),(⟨(⟨0,0,(-1)⟩:V3),t1.X6⟩:Pln),(⟨(⟨0,0,1⟩:V3),t1.X5⟩:Pln),(⟨(⟨0,1,0⟩:V3),t1.X3⟩:Pln),(⟨(⟨1,0,0⟩:V3),t1.d9⟩:Pln)]);let t8:=(ga9 []);let t9:=(ga9 [(⟨(⟨1,0,0⟩:V3),t1.d9⟩:Pln),(⟨(⟨(-1),0,0⟩:V3),t1.X2⟩:Pln),(⟨(⟨0,1,0⟩:V3),t1.X3⟩:Pln),(⟨(⟨0,(-1),0⟩:V3),t1.X4⟩:Pln),(⟨(⟨0,0,1⟩:V3),t1.X5⟩:Pln),(⟨(⟨0,0,(-1)⟩:V3),t1.X6⟩:Pln),(⟨(⟨(-1),0,0⟩:V3),(-1)⟩:Pln)]);let t10:=(jb4 [(⟨(⟨1,0,0⟩:V3),t1.d9⟩:Pln),(⟨(⟨(-1),0,0⟩:V3),t1.X2⟩:Pln),(⟨(⟨0,1,0⟩:V3),t1.X3⟩:Pln),(⟨(⟨0,(-1),0⟩:V3),t1.X4⟩:Pln),(⟨(⟨0,0,1⟩:V3),t1.X5⟩:Pln),(⟨(⟨0,0,(-1)⟩:V3),t1.X6⟩:Pln)] (⟨1,0,0⟩:V3));let t11:=(jb4 [(⟨(⟨1,0,0⟩:V3),t1.d9⟩:Pln),(⟨(⟨(-1),0,0⟩:V3),t1.X2⟩:Pln),(⟨(⟨0,1,0⟩:V3),t1.X3⟩:Pln),(⟨(⟨0,(-1),0⟩:V3),t1.X4⟩:Pln),(⟨(⟨0,0,1⟩:V3),t1.X5⟩:Pln),(⟨(⟨0,0,(-1)⟩:V3),t1.X6⟩:Pln)] (⟨2,0,0⟩:V3));let t12:=(vb6 [(⟨(⟨(-1),0,0⟩:V3),0⟩:Pln),(⟨(⟨0,(-1),0⟩:V3),0⟩:Pln),(⟨(⟨0,0,(-1)⟩:V3),0⟩:Pln),(⟨(⟨2,3,4⟩:V3),1⟩:Pln)]);let t13:=(db8 [(⟨(⟨1,0,0⟩:V3),t1.d9⟩:Pln),(⟨(⟨(-1),0,0⟩:V3),t1.X2⟩:Pln),(⟨(⟨0,1,0⟩:V3),t1.X3⟩:Pln),(⟨(⟨0,(-1),0⟩:V3),t1.X4⟩:Pln),(⟨(⟨0,0,1⟩:V3),t1.X5⟩:Pln),(⟨(⟨0,0,(-1)⟩:V3),t1.X6⟩:Pln)] [(⟨(⟨(-1),0,0⟩:V3),(-1)⟩:Pln)]);let t14:=(db8 [(⟨(⟨1,0,0⟩:V3),t1.d9⟩:Pln),(⟨(⟨(-1),0,0⟩:V3),t1.X2⟩:Pln),(⟨(⟨0,1,0⟩:V3),t1.X3⟩:Pln),(⟨(⟨0,(-1),0⟩:V3),t1.X4⟩:Pln),(⟨(⟨0,0,1⟩:V3),t1.X5⟩:Pln),(⟨(⟨0,0,(-1)⟩:V3),t1.X6⟩:Pln)] [(⟨(⟨(-1),(-1),0⟩:V3),(-1)⟩:Pln)]);let t15:=(Ua7 [(⟨(⟨1,0,0⟩:V3),t1.d9⟩:Pln),(⟨(⟨(-1),0,0⟩:V3),t1.X2⟩:Pln),(⟨(⟨0,1,0⟩:V3),t1.X3⟩:Pln),(⟨(⟨0,(-1),0⟩:V3),t1.X4⟩:Pln),(⟨(⟨0,0,1⟩:V3),t1.X5⟩:Pln),(⟨(⟨0,0,(-1)⟩:V3),t1.X6⟩:Pln)] [(⟨(⟨1,1,1⟩:V3),3⟩:Pln)]);let t16:=(Ua7 [(⟨(⟨1,0,0⟩:V3),t1.d9⟩:Pln),(⟨(⟨(-1),0,0⟩:V3),t1.X2⟩:Pln),(⟨(⟨0,1,0⟩:V3),t1.X3⟩:Pln),(⟨(⟨0,(-1),0⟩:V3),t1.X4⟩:Pln),(⟨(⟨0,0,1⟩:V3),t1.X5⟩:Pln),(⟨(⟨0,0,(-1)⟩:V3),t1.X6⟩:Pln)] [(⟨(⟨1,1,1⟩:V3),2⟩:Pln)]);let t17:=(cb5 [(⟨(⟨0,0,0⟩:V3),0⟩:Pln)]);(sl (T1 [(⟨(⟨1,0,0⟩:V3),t1.d9⟩:Pln),(⟨(⟨(-1),0,0⟩:V3),t1.X2⟩:Pln),(⟨(⟨0,1,0⟩:V3),t1.X3⟩:Pln),(⟨(⟨0,(-1),0⟩:V3),t1.X4⟩:Pln),(⟨(⟨0,0,1⟩:V3),t1.X5⟩:Pln),(⟨(⟨0,0,(-1)⟩:V3),t1.X6⟩:Pln)]) (sl (T1 [(⟨(⟨(-1),0,0⟩:V3),0⟩:Pln),(⟨(⟨0,(-1),0⟩:V3),0⟩:Pln),(⟨(⟨0,0,(-1)⟩:V3),0⟩:Pln),(⟨(⟨2,3,4⟩:V3),1⟩:Pln)]) (sl (okE tX t2) (sl (Da9 (rt tX t2) [(⟨1,1,1,1⟩:Pt),(⟨1,1,0,1⟩:Pt),(⟨1,0,1,1⟩:Pt),(⟨1,0,0,1⟩:Pt),(⟨0,1,1,1⟩:Pt),(⟨0,1,0,1⟩:Pt),(⟨0,0,1,1⟩:Pt),(⟨0,0,0,1⟩:Pt)]) (sl (!t4) (some ((b false),[])) (sl (okE tX t3) (sl (Da9 (rt tX t3) [(⟨0,0,0,1⟩:Pt),(⟨0,0,1,4⟩:Pt),(⟨0,1,0,3⟩:Pt),(⟨1,0,0,2⟩:Pt)]) (sl (!t5) (some ((b false),[])) (sl (lc7 ((⟨(⟨1,0,0⟩:V3),t1.d9⟩:Pln),[(⟨(⟨(-1),0,0⟩:V3),t1.X2⟩:Pln),(⟨(⟨0,1,0⟩:V3),t1.X3⟩:Pln),(⟨(⟨0,(-1),0⟩:V3),t1.X4⟩:Pln),(⟨(⟨0,0,1⟩:V3),t1.X5⟩:Pln),(⟨(⟨0,0,(-1)⟩:V3),t1.X6⟩:Pln),(⟨(⟨1,0,0⟩:V3),t1.d9⟩:Pln),(⟨(⟨1,1,1⟩:V3),3⟩:Pln),(⟨(⟨1,0,0⟩:V3),7⟩:Pln)])) (sl (okE tP t6) (sl (Cb4 (rt tP t6) [(⟨(⟨(-1),0,0⟩:V3),t1.X2⟩:Pln),(⟨(⟨0,(-1),0⟩:V3),t1.X4⟩:Pln),(⟨(⟨0,0,(-1)⟩:V3),t1.X6⟩:Pln),(⟨(⟨0,0,1⟩:V3),t1.X5⟩:Pln),(⟨(⟨0,1,0⟩:V3),t1.X3⟩:Pln),(⟨(⟨1,0,0⟩:V3),t1.d9⟩:Pln)]) (sl (!t7) (some ((b false),[])) (sl (ha0 []) (sl (!t8) (some ((b false),[])) (sl (ha0 [(⟨(⟨1,0,0⟩:V3),t1.d9⟩:Pln),(⟨(⟨(-1),0,0⟩:V3),t1.X2⟩:Pln),(⟨(⟨0,1,0⟩:V3),t1.X3⟩:Pln),(⟨(⟨0,(-1),0⟩:V3),t1.X4⟩:Pln),(⟨(⟨0,0,1⟩:V3),t1.X5⟩:Pln),(⟨(⟨0,0,(-1)⟩:V3),t1.X6⟩:Pln),(⟨(⟨(-1),0,0⟩:V3),(-1)⟩:Pln)]) (sl t9 (some ((b false),[])) (sl (jb5 [(⟨(⟨1,0,0⟩:V3),t1.d9⟩:Pln),(⟨(⟨(-1),0,0⟩:V3),t1.X2⟩:Pln),(⟨(⟨0,1,0⟩:V3),t1.X3⟩:Pln),(⟨(⟨0,(-1),0⟩:V3),t1.X4⟩:Pln),(⟨(⟨0,0,1⟩:V3),t1.X5⟩:Pln),(⟨(⟨0,0,(-1)⟩:V3),t1.X6⟩:Pln)] (⟨1,0,0⟩:V3)) (sl (!t10) (some ((b false),[])) (sl (jb5 [(⟨(⟨1,0,0⟩:V3),t1.d9⟩:Pln),(⟨(⟨(-1),0,0⟩:V3),t1.X2⟩:Pln),(⟨(⟨0,1,0⟩:V3),t1.X3⟩:Pln),(⟨(⟨0,(-1),0⟩:V3),t1.X4⟩:Pln),(⟨(⟨0,0,1⟩:V3),t1.X5⟩:Pln),(⟨(⟨0,0,(-1)⟩:V3),t1.X6⟩:Pln)] (⟨2,0,0⟩:V3)) (sl t11 (some ((b false),[])) (sl (vb7 [(⟨(⟨(-1),0,0⟩:V3),0⟩:Pln),(⟨(⟨0,(-1),0⟩:V3),0⟩:Pln),(⟨(⟨0,0,(-1)⟩:V3),0⟩:Pln),(⟨(⟨2,3,4⟩:V3),1⟩:Pln)]) (sl (!((t12.1.x==0)&&((t12.1.y==0)&&((t12.1.z==0)&&true)))) (some ((b false),[])) (sl (!((t12.2.1.x==1)&&((t12.2.1.y==1)&&((t12.2.1.z==1)&&true)))) (some ((b false),[])) (sl (!t12.2.2) (some ((b false),[])) (sl (db9 [(⟨(⟨1,0,0⟩:V3),t1.d9⟩:Pln),(⟨(⟨(-1),0,0⟩:V3),t1.X2⟩:Pln),(⟨(⟨0,1,0⟩:V3),t1.X3⟩:Pln),(⟨(⟨0,(-1),0⟩:V3),t1.X4⟩:Pln),(⟨(⟨0,0,1⟩:V3),t1.X5⟩:Pln),(⟨(⟨0,0,(-1)⟩:V3),t1.X6⟩:Pln)] [(⟨(⟨(-1),0,0⟩:V3),(-1)⟩:Pln)]) (sl t13 (sl (db9 [(⟨(⟨1,0,0⟩:V3),t1.d9⟩:Pln),(⟨(⟨(-1),0,0⟩:V3),t1.X2⟩:Pln),(⟨(⟨0,1,0⟩:V3),t1.X3⟩:Pln),(⟨(⟨0,(-1),0⟩:V3),t1.X4⟩:Pln),(⟨(⟨0,0,1⟩:V3),t1.X5⟩:Pln),(⟨(⟨0,0,(-1)⟩:V3),t1.X6⟩:Pln)] [(⟨(⟨(-1),(-1),0⟩:V3),(-1)⟩:Pln)]) (sl (!t14) (sl (Ua8 [(⟨(⟨1,0,0⟩:V3),t1.d9⟩:Pln),(⟨(⟨(-1),0,0⟩:V3),t1.X2⟩:Pln),(⟨(⟨0,1,0⟩:V3),t1.X3⟩:Pln),(⟨(⟨0,(-1),0⟩:V3),t1.X4⟩:Pln),(⟨(⟨0,0,1⟩:V3),t1.X5⟩:Pln),(⟨(⟨0,0,(-1)⟩:V3),t1.X6⟩:Pln)] [(⟨(⟨1,1,1⟩:V3),3⟩:Pln)]) (sl t15 (sl (Ua8 [(⟨(⟨1,0,0⟩:V3),t1.d9⟩:Pln),(⟨(⟨(-1),0,0⟩:V3),t1.X2⟩:Pln),(⟨(⟨0,1,0⟩:V3),t1.X3⟩:Pln),(⟨(⟨0,(-1),0⟩:V3),t1.X4⟩:Pln),(⟨(⟨0,0,1⟩:V3),t1.X5⟩:Pln),(⟨(⟨0,0,(-1)⟩:V3),t1.X6⟩:Pln)] [(⟨(⟨1,1,1⟩:V3),2⟩:Pln)]) (sl (!t16) (sl (cb6 [(⟨(⟨0,0,0⟩:V3),0⟩:Pln)]) (some ((b (t17==12)),[])) none) (some ((b false),[]))) none) (some ((b false),[]))) none) (some ((b false),[]))) none) (some ((b false),[]))) none)))) none)) none)) none)) none)) none)) none) none) none)) none) none)) none) none) none) none)
noncomputable def eb1  : Bool:=aa3 (one r1B) Na9
noncomputable def eb2  : Bool:=okO (one r1B) Na9
noncomputable def lc8:Sum:=Pd2  (.guard eb2 (.ret ((one r1B).enc eb1,[])))
theorem Xc4:g8 prog G 13 lc8:=Cf2 (bd b13 Oc0) (one r1B) (o:=Na9) (q8 (by kernel_rfl))
end Go.Ev.Ce
end
namespace Go.Ev.Ce
open Go Go.Ev Go.Ev.L Go.Proofs
noncomputable def onc (X:List Pt) (p:Pln):Nat:=X.countP fun x=>rm p x==0
noncomputable def keep (X:List Pt) (p:Pln):Bool:=!decide ((onc X p:Int) < 3)
theorem ld5 (p:Pln) (X:List Pt) (hX:X.length≤1000000000):Aa1 ⟨p.n.x,p.n.y,p.n.z,p.b,X⟩=⟨1,!keep X p,X⟩:=by
 have h:=Cc9 (step:=Ea0 ⟨X,(X.length:Int),X,p.n.x,p.n.y,p.n.z,p.b⟩) (mk:=fun j (n:Nat)=>(⟨(n:Int),(j:Int)⟩:U9)) (f:=fun n x=>if rm p x==0 then n+1 else n) (fin:=1) tX X (fun j n=>n≤j) hX
  (fun j n hj hi=>by
   have hW:W ((n:Int)+1)=((n+1:Nat):Int):=by rw[na5 (by omega) (by omega)];omega
   refine⟨?_,by show (if rm p (gL tX X j)==0 then n+1 else n)≤j+1;split<;>omega⟩
   simp only[Ea0,ya7,Int.toNat_natCast,Hd6,hW,q7 hj (show X.length≤4611686018427387904 by omega)]
   rw[btD (m0 hj),bt (f8 hj)]
   cases rm p (gL tX X j)==0<;>rfl)
  (fun n _=>by simp only[Ea0,ya7];rw[bfD (A7 (Nat.lt_irrefl _))]) 0 (Nat.zero_le _) 0 (Nat.le_refl _)
 have h:=h.1
 have e:∀ (l:List Pt) (n:Nat),l.foldl (fun n x=>if rm p x==0 then n+1 else n) n=n+l.countP fun x=>rm p x==0:=by
  intro l
  induction l with
  | nil=>intro n;rfl
  | cons x l ih =>
   intro n
   rw[List.foldl_cons,ih,List.countP_cons]
   split<;>omega
 rw[List.drop_zero,e,Nat.zero_add] at h
 unfold Aa1 Ja6 keep onc
 simp only[l6,j9]
 rw[show (⟨0,0⟩:U9)=⟨((0:Nat):Int),((0:Nat):Int)⟩ from rfl,h]
 show Ja5.mk 1 (decide _) X=Ja5.mk 1 (!(!(decide _))) X
 rw[Bool.not_not]
theorem We7 (l:List Pln) (X:List Pt) (hl:l.length≤1000000000) (hX:X.length≤1000000000):ca0 ⟨l.length,bL tP l,X⟩=⟨1,if l.any (fun p=>!keep X p) then ((l.findIdx (fun p=>!keep X p):Nat):Int) else -1,X⟩:=by
 have h:=Fa2 (step:=K5 ⟨l.length,(l.length:Int),bL tP l⟩) (mk:=fun j=>(⟨(j:Int),X⟩:o6)) (c:=fun p=>!keep X p) (u:=1) (fin:=2) tP l hl
  (fun j hj=>by
   simp only[K5,H4,Int.toNat_natCast,l6,j9,ad7 hj,Fc8 hj,ld5 _ _ hX,q7 hj (show l.length≤4611686018427387904 by omega)]
   rw[btD (m0 hj),bt (f8 hj)]
   rfl)
  (by simp only[K5,H4];rw[bfD (A7 (Nat.lt_irrefl _))]) 0 (Nat.zero_le _)
 rw[List.drop_zero] at h
 unfold ca0 I4
 simp only[l6,j9]
 rw[show (⟨0,X⟩:o6)=⟨((0:Nat):Int),X⟩ from rfl,h]
 cases ha:l.any fun p=>!keep X p with
 | false=>rfl
 | true =>
  have hf:l.findIdx (fun p=>!keep X p) < l.length:=by
   rw[List.any_eq_true] at ha
   obtain⟨p,hp,hc⟩:=ha
   exact List.findIdx_lt_length_of_exists ⟨p,hp,hc⟩
  simp only[if_true,Nat.zero_add,Int.toNat_natCast,Fc8 hf,ld5 _ _ hX,l6]
  rfl
theorem Zb6 {α:Type} (c:α→Bool):∀ l:List α,(l.take (l.findIdx c)).filter (fun x=>!c x)=l.take (l.findIdx c)
 | []=>rfl
 | x::l=>by
  rw[List.findIdx_cons]
  cases h:c x with
  | true=>rfl
  | false =>
   simp only[cond_false,List.take_succ_cons,List.filter_cons,h,Bool.not_false,if_true]
   rw[Zb6 c l]
theorem fe1 {α:Type} (l:List α) (j:Nat) (h:j < l.length):l.take (j+1)=l.take j++[l[j]]:=by rw[List.take_succ_eq_append_getElem h]
theorem Zb7 {α:Type} (t:Ty α) {l:List α} {j:Nat} (h:j < l.length):l.take (j+1)=l.take j++[gL t l j]:=by rw[fe1 l j h,gb0 t h]
theorem yb9 {α:Type} (t:Ty α) {l r:List α} {j:Nat} (h:l.drop j=r.drop j):gL t l j=gL t r j:=by
 have h1:=ad6 t l j 0
 have h2:=ad6 t r j 0
 rw[Nat.add_zero] at h1 h2
 rw[← h1,← h2,h]
theorem wb3 {α:Type} {l r:List α} {j:Nat} (h:l.drop j=r.drop j) (k:Nat):l.drop (j+k)=r.drop (j+k):=by rw[← List.drop_drop,← List.drop_drop,h]
structure Del (l:List Pln) (f:Pln→Bool) (cur:List Pln) (m j:Nat):Prop where
 len:cur.length=l.length
 t:cur.take m=(l.take j).filter f
 d:cur.drop j=l.drop j
 le:m≤j
 lm:m≤l.length
theorem Vd5 (l : List Pln) (X : List Pt) (hl : l.length ≤ 1000000000) (hX : X.length ≤ 1000000000) (m j : Nat) (cur : List Pln) (hd : Del l (keep X) cur m j) :
  ∃ t s,lp (C8 ⟨l.length⟩) ⟨(m:Int),(j:Int),bL tP cur,X⟩=(t,s)∧(t=1∧∃ m' cur' k,s=⟨((m':Nat):Int),((k:Nat):Int),bL tP cur',X⟩∧Del l (keep X) cur' m' k∧l.length≤k):=by
 refine ya6 (step:=C8 ⟨l.length⟩) (mk:=fun j (x:Nat×List Pln)=>(⟨(x.1:Int),(j:Int),bL tP x.2,X⟩:r9)) l.length (fun j x=>Del l (keep X) x.2 x.1 j) (fun t s=>t=1∧∃ m' cur' k,s=⟨((m':Nat):Int),((k:Nat):Int),bL tP cur',X⟩∧Del l (keep X) cur' m' k∧l.length≤k) hl (fun j x hj hx=>?_) (fun j x hj hx=>?_) j (m,cur) hd
 ·obtain⟨m,cur⟩:=x
  obtain⟨h1,h2,h3,h4,h5⟩:=hx
  simp only at h1 h2 h3 h4 h5
  have hjc:j < cur.length:=by omega
  have hmc:m < cur.length:=by omega
  have hg:gL tP cur j=gL tP l j:=yb9 tP h3
  have hWm:W ((m:Int)+1)=((m+1:Nat):Int):=by rw[na5 (by omega) (by omega)];omega
  have hb:Nat.blt m cur.length=true:=by rw[Nat.blt_eq];exact hmc
  have hrow:j6 (bL tP cur) m=tP.row (gL tP cur m):=Q3 tP hmc
  have sp:∀ (v:Pln) (x1 x2 x3 x4:Int),S7 (tP.row v) 0 [i x1,i x2,i x3,i x4]=tP.row ⟨⟨x1,x2,x3⟩,x4⟩:=fun _ _ _ _ _=>rfl
  have rl:∀ v:Pln,Nat.ble (0+4) (len (tP.row v))=true:=fun _=>rfl
  simp only[C8,H5,Int.toNat_natCast,l6,j9,ad7 hjc,Fc8 hjc,ld5 _ _ hX,q7 hj (show l.length≤4611686018427387904 by omega),hWm]
  rw[btD (m0 hj),bt (f8 hj)]
  simp only[Nat.zero_add,hrow,na4,hb,sp,Ta3,f8 (show m < l.length by omega),hg]
  have ht:=Zb7 tP hj
  have hd1:cur.drop (j+1)=l.drop (j+1):=wb3 h3 1
  cases hk:keep X (gL tP l j) with
  | true =>
   refine .nx ⟨(m+1,cur.set m (gL tP l j)),rfl,⟨by rw[List.length_set];exact h1,?_,?_,by omega,by show m+1≤l.length;omega⟩⟩
   ·show (cur.set m (gL tP l j)).take (m+1)=_
    rw[ht,List.filter_append,List.take_succ_eq_append_getElem (by rw[List.length_set];exact hmc),List.getElem_set_self,List.take_set_of_le (Nat.le_refl _),h2,List.filter_cons,hk,if_pos rfl,List.filter_nil]
   ·show (cur.set m (gL tP l j)).drop (j+1)=_
    rw[List.drop_set_of_lt (by omega),hd1]
  | false =>
   refine .nx ⟨(m,cur),rfl,⟨h1,?_,hd1,by omega,h5⟩⟩
   show cur.take m=_
   rw[ht,List.filter_append,h2,List.filter_cons,hk,if_neg (by simp),List.filter_nil,List.append_nil]
 ·obtain⟨m,cur⟩:=x
  refine⟨1,?_,rfl,m,cur,j,rfl,hx,hj⟩
  simp only[C8,H5]
  rw[bfD (by omega)]
theorem me5 (l:List Pln) (n:Nat):J7 (bL tP l) n=bL tP (l.take n):=by unfold bL;rw[L6,o0,o0,List.map_take]
theorem ad8 (l:List Pln) (n:Nat):g9 (bL tP l) n=bL tP (l.drop n):=by unfold bL;rw[L7,o0,o0,List.map_drop]
theorem me6 (n:Nat):List.replicate n [i 0,i 0,i 0,i 0]=bL tP (List.replicate n ⟨⟨0,0,0⟩,0⟩):=by unfold bL;rw[o0,List.map_replicate];rfl
theorem Bd1 (l : List Pln) (X : List Pt) (hl : l.length ≤ 1000000000) (hX : X.length ≤ 1000000000) :
  ∃ m r,I6 ⟨l.length,bL tP l,X⟩=⟨1,m,bL tP r,X⟩∧m≤r.length∧r.take m=l.filter (keep X)∧r.length=l.length:=by
 unfold I6 I5
 simp only[l6,j9,We7 l X hl hX]
 cases ha:l.any fun p=>!keep X p with
 | false =>
  refine⟨l.length,l,rfl,Nat.le_refl _,?_,rfl⟩
  rw[List.take_length]
  symm
  rw[List.filter_eq_self]
  intro p hp
  have:=List.any_eq_false.1 ha p hp
  simpa using this
 | true =>
  have hf:l.findIdx (fun p=>!keep X p) < l.length:=by
   rw[List.any_eq_true] at ha
   obtain⟨p,hp,hc⟩:=ha
   exact List.findIdx_lt_length_of_exists ⟨p,hp,hc⟩
  have hk:keep X (gL tP l (l.findIdx fun p=>!keep X p))=false:=by
   have:=List.findIdx_getElem (xs:=l) (p:=fun p=>!keep X p) (w:=hf)
   rw[gb0 tP hf]
   simpa using this
  have ht:=Zb6 (fun p=>!keep X p) l
  simp only[Bool.not_not] at ht
  generalize hF:l.findIdx (fun p=>!keep X p)=F at *
  have hW:W ((F:Int)+1)=((F+1:Nat):Int):=q7 hf (by omega)
  have hne:((F:Int)==-1)=false:=by rw[beq_eq_false_iff_ne];omega
  obtain⟨t,s,e1,rfl,m,cur,k,e2,e3,e4⟩:=Vd5 l X hl hX F (F+1) l ⟨rfl,by rw[Zb7 tP hf,List.filter_append,ht,List.filter_cons,hk,if_neg (by simp),List.filter_nil,List.append_nil],rfl,by omega,by omega⟩
  have hm:m≤l.length:=e3.lm
  have hin:inB (m:Int) (l.length+1)=true:=f8 (by omega)
  have hfin:cur.take m=l.filter (keep X):=by rw[e3.t,List.take_of_length_le e4]
  simp only[if_true,hW,hne,e1,e2,Int.toNat_natCast,hin,Nat.zero_add,Nat.sub_zero]
  refine⟨m,cur.take m++(List.replicate (l.length - m) ⟨⟨0,0,0⟩,0⟩++cur.drop (m+(l.length - m))),?_,?_,?_,?_⟩
  ·rw[me5,me6,ad8,Ma0,Ma0]
   rfl
  ·rw[List.length_append,List.length_append,List.length_take,List.length_replicate,e3.len];omega
  ·rw[List.take_append_of_le_length (by rw[List.length_take,e3.len];omega),List.take_take,Nat.min_self,hfin]
  ·rw[List.length_append,List.length_append,List.length_take,List.length_replicate,List.length_drop,e3.len];omega
def eqP (x y:Pln):Bool:=x.n.x==y.n.x&&(x.n.y==y.n.y&&(x.n.z==y.n.z&&(x.b==y.b&&true)))
theorem Lb4 (x y:Pln):eqP x y=true↔x=y:=by
 unfold eqP
 simp only[Bool.and_true,Bool.and_eq_true,beq_iff_eq]
 refine⟨fun⟨h1,h2,h3,h4⟩=>?_,fun h=>by subst h;exact⟨rfl,rfl,rfl,rfl⟩⟩
 obtain⟨⟨x1,x2,x3⟩,x4⟩:=x
 obtain⟨⟨y1,y2,y3⟩,y4⟩:=y
 simp only at h1 h2 h3 h4
 subst h1 h2 h3 h4
 rfl
def ddF:Pln→List Pln→List Pln
 | _,[]=>[]
 | a,x::l=>if eqP x a then ddF x l else x::ddF x l
def dd:List Pln→List Pln
 | []=>[]
 | x::l=>x::ddF x l
structure Cmp (l:List Pln) (n:Nat) (cur:List Pln) (m j:Nat) (R:List Pln):Prop where
 len:cur.length=l.length
 t:cur.take m++ddF (gL tP l (j - 1)) ((l.take n).drop j)=R
 d:cur.drop (j - 1)=l.drop (j - 1)
 le:m+1≤j
theorem Jd4 (l : List Pln) (n o : Nat) (hn : n ≤ l.length) (hl : l.length ≤ 1000000000) (ho : o < n) (m : Nat) (cur : List Pln) (R : List Pln) (hd : Cmp l n cur m (o + 1) R) :
  ∃ t s,lp (r4 ⟨n,0+o,n - o⟩) ⟨(m:Int),((1:Nat):Int),bL tP cur⟩=(t,s)∧(t=1∧∃ m' cur' k,s=⟨((m':Nat):Int),k,bL tP cur'⟩∧cur'.length=l.length∧cur'.take m'=R∧m'≤n):=by
 refine ya6 (step:=r4 ⟨n,0+o,n - o⟩) (mk:=fun j (x:Nat×List Pln)=>(⟨(x.1:Int),(j:Int),bL tP x.2⟩:p6)) (n - o) (fun j x=>Cmp l n x.2 x.1 (o+j) R∧1≤j∧x.1≤n) (fun t s=>t=1∧∃ m' cur' k,s=⟨((m':Nat):Int),k,bL tP cur'⟩∧cur'.length=l.length∧cur'.take m'=R∧m'≤n) (by omega) (fun j x hj hx=>?_) (fun j x hj hx=>?_) 1 (m,cur) ⟨hd,Nat.le_refl _,by have:=hd.le;show m≤n;omega⟩
 ·obtain⟨m,cur⟩:=x
  obtain⟨⟨h1,h2,h3,h4⟩,hj1,hmn⟩:=hx
  simp only at h1 h2 h3 h4 hmn
  have hoj:o+j < n:=by omega
  have hjc:o+j < cur.length:=by omega
  have hjc':o+(j - 1) < cur.length:=by omega
  have hmc:m < cur.length:=by omega
  have hg':gL tP cur (o+(j - 1))=gL tP l (o+j - 1):=by rw[show o+(j - 1)=o+j - 1 by omega];exact yb9 tP h3
  have hd1:cur.drop (o+j)=l.drop (o+j):=by have:=wb3 h3 1;rw[show o+j - 1+1=o+j by omega] at this;exact this
  have hg:gL tP cur (o+j)=gL tP l (o+j):=yb9 tP hd1
  have hWm:W ((m:Int)+1)=((m+1:Nat):Int):=by rw[na5 (by omega) (by omega)];omega
  have hWj:W ((j:Int) - 1)=((j - 1:Nat):Int):=by rw[na5 (by omega) (by omega)];omega
  have hb:Nat.blt m cur.length=true:=by rw[Nat.blt_eq];exact hmc
  have hrow:j6 (bL tP cur) m=tP.row (gL tP cur m):=Q3 tP hmc
  have sp:∀ (v:Pln) (x1 x2 x3 x4:Int),S7 (tP.row v) 0 [i x1,i x2,i x3,i x4]=tP.row ⟨⟨x1,x2,x3⟩,x4⟩:=fun _ _ _ _ _=>rfl
  have rl:∀ v:Pln,Nat.ble 4 (len (tP.row v))=true:=fun _=>rfl
  simp only[r4,O3,Int.toNat_natCast,Nat.zero_add,hWj,Kc8 tP hjc,Kc8 tP hjc',Kc7 tP hjc,Kc7 tP hjc',q7 hj (show n - o≤4611686018427387904 by omega),hWm,hg,hg',hrow,na4,hb,sp,rl,Ta3,f8 (show m < n by omega)]
  rw[btD (m0 hj)]
  simp only[f8 hj,f8 (show j - 1 < n - o by omega),w6,Bool.and_self]
  rw[show ((gL tP l (o+j)).n.x==(gL tP l (o+j - 1)).n.x&&((gL tP l (o+j)).n.y==(gL tP l (o+j - 1)).n.y&&((gL tP l (o+j)).n.z==(gL tP l (o+j - 1)).n.z&&((gL tP l (o+j)).b==(gL tP l (o+j - 1)).b&&true))))=eqP (gL tP l (o+j)) (gL tP l (o+j - 1)) from rfl]
  have hcons:(l.take n).drop (o+j)=gL tP l (o+j)::(l.take n).drop (o+(j+1)):=by
   rw[List.drop_eq_getElem_cons (by rw[List.length_take];omega),List.getElem_take,gb0 tP (by omega)]
   rfl
  rw[hcons] at h2
  have hlast:o+(j+1) - 1=o+j:=by omega
  unfold ddF at h2
  cases he:eqP (gL tP l (o+j)) (gL tP l (o+j - 1)) with
  | true =>
   rw[he] at h2
   simp only[if_true] at h2
   refine .nx ⟨(m,cur),rfl,⟨⟨h1,?_,?_,by show m+1≤o+(j+1);omega⟩,by omega,hmn⟩⟩
   ·rw[hlast];exact h2
   ·rw[hlast];exact hd1
  | false =>
   rw[he] at h2
   simp only[Bool.false_eq_true,if_false] at h2
   refine .nx ⟨(m+1,cur.set m (gL tP l (o+j))),rfl,⟨⟨by rw[List.length_set];exact h1,?_,?_,by show m+1+1≤o+(j+1);omega⟩,by omega,by show m+1≤n;omega⟩⟩
   ·rw[hlast]
    show (cur.set m (gL tP l (o+j))).take (m+1)++_=R
    rw[List.take_succ_eq_append_getElem (by rw[List.length_set];exact hmc),List.getElem_set_self,List.take_set_of_le (Nat.le_refl _),List.append_assoc]
    exact h2
   ·rw[hlast]
    show (cur.set m (gL tP l (o+j))).drop (o+j)=_
    rw[List.drop_set_of_lt (by omega),hd1]
 ·obtain⟨m,cur⟩:=x
  obtain⟨⟨h1,h2,h3,h4⟩,hj1,hmn⟩:=hx
  simp only at h1 h2 h3 h4 hmn
  refine⟨1,?_,rfl,m,cur,_,rfl,h1,?_,hmn⟩
  ·simp only[r4,O3]
   rw[bfD (by omega)]
  ·rw[List.drop_eq_nil_of_le (by rw[List.length_take];omega)] at h2
   unfold ddF at h2
   rw[List.append_nil] at h2
   exact h2
theorem ld6 (l : List Pln) (n : Nat) (hn : n ≤ l.length) (hl : l.length ≤ 1000000000) :
  ∃ m r,Y5 ⟨n,bL tP l⟩=⟨1,m,bL tP r⟩∧m≤r.length∧r.take m=dd (l.take n):=by
 unfold Y5 Q5
 simp only
 by_cases h2:(n:Int) < 2
 ·rw[btD h2]
  refine⟨n,l,rfl,hn,?_⟩
  have:n=0∨n=1:=by omega
  rcases this with rfl | rfl
  ·rfl
  ·cases l with
   | nil=>rfl
   | cons x l=>rfl
 ·rw[bfD h2]
  have h1n:1≤n:=by omega
  have hI : ∀ j, j < n → 1 ≤ j → l.take j ++ ddF (gL tP l (j - 1)) ((l.take n).drop j) = dd (l.take n) →
    (eqP (gL tP l j) (gL tP l (j - 1))=true→Cmp l n l j (j+1) (dd (l.take n)))∧(eqP (gL tP l j) (gL tP l (j - 1))=false→l.take (j+1)++ddF (gL tP l (j+1 - 1)) ((l.take n).drop (j+1))=dd (l.take n)):=by
   intro j hj hj1 hR
   have hcons:(l.take n).drop j=gL tP l j::(l.take n).drop (j+1):=by
    rw[List.drop_eq_getElem_cons (by rw[List.length_take];omega),List.getElem_take,gb0 tP (by omega)]
   rw[hcons] at hR
   unfold ddF at hR
   constructor
   ·intro he
    rw[he] at hR
    simp only[if_true] at hR
    exact⟨rfl,hR,rfl,Nat.le_refl _⟩
   ·intro he
    rw[he] at hR
    simp only[Bool.false_eq_true,if_false] at hR
    rw[Zb7 tP (show j < l.length by omega),List.append_assoc]
    exact hR
  have inner:∀ k,k < n→1≤k→Cmp l n l k (k+1) (dd (l.take n))→∃ m' cur' k',lp (r4 ⟨n,0+k,n - k⟩) ⟨(k:Int),1,bL tP l⟩=(1,⟨((m':Nat):Int),k',bL tP cur'⟩)∧cur'.length=l.length∧cur'.take m'=dd (l.take n)∧m'≤n:=by
   intro k hk hk1 hc
   obtain⟨t,s,e1,rfl,m',cur',k',rfl,e2,e3,e4⟩:=Jd4 l n k hn hl hk k l _ hc
   exact⟨m',cur',k',e1,e2,e3,e4⟩
  have key:=ya6 (step:=R3 ⟨n,bL tP l⟩) (mk:=fun j (_:Unit)=>(⟨(j:Int)⟩:s8)) n (fun j _=>1≤j∧j≤n∧l.take j++ddF (gL tP l (j - 1)) ((l.take n).drop j)=dd (l.take n))
   (fun t s=>(t=1∧∃ k:Nat,s=⟨(k:Int)⟩∧k < n∧1≤k∧Cmp l n l k (k+1) (dd (l.take n)))∨(t=2∧l.take n=dd (l.take n))) (by omega) (fun j x hj hx=>?_) (fun j x hj hx=>?_) 1 () ⟨Nat.le_refl _,h1n,by
    cases l with
    | nil=>simp only[List.length_nil] at hn;omega
    | cons x l =>
     cases n with
     | zero=>omega
     | succ n=>rfl⟩
  ·obtain⟨t,s,e1,e2⟩:=key
   rw[show (⟨1⟩:s8)=⟨((1:Nat):Int)⟩ from rfl,e1]
   rcases e2 with⟨rfl,k,rfl,hk,hk1,hc⟩ | ⟨rfl,he⟩
   ·obtain⟨m',cur',k',e2,e3,e4,e5⟩:=inner k hk hk1 hc
    simp only[Int.toNat_natCast,e2]
    simp only[Nat.zero_add,Nat.sub_zero]
    refine⟨m',cur'.take m'++(List.replicate (n - m') ⟨⟨0,0,0⟩,0⟩++cur'.drop (m'+(n - m'))),?_,?_,?_⟩
    ·rw[me5,me6,ad8,Ma0,Ma0]
     rfl
    ·rw[List.length_append,List.length_take,e3];omega
    ·rw[List.take_append_of_le_length (by rw[List.length_take,e3];omega),List.take_take,Nat.min_self,e4]
   ·exact⟨n,l,rfl,hn,he⟩
  ·obtain⟨hj1,hjn,hR⟩:=hx
   obtain⟨i1,i2⟩:=hI j hj hj1 hR
   have hWj:W ((j:Int) - 1)=((j - 1:Nat):Int):=by rw[na5 (by omega) (by omega)];omega
   have hjl:j < l.length:=by omega
   have hjl':j - 1 < l.length:=by omega
   simp only[R3,O4,Int.toNat_natCast,hWj,ad7 hjl,ad7 hjl',Fc8 hjl,Fc8 hjl',q7 hj (show n≤4611686018427387904 by omega)]
   rw[btD (m0 hj),bt (f8 hj),bt (f8 (show j - 1 < n by omega)),bt (f8 (show j < n+1 by omega))]
   simp only[w6]
   rw[show ((gL tP l j).n.x==(gL tP l (j - 1)).n.x&&((gL tP l j).n.y==(gL tP l (j - 1)).n.y&&((gL tP l j).n.z==(gL tP l (j - 1)).n.z&&((gL tP l j).b==(gL tP l (j - 1)).b&&true))))=eqP (gL tP l j) (gL tP l (j - 1)) from rfl]
   cases he:eqP (gL tP l j) (gL tP l (j - 1)) with
   | false=>exact .nx ⟨(),rfl,by omega,by omega,i2 he⟩
   | true =>
    obtain⟨m',cur',k',e2,e3,e4,e5⟩:=inner j hj hj1 (i1 he)
    rw[e2]
    simp only[f8 (show m' < n+1 by omega)]
    exact .ex (.inl ⟨rfl,j,rfl,hj,hj1,i1 he⟩)
  ·obtain⟨hj1,hjn,hR⟩:=hx
   refine⟨2,?_,.inr ⟨rfl,?_⟩⟩
   ·simp only[R3,O4]
    rw[bfD (by omega)]
   ·have:j=n:=by omega
    subst this
    rw[List.drop_eq_nil_of_le (by rw[List.length_take];omega)] at hR
    unfold ddF at hR
    rw[List.append_nil] at hR
    exact hR
theorem Vd6 (l:List Pln) (n:Nat) (hn:n≤l.length):slR tP (bL tP l) 0 n=l.take n:=Kc6 tP (by rw[List.length_take];omega) fun k hk=>by
 rw[Nat.zero_add,Q3 tP (by omega)]
 congr 1
 simp[gL,List.getD_eq_getElem?_getD,List.getElem?_take,hk]
theorem Vd7 (l:List Pln) (n:Nat) (hn:n≤l.length):okS tP (bL tP l) 0 n=true:=hb9 tP (f:=fun k=>gL tP l k) fun k hk=>by rw[Nat.zero_add,Q3 tP (by omega)]
noncomputable def lean (c:List Pln):List Pln:=if ful c then dd (Ra8 (c.filter (keep (pts c)))) else []
theorem me7 (p:Pln) (c:List Pln) (hc:c.length≤1000000):Rd (one (r1L tP)) (pb0 (p,c)) (fun r=>r=lean (p::c)):=by
 have hl:(p::c).length≤1000000000:=by simp only[List.length_cons];omega
 have hX:=Fc3 (p::c)
 unfold pb0 lean
 simp only[l6,sa1,j9,yd5,yd6,kc7 hl,kc8 hl,ob4 hl,ob5 hl]
 cases hf:ful (p::c) with
 | false=>exact⟨_,[],rfl,rfl,rfl⟩
 | true =>
  have ec:w8 (fun k=>tP.row (gL tP (p::c) k)) (List.range (c.length+1))=bL tP (p::c):=fd6 tP (p::c)
  have hcl:ya9 (p,c)=⟨1,(p::c).length,bL tP (p::c)⟩:=by
   unfold ya9 W4
   simp only[ec,na4]
   have z:Nat.beq (p::c).length 0=false:=rfl
   have r:Nat.ble ((0+(p::c).length)*32) room=true:=Cc8 (by simp only[List.length_cons];omega)
   rw[z,r,Nat.zero_add]
   rfl
  obtain⟨m,r,e1,e2,e3,e4⟩:=Bd1 (p::c) (pts (p::c)) hl (by omega)
  have hm:m≤(p::c).length:=by
   have h1:=congrArg List.length e3
   have h2:=List.length_filter_le (keep (pts (p::c))) (p::c)
   rw[List.length_take] at h1
   omega
  have hs:(Ra8 (r.take m)).length=m:=by rw[qc5,List.length_take];omega
  have hrows:app (bL tP (Ra8 (r.take m))) (g9 (bL tP r) m)=bL tP (Ra8 (r.take m)++r.drop m):=by rw[ad8,Ma0]
  have hok:okL tP (c.length+1) (fun k=>tP.row (gL tP (p::c) k))=true:=hb9 tP (f:=fun k=>gL tP (p::c) k) fun _ _=>rfl
  simp only[hcl,e1,Vd6 r m e2,Vd7 r m e2,hrows,hok]
  obtain⟨m2,r2,k1,k2,k3⟩:=ld6 (Ra8 (r.take m)++r.drop m) m (by rw[List.length_append,hs];omega) (by rw[List.length_append,hs,List.length_drop,e4];omega)
  rw[k1,na4]
  have q1:Nat.ble m room=true:=by rw[Nat.ble_eq];unfold room;simp only[List.length_cons] at hm;omega
  have q2:Nat.ble m r.length=true:=by rw[Nat.ble_eq];exact e2
  rw[q1,q2]
  have hfin:r2.take m2=dd (Ra8 ((p::c).filter (keep (pts (p::c))))):=by
   rw[k3,List.take_append_of_le_length (by rw[hs];omega),List.take_of_length_le (by rw[hs];omega),e3]
  exact Ge9 k2 rfl hfin
theorem He5 (p:Pln) (c:List Pln) (hc:c.length≤1000000):lc6 (p,c)=lean (p::c):=(me7 p c hc).p
theorem He6 (p:Pln) (c:List Pln) (hc:c.length≤1000000):lc7 (p,c)=true:=(me7 p c hc).g
end Go.Ev.Ce
namespace Go.Ev.Ce
open Go Go.Ev Go.Ev.L Go.Proofs Go.Sort
theorem Zb8 (l:List Pln):List.Perm (Ra8 l) l:=List.mergeSort_perm l _
theorem ue1 (x y z:Pln) (h1:(!ltOf Db2 y x)=true) (h2:(!ltOf Db2 z y)=true):(!ltOf Db2 z x)=true:=by
 simp only[Bool.not_eq_true',Za4,decide_eq_false_iff_not] at *
 unfold LtP at *
 omega
theorem ue2 (x y:Pln):((!ltOf Db2 y x)||!ltOf Db2 x y)=true:=by
 simp only[Bool.or_eq_true,Bool.not_eq_true',Za4,decide_eq_false_iff_not]
 unfold LtP
 omega
theorem Zb9 (l:List Pln):(Ra8 l).Pairwise fun x y=>(!ltOf Db2 y x)=true:=List.pairwise_mergeSort ue1 ue2 l
theorem Jd5 {l r:List Pln} (hp:List.Perm r l) (hs:r.Pairwise fun x y=>(!ltOf Db2 y x)=true):Ra8 l=r :=
 List.Perm.eq_of_pairwise (fun x y _ _ h1 h2=>zf7 x y (by simpa using h2) (by simpa using h1)) (Zb9 l) hs ((Zb8 l).trans hp.symm)
instance:DecidableEq Pln:=fun x y=>decidable_of_iff _ (Lb4 x y)
def U6:List Pln:=[⟨⟨1,0,0⟩,1⟩,⟨⟨-1,0,0⟩,0⟩,⟨⟨0,1,0⟩,1⟩,⟨⟨0,-1,0⟩,0⟩,⟨⟨0,0,1⟩,1⟩,⟨⟨0,0,-1⟩,0⟩]
def U8:List Pln:=[⟨⟨-1,0,0⟩,0⟩,⟨⟨0,1,0⟩,1⟩,⟨⟨0,-1,0⟩,0⟩,⟨⟨0,0,1⟩,1⟩,⟨⟨0,0,-1⟩,0⟩,⟨⟨1,0,0⟩,1⟩,⟨⟨1,1,1⟩,3⟩,⟨⟨1,0,0⟩,7⟩]
def C4:List Pln:=[⟨⟨-1,0,0⟩,0⟩,⟨⟨0,-1,0⟩,0⟩,⟨⟨0,0,-1⟩,0⟩,⟨⟨2,3,4⟩,1⟩]
def U7:List Pln:=[⟨⟨1,0,0⟩,1⟩,⟨⟨-1,0,0⟩,0⟩,⟨⟨0,1,0⟩,1⟩,⟨⟨0,-1,0⟩,0⟩,⟨⟨0,0,1⟩,1⟩,⟨⟨0,0,-1⟩,0⟩,⟨⟨-1,0,0⟩,-1⟩]
def LU:List Pln:=[⟨⟨-1,0,0⟩,0⟩,⟨⟨0,-1,0⟩,0⟩,⟨⟨0,0,-1⟩,0⟩,⟨⟨0,0,1⟩,1⟩,⟨⟨0,1,0⟩,1⟩,⟨⟨1,0,0⟩,1⟩]
def PU:List Pt:=[⟨1,1,1,1⟩,⟨1,1,0,1⟩,⟨1,0,1,1⟩,⟨1,0,0,1⟩,⟨0,1,1,1⟩,⟨0,1,0,1⟩,⟨0,0,1,1⟩,⟨0,0,0,1⟩]
def PC:List Pt:=[⟨0,0,0,1⟩,⟨0,0,1,4⟩,⟨0,1,0,3⟩,⟨1,0,0,2⟩]
theorem mf1:pts U6=PU:=by kernel_rfl
theorem mf2:pts C4=PC:=by kernel_rfl
theorem Jd6:ful []=true:=by kernel_rfl
theorem mf3:ful U7=false:=by kernel_rfl
theorem mf4:has U6 ⟨1,0,0⟩=true:=by kernel_rfl
theorem mf5:has U6 ⟨2,0,0⟩=false:=by kernel_rfl
theorem Af1:bnd C4=(⟨0,0,0⟩,⟨1,1,1⟩,true):=by kernel_rfl
theorem Af2:apart U6 [⟨⟨-1,0,0⟩,-1⟩]=true:=by kernel_rfl
theorem Af3:apart U6 [⟨⟨-1,-1,0⟩,-1⟩]=false:=by kernel_rfl
theorem Af4:ue0 U6 [⟨⟨1,1,1⟩,3⟩]=true:=by kernel_rfl
theorem Af5:ue0 U6 [⟨⟨1,1,1⟩,2⟩]=false:=by kernel_rfl
theorem Af6:chk [⟨⟨0,0,0⟩,0⟩]=12:=by kernel_rfl
theorem Af7:(⟨⟨1,0,0⟩,1⟩::U8).filter (keep (pts (⟨⟨1,0,0⟩,1⟩::U8)))=[⟨⟨1,0,0⟩,1⟩,⟨⟨-1,0,0⟩,0⟩,⟨⟨0,1,0⟩,1⟩,⟨⟨0,-1,0⟩,0⟩,⟨⟨0,0,1⟩,1⟩,⟨⟨0,0,-1⟩,0⟩,⟨⟨1,0,0⟩,1⟩]:=by kernel_rfl
theorem mf6:ful (⟨⟨1,0,0⟩,1⟩::U8)=true:=by kernel_rfl
theorem mf7:lean (⟨⟨1,0,0⟩,1⟩::U8)=LU:=by
 unfold lean
 rw[mf6,if_pos rfl,Af7,Jd5 (r:=[⟨⟨-1,0,0⟩,0⟩,⟨⟨0,-1,0⟩,0⟩,⟨⟨0,0,-1⟩,0⟩,⟨⟨0,0,1⟩,1⟩,⟨⟨0,1,0⟩,1⟩,⟨⟨1,0,0⟩,1⟩,⟨⟨1,0,0⟩,1⟩])]
 ·rfl
 ·exact List.isPerm_iff.1 (by kernel_rfl)
 ·exact of_decide_eq_true (by kernel_rfl)
theorem We8:Zb3=⟨1,0,1,0,1,0⟩:=by kernel_rfl
theorem Bd2:Na9=some (b true,[]):=by
 have le:∀ {c:List Pln},c.length≤100→c.length≤1000000000:=fun h=>by omega
 have le':∀ {c:List Pln},c.length≤100→c.length≤100000000:=fun h=>by omega
 have u:U6.length≤100:=by decide
 have u7:U7.length≤100:=by decide
 have u8:U8.length≤1000000:=by decide
 have c4:C4.length≤100:=by decide
 have n0:([]:List Pln).length≤100:=by decide
 have o1:∀ p:Pln,[p].length≤100:=fun _=>(by decide:1≤100)
 unfold Na9
 rw[We8]
 simp only[l6,sa1]
 rw[show ([⟨⟨1,0,0⟩,1⟩,⟨⟨-1,0,0⟩,0⟩,⟨⟨0,1,0⟩,1⟩,⟨⟨0,-1,0⟩,0⟩,⟨⟨0,0,1⟩,1⟩,⟨⟨0,0,-1⟩,0⟩,⟨⟨-1,0,0⟩,-1⟩]:List Pln)=U7 from rfl,
  show ([⟨⟨-1,0,0⟩,0⟩,⟨⟨0,1,0⟩,1⟩,⟨⟨0,-1,0⟩,0⟩,⟨⟨0,0,1⟩,1⟩,⟨⟨0,0,-1⟩,0⟩,⟨⟨1,0,0⟩,1⟩,⟨⟨1,1,1⟩,3⟩,⟨⟨1,0,0⟩,7⟩]:List Pln)=U8 from rfl,
  show ([⟨⟨1,0,0⟩,1⟩,⟨⟨-1,0,0⟩,0⟩,⟨⟨0,1,0⟩,1⟩,⟨⟨0,-1,0⟩,0⟩,⟨⟨0,0,1⟩,1⟩,⟨⟨0,0,-1⟩,0⟩]:List Pln)=U6 from rfl,
  show ([⟨⟨-1,0,0⟩,0⟩,⟨⟨0,-1,0⟩,0⟩,⟨⟨0,0,-1⟩,0⟩,⟨⟨2,3,4⟩,1⟩]:List Pln)=C4 from rfl,
  show ([⟨⟨-1,0,0⟩,0⟩,⟨⟨0,-1,0⟩,0⟩,⟨⟨0,0,-1⟩,0⟩,⟨⟨0,0,1⟩,1⟩,⟨⟨0,1,0⟩,1⟩,⟨⟨1,0,0⟩,1⟩]:List Pln)=LU from rfl]
 simp only[ob4 (le u),ob5 (le u),ob4 (le c4),ob5 (le c4),mf1,mf2,He5 _ U8 u8,He6 _ U8 u8,mf7,kc7 (le n0),kc8 (le n0),Jd6,kc7 (le u7),kc8 (le u7),mf3,
  gf1 (le u),gf2 (le u),mf4,mf5,We0 (le c4),We1 (le c4),Af1,We5 (le' u) (le' (o1 _)),We6 (le' u) (le' (o1 _)),Af2,Af3,He2 (le u) (le (o1 _)),He3 (le u) (le (o1 _)),Af4,Af5,
  le0 _ (le (o1 _)),le1 _ (le (o1 _)),Af6]
 rw[show ([⟨1,1,1,1⟩,⟨1,1,0,1⟩,⟨1,0,1,1⟩,⟨1,0,0,1⟩,⟨0,1,1,1⟩,⟨0,1,0,1⟩,⟨0,0,1,1⟩,⟨0,0,0,1⟩]:List Pt)=PU from rfl,
  show ([⟨0,0,0,1⟩,⟨0,0,1,4⟩,⟨0,1,0,3⟩,⟨1,0,0,2⟩]:List Pt)=PC from rfl]
 simp only[Fc5 PU (by decide),Fc6 PU (by decide),Fc5 PC (by decide),Fc6 PC (by decide),Ge2 LU (by decide),Ge3 LU (by decide)]
 rfl
theorem He7:eb1=true:=by unfold eb1;rw[Bd2];rfl
theorem He8:eb2=true:=by unfold eb2;rw[Bd2];rfl
end Go.Ev.Ce
section
namespace Go.Ev.Ce
open Go Go.Ev Go.Ev.L Go.Proofs
set_option maxRecDepth 100000
structure gf3 where
 l0:List Pln
 e8:Int
 c7:Int
 f0:Int
 d9:Int
structure gf4 where
 is5:Int
structure He9 where
 Uc6:List Pln
 Cf0:List Pt
structure Ie0 where
 is6:Int
end Go.Ev.Ce
end
namespace Go.Ev.L
open Go Go.Ev
noncomputable def mf8:Cod Unit where
 enc _:=.v (.slice none 0 0)
 dec x:=match x with
  | .v (.slice none 0 0)=>some ()
  | _=>none
 grd _:=true
 ok x a hx _:=by
  split at hx
  ·exact .refl _
  ·cases hx
noncomputable def cE0:Cod (Addr×Nat) where
 enc z:=.v (.slice (some z.1) 0 z.2)
 dec x:=match x with
  | .v (.slice (some a) 0 c)=>some (a,c)
  | _=>none
 grd _:=true
 ok x a hx _:=by
  split at hx
  ·cases hx;exact .refl _
  ·cases hx
section
variable {α:Type} {t:Ty α} {P:Program} {G:Nat→List Value} {f:FuncId}
theorem Jd7 {β:Type} {c:Cod β} {k k':β→DT (b7×List b8)} (h:g8 P G f (S5 c k)) (hk:∀ a r,(k' a).run=some r→(k a).run=some r):g8 P G f (S5 c k'):=h.le fun args blks r hr=>by
 unfold S5 at hr ⊢
 split at hr
 ·obtain⟨a,h1,hr⟩:=xa7 hr
  obtain⟨g,hr⟩:=DT.run_guard_some hr
  simp only[h1,onO,g]
  exact hk a r hr
 ·cases hr
theorem mf9 {k:List α→DT (b7×List b8)} (hA:g8 P G f (S5 (qd1 t) fun z=>k (z.1::z.2))) (hN:g8 P G f (S5 mf8 fun _=>k [])) (hE:g8 P G f (S5 cE0 fun _=>k [])):g8 P G f (S5 (Fa1 t) k):=by
 intro args blks r out he W ρ F w args' hH hlen hargs hG
 unfold S5 at he
 split at he
 ·rename_i x
  obtain⟨a,h1,he⟩:=xa7 he
  obtain⟨g1,hk⟩:=DT.run_guard_some he
  have nilCase:∀ v',args'[0]?=some v'→v'=.slice none 0 0→a=[]→zb6 P f∧Calls P f args'.toArray w fun e w'=>∃ r',e=.returned r'∧V6 W ρ [] F w r out r' w':=fun v' hv e ha=>by
   subst ha
   refine hN [.v (.slice none 0 0)] [] r out ?_ W ρ F w args' hH hlen (fun i x' y' hx hy=>?_) hG
   ·exact hk
   ·match i with
    | 0=>cases hx;rw[hv] at hy;cases hy;rw[e];exact .val (.cell (.v _))
    | i+1=>cases hx
  have emptyCase:∀ v' ad c,args'[0]?=some v'→v'=.slice (some ad) 0 c→a=[]→zb6 P f∧Calls P f args'.toArray w fun e w'=>∃ r',e=.returned r'∧V6 W ρ [] F w r out r' w':=fun v' ad c hv e ha=>by
   subst ha
   refine hE [.v (.slice (some ad) 0 c)] [] r out ?_ W ρ F w args' hH hlen (fun i x' y' hx hy=>?_) hG
   ·exact hk
   ·match i with
    | 0=>cases hx;rw[hv] at hy;cases hy;rw[e];exact .val (.cell (.v _))
    | i+1=>cases hx
  obtain⟨v',hv⟩:∃ v',args'[0]?=some v':=by
   cases args' with
   | nil=>simp at hlen
   | cons v' r'=>exact⟨v',rfl⟩
  cases x with
  | tree e n get =>
   have hb:Nat.beq e t.es=true∧a=lsL t n get:=by
    have h1:(Bool.rec none (some (lsL t n get)) (Nat.beq e t.es):Option (List α))=some a:=h1
    cases hb:Nat.beq e t.es with
    | false=>rw[hb] at h1;cases h1
    | true =>
     rw[hb] at h1
     have h1:some (lsL t n get)=some a:=h1
     injection h1 with h1
     exact⟨rfl,h1.symm⟩
   cases n with
   | zero =>
    have ha:a=[]:=hb.2
    have hm:=Ha0 (hargs 0 _ v' rfl hv)
    cases hm with
    | tree _ _ _ ad cap cs hs hcap hes hF hw hr=>exact emptyCase _ ad cap hv rfl ha
    | nil=>exact nilCase _ hv rfl ha
   | succ m =>
    have ha:a=hC t get::tC t m get:=hb.2.trans (Pd5 t m get)
    subst ha
    refine hA [.tree e (m+1) get] [] r out ?_ W ρ F w args' hH hlen hargs hG
    have hc:(qd1 t).dec (.tree e (m+1) get)=some (hC t get,tC t m get):=by
     show (Bool.rec none (some (hC t get,tC t m get)) (Nat.beq e t.es):Option (α×List α))=_
     rw[hb.1]
    have hg:(qd1 t).grd (.tree e (m+1) get)=true:=g1
    simp only[S5,hc,onO,hg]
    exact hk
  | v q =>
   have hq:=ma5 (hargs 0 _ v' rfl hv)
   unfold Fa1 at h1
   simp only at h1
   split at h1
   ·rename_i heq;cases heq
   ·rename_i heq
    injection heq with heq
    injection h1 with h1
    exact nilCase v' hv (hq.trans heq) h1.symm
   ·rename_i ad c heq
    injection heq with heq
    injection h1 with h1
    exact emptyCase v' _ _ hv (hq.trans heq) h1.symm
   ·cases h1
  | _=>cases h1
 ·cases he
end
end Go.Ev.L
section
namespace Go.Ev.Ce
open Go Go.Ev Go.Ev.L Go.Proofs
set_option maxRecDepth 100000
noncomputable def Db3:List (Nat×Sum):=[]
theorem sc4:i4 prog G Db3:=trivial
@[reducible] noncomputable def Lb5:Sum:=i9 (En Db3) ef5
theorem yc6:g8 prog G 231 Lb5:=bd Kf5 sc4
noncomputable def Db4:List (Nat×Sum):=[]
theorem sc5:i4 prog G Db4:=trivial
@[reducible] noncomputable def Lb6:Sum:=i9 (En Db4) ef4
theorem yc7:g8 prog G 230 Lb6:=bd Kf4 sc5
noncomputable def Sb8:List (Nat×Sum):=[(230,Lb6),(231,Lb5)]
theorem Gc6:i4 prog G Sb8:=⟨yc7,yc6,trivial⟩
@[reducible] noncomputable def cc5:Sum:=i9 (En Sb8) df9
theorem Oc1:g8 prog G 178 cc5:=bd If3 Gc6
structure E1 where
noncomputable def ja0:List (Nat×Sum):=[]
theorem Oa0:i4 prog G ja0:=trivial
structure v7 where
structure l9 where
noncomputable def La5 (p:v7) (s:l9):St:=⟨((.v (.slice none 0 0))::((i 0)::((i 0)::((.fn 104 [])::(ra 4 ((i 1)::(ra 44 []))))))),[]⟩
noncomputable def L5 {α:Type} (k:l9→α) (e:Nat→α) (z:α) (p:v7) (s:l9):α:=(e 1)
noncomputable def N5 (p:v7) (s:l9):Stp l9:=L5 .next .exit .fail p s
noncomputable def O5:Lo v7 l9:=⟨En ja0,0,ef3,[1,4,4],[0,1,2,3,8],.p,[⟨((.s (.o .nil))::((.s (.o (.lit .i64 0)))::((.s (.o (.lit .i64 0)))::((.s (.o (.fn 104)))::(ru2 4 ((.s (.o (.lit .i64 1)))::(ru2 44 []))))))),[],fun a H=>(⟨⟩,⟨⟩)⟩],N5,[(some 0,fun p s=>⟨((.v (.slice none 0 0))::((i 0)::((i 0)::((.fn 104 [])::(ra 4 ((i 1)::(ra 3 ((i 1)::((i 0)::((b false)::(ra 38 []))))))))))),[]⟩)],La5⟩
theorem La6:O5.Ok:=Lo.ok [] (by kernel_rfl) .nil rfl (.cons (fun a H=>by kernel_rfl) .nil) fun p s=>(.of @L5 (fun F _ _ _ _ _=>by unfold L5;(repeat' apply j5 (f:=F))<;>rfl) (by kernel_rfl))
structure E2 where
 alt:Nat
noncomputable def p9 {α:Type} (kk:E2→α) (x:E1):α:=let t1:=(lp (N5 (⟨⟩:v7)) (⟨⟩:l9));(sl (Nat.beq t1.1 1) (kk ⟨1⟩) (kk ⟨0⟩))
noncomputable def E3 (x:E1):E2:=p9 (fun r=>r) x
noncomputable def Q6 (x:E1) (r:E2):DT (b7×List b8):=(.ite (Nat.beq r.alt 1) (.ret ((.tup []),[])) .fail)
theorem Sa5 {α β:Type} (F:α→β) (kk:E2→α) (x:E1):F (p9 kk x)=p9 (fun r=>F (kk r)) x:=by unfold p9;(repeat' apply j5 (f:=F))<;>rfl
noncomputable def ma9:Sum:=za8 ⟨[(.s (.o .nil)),(.s (.o (.lit .i64 0))),(.s (.o (.lit .i64 0))),(.s (.o (.fn 104)))],[],fun a H=>(⟨⟩,())⟩ (fun x=>Q6 x (E3 x))
theorem Qa4:g8 prog G 222 ma9:=w7 (enc:=fun x=>⟨[(.v (.slice none 0 0)),(i 0),(i 0),(.fn 104 [])],[]⟩) (fun a H=>by kernel_rfl) (bd Kf3 Oa0) fun x=>Ma1 (.s .p (.b (.u O5.ls))) [O5.pr] (by kernel_rfl) (.cons La6 .nil) (Eq.trans (b:=p9 (fun r=>(Q6 x r).run) x) (by kernel_rfl) (Sa5 (fun r=>(Q6 x r).run) (fun r=>r) x).symm)
structure Q7 where
noncomputable def Ba2:List (Nat×Sum):=[(222,ma9)]
theorem eb3:i4 prog G Ba2:=⟨Qa4,trivial⟩
structure D2 where
structure p8 where
noncomputable def ab2 (p:D2) (s:p8):St:=⟨((.v (.slice none 0 0))::((i 0)::((i 0)::((i 0)::((.fn 104 [])::(ra 5 ((b true)::((b true)::(ra 136 []))))))))),[]⟩
noncomputable def J2 {α:Type} (k:p8→α) (e:Nat→α) (z:α) (p:D2) (s:p8):α:=let t1:=(E3 ⟨⟩);(sl (Nat.beq t1.alt 1) (e 1) z)
noncomputable def K8 (p:D2) (s:p8):Stp p8:=J2 .next .exit .fail p s
noncomputable def Y6:Lo D2 p8:=⟨En Ba2,0,df8,[1,1,4,4],[0,1,2,3,4,10,11],.p,[⟨((.s (.o .nil))::((.s (.o (.lit .i64 0)))::((.s (.o (.lit .i64 0)))::((.s (.o (.lit .i64 0)))::((.s (.o (.fn 104)))::(ru2 5 ((.s (.o (.blit true)))::((.s (.o (.blit true)))::(ru2 136 []))))))))),[],fun a H=>(⟨⟩,⟨⟩)⟩],K8,[(none,fun p s=>⟨[(.tup [])],[]⟩)],ab2⟩
theorem ab3:Y6.Ok:=Lo.ok [] (by kernel_rfl) .nil rfl (.cons (fun a H=>by kernel_rfl) .nil) fun p s=>(.of @J2 (fun F _ _ _ _ _=>by unfold J2;(repeat' apply j5 (f:=F))<;>rfl) (by kernel_rfl))
structure Q8 where
 alt:Nat
noncomputable def A5 {α:Type} (kk:Q8→α) (x:Q7):α:=let t1:=(lp (K8 (⟨⟩:D2)) (⟨⟩:p8));(sl (Nat.beq t1.1 1) (kk ⟨1⟩) (kk ⟨0⟩))
noncomputable def Q9 (x:Q7):Q8:=A5 (fun r=>r) x
noncomputable def aa8 (x:Q7) (r:Q8):DT (b7×List b8):=(.ite (Nat.beq r.alt 1) (.ret ((.tup []),[])) .fail)
theorem jb8 {α β:Type} (F:α→β) (kk:Q8→α) (x:Q7):F (A5 kk x)=A5 (fun r=>F (kk r)) x:=by unfold A5;(repeat' apply j5 (f:=F))<;>rfl
noncomputable def Ea3:Sum:=za8 ⟨[(.s (.o .nil)),(.s (.o (.lit .i64 0))),(.s (.o (.lit .i64 0))),(.s (.o (.lit .i64 0))),(.s (.o (.fn 104)))],[],fun a H=>(⟨⟩,())⟩ (fun x=>aa8 x (Q9 x))
theorem fb9:g8 prog G 177 Ea3:=w7 (enc:=fun x=>⟨[(.v (.slice none 0 0)),(i 0),(i 0),(i 0),(.fn 104 [])],[]⟩) (fun a H=>by kernel_rfl) (bd If2 eb3) fun x=>Ma1 (.s .p (.s .p (.b (.u Y6.ls)))) [Y6.pr] (by kernel_rfl) (.cons ab3 .nil) (Eq.trans (b:=A5 (fun r=>(aa8 x r).run) x) (by kernel_rfl) (jb8 (fun r=>(aa8 x r).run) (fun r=>r) x).symm)
structure fa9 where
noncomputable def Ib7:List (Nat×Sum):=[(177,Ea3),(178,cc5)]
theorem Db5:i4 prog G Ib7:=⟨fb9,Oc1,trivial⟩
structure ga0 where
 alt:Nat
noncomputable def L1 {α:Type} (kk:ga0→α) (x:fa9):α:=let t1:=(Q9 ⟨⟩);(sl (Nat.beq t1.alt 1) (kk ⟨1⟩) (kk ⟨0⟩))
noncomputable def ga1 (x:fa9):ga0:=L1 (fun r=>r) x
noncomputable def va9 (x:fa9) (r:ga0):DT (b7×List b8):=(.ite (Nat.beq r.alt 1) (.ret ((.tup []),[])) .fail)
theorem Pb6 {α β:Type} (F:α→β) (kk:ga0→α) (x:fa9):F (L1 kk x)=L1 (fun r=>F (kk r)) x:=by unfold L1;(repeat' apply j5 (f:=F))<;>rfl
noncomputable def Ua9:Sum:=za8 ⟨[(.s (.o .nil)),(.s (.o (.fn 104)))],[],fun a H=>(⟨⟩,())⟩ (fun x=>va9 x (ga1 x))
theorem Ib8:g8 prog G 103 Ua9:=w7 (enc:=fun x=>⟨[(.v (.slice none 0 0)),(.fn 104 [])],[]⟩) (fun a H=>by kernel_rfl) (bd Ff0 Db5) fun x=>q8 (Eq.trans (b:=L1 (fun r=>(va9 x r).run) x) (by kernel_rfl) (Pb6 (fun r=>(va9 x r).run) (fun r=>r) x).symm)
structure ca5 where
 f9:List Pt
noncomputable def Oa1:List (Nat×Sum):=[]
theorem wb4:i4 prog G Oa1:=trivial
structure M7 where
 f9:List Pt
structure z8 where
noncomputable def sb5 (p:M7) (s:z8):St:=⟨((.v (.slice none 0 0))::((.fn 101 [(.ptr 0 0 0 0)])::(ra 5 ((i 0)::((i 0)::(ra 10 [])))))),[⟨0,1,[[(eL tX p.f9)]],true,false,0⟩]⟩
noncomputable def ha8 {α:Type} (k:z8→α) (e:Nat→α) (z:α) (p:M7) (s:z8):α:=(e 1)
noncomputable def ma1 (p:M7) (s:z8):Stp z8:=ha8 .next .exit .fail p s
noncomputable def pa8:Lo M7 z8:=⟨En Oa1,1,zd7,[1,0,1,4,4],[0,1,7,8],.p,[⟨((.s (.o .nil))::((.fn 101 [(.o (.ptr 0 0 0 0))])::(ru2 5 ((.s (.o (.lit .i64 0)))::((.s (.o (.lit .i64 0)))::(ru2 10 [])))))),[⟨0,1,true,(some [[(.c 4 (nL tX))]])⟩],fun a H=>(⟨(rL tX (slT (rwT (elT H 0) 0) 0))⟩,⟨⟩)⟩],ma1,[(some 0,fun p s=>⟨((.v (.slice none 0 0))::((.fn 101 [(.ptr 0 0 0 0)])::(ra 5 ((i 0)::((i 0)::((b false)::(ra 9 []))))))),[⟨0,1,[[(eL tX p.f9)]],true,false,0⟩]⟩)],sb5⟩
theorem sb6:pa8.Ok:=Lo.ok [] (by kernel_rfl) .nil rfl (.cons (fun a H=>by kernel_rfl) .nil) fun p s=>(.of @ha8 (fun F _ _ _ _ _=>by unfold ha8;(repeat' apply j5 (f:=F))<;>rfl) (by kernel_rfl))
structure ca6 where
 alt:Nat
 f9:List Pt
noncomputable def I8 {α:Type} (kk:ca6→α) (x:ca5):α:=let t1:=(lp (ma1 (⟨(rt tX x.f9)⟩:M7)) (⟨⟩:z8));(sl ((cnE tX x.f9)&&true) (sl (Nat.beq t1.1 1) (kk ⟨1,(rt tX x.f9)⟩) (kk ⟨0,[]⟩)) (kk ⟨0,[]⟩))
noncomputable def wa0 (x:ca5):ca6:=I8 (fun r=>r) x
noncomputable def ua0 (x:ca5) (r:ca6):DT (b7×List b8):=(.ite (Nat.beq r.alt 1) (.ret ((i (-1)),[⟨0,1,[[(eL tX r.f9)]],true,false,0⟩])) .fail)
theorem Ib9 {α β:Type} (F:α→β) (kk:ca6→α) (x:ca5):F (I8 kk x)=I8 (fun r=>F (kk r)) x:=by unfold I8;(repeat' apply j5 (f:=F))<;>rfl
noncomputable def Ra9:Sum:=za8 ⟨[(.s (.o .nil)),(.fn 101 [(.o (.ptr 0 0 0 0))])],[⟨0,1,true,(some [[(.c 4 (nL tX))]])⟩],fun a H=>(⟨(rL tX (slT (rwT (elT H 0) 0) 0))⟩,())⟩ (fun x=>ua0 x (wa0 x))
theorem Db6:g8 prog G 163 Ra9:=w7 (enc:=fun x=>⟨[(.v (.slice none 0 0)),(.fn 101 [(.ptr 0 0 0 0)])],[⟨0,1,[[(eL tX x.f9)]],true,false,0⟩]⟩) (fun a H=>by kernel_rfl) (bd De9 wb4) fun x=>Ma1 (.s .p (.s (.s .p (.b (.u pa8.ls))) .p)) [pa8.pr] (by kernel_rfl) (.cons sb6 .nil) (Eq.trans (b:=I8 (fun r=>(ua0 x r).run) x) (by kernel_rfl) (Ib9 (fun r=>(ua0 x r).run) (fun r=>r) x).symm)
structure Y7 where
 f9:List Pt
noncomputable def wb5:List (Nat×Sum):=[(163,Ra9)]
theorem sb7:i4 prog G wb5:=⟨Db6,trivial⟩
structure Y8 where
 alt:Nat
 f9:List Pt
noncomputable def E6 {α:Type} (kk:Y8→α) (x:Y7):α:=let t1:=(wa0 ⟨(rt tX x.f9)⟩);(sl ((cnE tX x.f9)&&true) (sl (Nat.beq t1.alt 1) (kk ⟨1,t1.f9⟩) (kk ⟨0,[]⟩)) (kk ⟨0,[]⟩))
noncomputable def Y9 (x:Y7):Y8:=E6 (fun r=>r) x
noncomputable def pa9 (x:Y7) (r:Y8):DT (b7×List b8):=(.ite (Nat.beq r.alt 1) (.ret ((.v (.slice none 0 0)),[⟨0,1,[[(eL tX r.f9)]],true,false,0⟩])) .fail)
theorem Db7 {α β:Type} (F:α→β) (kk:Y8→α) (x:Y7):F (E6 kk x)=E6 (fun r=>F (kk r)) x:=by unfold E6;(repeat' apply j5 (f:=F))<;>rfl
noncomputable def Oa2:Sum:=za8 ⟨[(.s (.o .nil)),(.fn 101 [(.o (.ptr 0 0 0 0))])],[⟨0,1,true,(some [[(.c 4 (nL tX))]])⟩],fun a H=>(⟨(rL tX (slT (rwT (elT H 0) 0) 0))⟩,())⟩ (fun x=>pa9 x (Y9 x))
theorem wb6:g8 prog G 99 Oa2:=w7 (enc:=fun x=>⟨[(.v (.slice none 0 0)),(.fn 101 [(.ptr 0 0 0 0)])],[⟨0,1,[[(eL tX x.f9)]],true,false,0⟩]⟩) (fun a H=>by kernel_rfl) (bd b99 sb7) fun x=>Ma1 .p [] (by kernel_rfl) .nil (Eq.trans (b:=E6 (fun r=>(pa9 x r).run) x) (by kernel_rfl) (Db7 (fun r=>(pa9 x r).run) (fun r=>r) x).symm)
structure ja1 where
noncomputable def Pb7:List (Nat×Sum):=[]
theorem Jb0:i4 prog G Pb7:=trivial
structure ja2 where
noncomputable def W5 {α:Type} (kk:ja2→α) (x:ja1):α:=(kk ⟨⟩)
noncomputable def Sb9 (x:ja1):ja2:=W5 (fun r=>r) x
noncomputable def Aa5 (x:ja1) (r:ja2):DT (b7×List b8):=.ret ((.v (.slice none 0 0)),[])
theorem Tb0 {α β:Type} (F:α→β) (kk:ja2→α) (x:ja1):F (W5 kk x)=W5 (fun r=>F (kk r)) x:=by unfold W5;(repeat' apply j5 (f:=F))<;>rfl
noncomputable def Za5:Sum:=za8 ⟨[(.s (.o .nil))],[],fun a H=>(⟨⟩,())⟩ (fun x=>Aa5 x (Sb9 x))
theorem Pb8:g8 prog G 105 Za5:=w7 (enc:=fun x=>⟨[(.v (.slice none 0 0))],[]⟩) (fun a H=>by kernel_rfl) (bd yf1 Jb0) fun x=>Ma1 .p [] (by kernel_rfl) .nil (Eq.trans (b:=W5 (fun r=>(Aa5 x r).run) x) (by kernel_rfl) (Tb0 (fun r=>(Aa5 x r).run) (fun r=>r) x).symm)
noncomputable def ac0:List (Nat×Sum):=[]
theorem Tb1:i4 prog G ac0:=trivial
structure ua7 where
noncomputable def da5 {α:Type} (kk:ua7→α) (x:Unit):α:=(kk ⟨⟩)
noncomputable def ec1 (x:Unit):ua7:=da5 (fun r=>r) x
noncomputable def Ga2 (r:ua7):DT (b7×List b8):=.ret ((.v (.slice none 0 0)),[])
theorem ec2 {α β:Type} (F:α→β) (kk:ua7→α) (x:Unit):F (da5 kk x)=da5 (fun r=>F (kk r)) x:=by unfold da5;(repeat' apply j5 (f:=F))<;>rfl
noncomputable def gb3:Sum:=S5 mf8 (fun x=>Ga2 (ec1 x))
theorem ac4:g8 prog G 100 gb3:=lb0 (bd kf8 Tb1) fun x=>q8 (Eq.trans (b:=da5 (fun r=>(Ga2 r).run) x) (by kernel_rfl) (ec2 (fun r=>(Ga2 r).run) (fun r=>r) x).symm)
noncomputable def ud1:List (Nat×Sum):=[(20,Fa0),(18,qa8),(100,gb3),(99,Oa2),(103,Ua9),(105,Za5)]
theorem ld7:i4 prog G ud1:=⟨Fa6,ta2,ac4,wb6,Ib8,Pb8,trivial⟩
noncomputable def eb4 (x:Unit):Option (b7×List b8):=let t1:=(ga9 []);let t2:=(T0 []);let t4:=(Y9 ⟨(rt tX t2)⟩);let t5:=(ga1 ⟨⟩);(sl (ha0 []) (sl (!t1) (some ((.v (.slice none 0 0)),[])) (sl (T1 []) (sl ((cnE tX t2)&&true) (sl (Nat.beq t4.alt 1) (sl (Nat.beq t5.alt 1) (some ((.v (.slice none 0 0)),[])) none) none) none) none)) none)
noncomputable def ac5 (x:Unit):List Pln:=aa3 (one (r1L tP)) (eb4 x)
noncomputable def ac6 (x:Unit):Bool:=okO (one (r1L tP)) (eb4 x)
noncomputable def Jd8:Sum:=S5 mf8 (fun x=>.guard (ac6 x) (.ret ((one (r1L tP)).enc (ac5 x),[])))
theorem ud2:g8 prog G 25 Jd8:=Pa9 (bd b25 ld7) (one (r1L tP)) (o:=eb4) fun x=>q8 (by kernel_rfl)
noncomputable def ac7:List (Nat×Sum):=[]
theorem Tb2:i4 prog G ac7:=trivial
structure ua8 where
noncomputable def da6 {α:Type} (kk:ua8→α) (x:Addr×Nat):α:=(kk ⟨⟩)
noncomputable def ec3 (x:Addr×Nat):ua8:=da6 (fun r=>r) x
noncomputable def Ga3 (r:ua8):DT (b7×List b8):=.ret ((.sl 0 0 0 0),[⟨50,4,[],true,false,0⟩])
theorem ec4 {α β:Type} (F:α→β) (kk:ua8→α) (x:Addr×Nat):F (da6 kk x)=da6 (fun r=>F (kk r)) x:=by unfold da6;(repeat' apply j5 (f:=F))<;>rfl
noncomputable def gb4:Sum:=S5 cE0 (fun x=>Ga3 (ec3 x))
theorem ac8:g8 prog G 100 gb4:=lb0 (bd kf8 Tb2) fun x=>q8 (Eq.trans (b:=da6 (fun r=>(Ga3 r).run) x) (by kernel_rfl) (ec4 (fun r=>(Ga3 r).run) (fun r=>r) x).symm)
noncomputable def ud3:List (Nat×Sum):=[(20,Fa0),(18,qa8),(100,gb4),(99,va7),(103,ia9),(105,Fa9)]
theorem ld8:i4 prog G ud3:=⟨Fa6,ta2,ac8,Na7,Aa4,Za3,trivial⟩
noncomputable def eb5 (x:Addr×Nat):Option (b7×List b8):=let t1:=(ga9 []);let t2:=(T0 []);let t4:=(I6 ⟨0,[],(rt tX t2)⟩);let t5:=(Y5 ⟨t4.ns0,(app (bL tP (Ra8 (slR tP t4.eh0 0 t4.ns0))) (g9 t4.eh0 t4.ns0))⟩);(sl (ha0 []) (sl (!t1) (some ((.v (.slice none 0 0)),[])) (sl (T1 []) (sl ((cnE tX t2)&&true) (sl (Nat.beq t4.alt 1) (sl (Bool.and (Nat.ble t4.ns0 room) (Bool.and (Nat.ble t4.ns0 (len t4.eh0)) (okS tP t4.eh0 0 t4.ns0))) (sl (Nat.beq t5.alt 1) (some ((.sl 0 0 t5.ns0 0),[⟨50,4,t5.eh0,true,false,0⟩])) none) none) none) none) none)) none)
noncomputable def Gc7 (x:Addr×Nat):List Pln:=aa3 (one (r1L tP)) (eb5 x)
noncomputable def Gc8 (x:Addr×Nat):Bool:=okO (one (r1L tP)) (eb5 x)
noncomputable def Jd9:Sum:=S5 cE0 (fun x=>.guard (Gc8 x) (.ret ((one (r1L tP)).enc (Gc7 x),[])))
theorem ud4:g8 prog G 25 Jd9:=Pa9 (bd b25 ld8) (one (r1L tP)) (o:=eb5) fun x=>q8 (by kernel_rfl)
end Go.Ev.Ce
end
section
namespace Go.Ev.Ce
open Go Go.Ev Go.Ev.L Go.Proofs
set_option maxRecDepth 100000
structure Ie1 where
 is1:Int
structure Ie2 where
 ph:Nat
 is7:Int
 p4:List Int
 c7:Int
 ns6:Nat
 eh1:List (List b7)
structure We9 where
 l0:List Pln
 Oe2:List Pt
 is5:Int
 Cf1:List Pln
structure Xe0 where
 ph:Nat
 is6:Int
 is7:Int
structure Xe1 where
structure Xe2 where
 ph:Nat
 l0:List Pln
 Oe2:List Pt
 is5:Int
 Cf1:List Pln
end Go.Ev.Ce
end
namespace Go.Ev.Ce
open Go Go.Ev Go.Ev.L Go.Proofs
def Va0 (l:List Pln):Prop:=l.Pairwise LtP
theorem Oc2 {x y z:Pln} (h1:LtP x y) (h2:LtP y z):LtP x z:=by unfold LtP at *;omega
theorem ad9 (x:Pln):¬ LtP x x:=by unfold LtP;omega
theorem Kd0 (x y:Pln):LtP x y∨x=y∨LtP y x:=by
 by_cases h1:LtP x y
 ·exact .inl h1
 ·by_cases h2:LtP y x
  ·exact .inr (.inr h2)
  ·refine .inr (.inl ?_)
   unfold LtP at h1 h2
   have e1:x.n.x=y.n.x:=by omega
   have e2:x.n.y=y.n.y:=by omega
   have e3:x.n.z=y.n.z:=by omega
   have e4:x.b=y.b:=by omega
   cases x with | mk n b=>cases y with | mk m c=>cases n;cases m;simp_all
theorem Oc3:∀ {l r:List Pln},Va0 l→Va0 r→(∀ p,p∈l↔p∈r)→l=r
 | [],[],_,_,_=>rfl
 | [],b::r,_,_,h=>by have:=(h b).2 List.mem_cons_self;cases this
 | a::l,[],_,_,h=>by have:=(h a).1 List.mem_cons_self;cases this
 | a::l,b::r,hl,hr,h=>by
  obtain⟨hl1,hl2⟩:=List.pairwise_cons.1 hl
  obtain⟨hr1,hr2⟩:=List.pairwise_cons.1 hr
  have hab:a=b:=by
   rcases List.mem_cons.1 ((h a).1 List.mem_cons_self) with e | h1
   ·exact e
   ·rcases List.mem_cons.1 ((h b).2 List.mem_cons_self) with e | h2
    ·exact e.symm
    ·exact absurd (Oc2 (hr1 a h1) (hl1 b h2)) (ad9 b)
  subst hab
  rw[Oc3 hl2 hr2 fun p=>?_]
  constructor
  ·intro hp
   rcases List.mem_cons.1 ((h p).1 (List.mem_cons_of_mem _ hp)) with e | h1
   ·subst e;exact absurd (hl1 p hp) (ad9 p)
   ·exact h1
  ·intro hp
   rcases List.mem_cons.1 ((h p).2 (List.mem_cons_of_mem _ hp)) with e | h1
   ·subst e;exact absurd (hr1 p hp) (ad9 p)
   ·exact h1
def Kd1:List Pln→Pln→List Pln
 | [],y=>[y]
 | a::l,y=>if Db2 a y < 0 then a::Kd1 l y else if eqP a y then a::l else y::a::l
theorem lc9 (y p:Pln):∀ x,p∈Kd1 x y↔p=y∨p∈x
 | []=>by simp[Kd1]
 | a::l=>by
  unfold Kd1
  have ih:=lc9 y p l
  split
  ·simp only[List.mem_cons,ih]
   constructor
   ·rintro (h | h | h)
    ·exact .inr (.inl h)
    ·exact .inl h
    ·exact .inr (.inr h)
   ·rintro (h | h | h)
    ·exact .inr (.inl h)
    ·exact .inl h
    ·exact .inr (.inr h)
  ·split
   ·rename_i h
    rw[Lb4] at h
    subst h
    simp only[List.mem_cons]
    constructor
    ·exact fun h=>.inr h
    ·rintro (h | h)
     ·exact .inl h
     ·exact h
   ·simp only[List.mem_cons]
theorem Gc9 (y:Pln):∀ {x},Va0 x→Va0 (Kd1 x y)
 | [],_=>List.pairwise_singleton _ _
 | a::l,h=>by
  obtain⟨h1,h2⟩:=List.pairwise_cons.1 h
  unfold Kd1
  split
  ·rename_i hc
   rw[Jd2] at hc
   refine List.pairwise_cons.2 ⟨fun p hp=>?_,Gc9 y h2⟩
   rcases (lc9 y p l).1 hp with e | hp
   ·subst e;exact hc
   ·exact h1 p hp
  ·rename_i hc
   rw[Jd2] at hc
   split
   ·exact h
   ·rename_i hne
    have hlt:LtP y a:=by
     rcases Kd0 y a with h | h | h
     ·exact h
     ·exact absurd ((Lb4 _ _).2 h.symm) hne
     ·exact absurd h hc
    refine List.pairwise_cons.2 ⟨fun p hp=>?_,h⟩
    rcases List.mem_cons.1 hp with e | hp
    ·subst e;exact hlt
    ·exact Oc2 hlt (h1 p hp)
end Go.Ev.Ce
namespace Go.Ev.Ce
open Go Go.Ev Go.Ev.L Go.Proofs
theorem Hc0 {σ:Type} {step:σ→Stp σ} {s:σ} {t:Nat} (h:step s=.exit t):lp step s=(t,s):=by rw[ze1];exact fd3 h
theorem Oc4:Ra8 []=[]:=List.eq_nil_of_length_eq_zero (qc5 [])
theorem Vd8:lean []=[]:=by
 unfold lean
 rw[Jd6,if_pos rfl,List.filter_nil,Oc4]
 rfl
theorem Lf2 (X:List Pt):Y9 ⟨X⟩=⟨1,X⟩:=by
 unfold Y9 E6 wa0 I8
 simp only[l6,j9]
 rw[Hc0 (step:=ma1 ⟨X⟩) (s:=⟨⟩) (t:=1) rfl]
 rfl
theorem Af8:ga1 ⟨⟩=⟨1⟩:=by
 have h1:E3 ⟨⟩=⟨1⟩:=by
  unfold E3 p9
  simp only
  rw[Hc0 (step:=N5 ⟨⟩) (s:=⟨⟩) (t:=1) rfl]
  rfl
 have h2:Q9 ⟨⟩=⟨1⟩:=by
  unfold Q9 A5
  simp only
  rw[Hc0 (step:=K8 ⟨⟩) (s:=⟨⟩) (t:=1) (by
   unfold K8 J2
   simp only[h1]
   rfl)]
  rfl
 unfold ga1 L1
 simp only[h2]
 rfl
theorem Vd9 (x:Unit):eb4 x=some (.v (.slice none 0 0),[]):=by
 have hn:([]:List Pln).length≤1000000000:=by simp
 unfold eb4
 simp only[l6,j9,kc7 hn,kc8 hn,ob4 hn,ob5 hn,Jd6,Lf2,Af8]
 rfl
theorem Wd0 (x:Addr×Nat):Rd (one (r1L tP)) (eb5 x) (fun r=>r=[]):=by
 have hn:([]:List Pln).length≤1000000000:=by simp
 have hX:=Fc3 []
 obtain⟨m,r,e1,e2,e3,e4⟩:=Bd1 [] (pts []) hn (by omega)
 have hr:r=[]:=List.eq_nil_of_length_eq_zero (by simpa using e4)
 subst hr
 have hm:m=0:=by simpa using e2
 subst hm
 obtain⟨m2,r2,k1,k2,k3⟩:=ld6 [] 0 (by simp) hn
 have e1:I6 ⟨0,[],pts []⟩=_:=e1
 unfold eb5
 simp only[l6,j9,kc7 hn,kc8 hn,ob4 hn,ob5 hn,Jd6,e1]
 have hs:app (bL tP (Ra8 (slR tP (bL tP []) 0 0))) (g9 (bL tP []) 0)=bL tP []:=by
  rw[show slR tP (bL tP []) 0 0=[] from rfl,Oc4];rfl
 rw[hs,k1]
 have hfin:r2.take m2=[]:=by rw[k3];rfl
 exact Ge9 (P:=fun r=>r=[]) k2 rfl hfin
noncomputable def ac9 (l:List Pln):List Pln:=lean l
noncomputable def bc0 (l:List Pln):Bool:=decide (l.length≤1000000)
noncomputable def Hc1:Sum:=S5 (Fa1 tP) fun l=>.guard (bc0 l) (.ret ((one (r1L tP)).enc (ac9 l),[]))
theorem ud5:g8 prog G 25 Hc1:=by
 refine mf9 (Jd7 Gc5 fun a r hr=>?_) (Jd7 ud2 fun a r hr=>?_) (Jd7 ud4 fun a r hr=>?_)
 ·obtain⟨p,c⟩:=a
  obtain⟨hg,hr⟩:=DT.run_guard_some hr
  have hl:c.length≤1000000:=by
   have:=of_decide_eq_true hg
   simp only[List.length_cons] at this
   omega
  rw[He5 p c hl,He6 p c hl]
  exact hr
 ·obtain⟨hg,hr⟩:=DT.run_guard_some hr
  have e:ac5 a=lean []:=by unfold ac5;rw[Vd9,Vd8];exact yb8 _ rfl
  have e2:ac6 a=true:=by unfold ac6;rw[Vd9];exact Sb6 (r:=[]) _ rfl
  rw[e,e2]
  exact hr
 ·obtain⟨hg,hr⟩:=DT.run_guard_some hr
  have e:Gc7 a=lean []:=by rw[Vd8];exact (Wd0 a).p
  rw[e,show Gc8 a=true from (Wd0 a).g]
  exact hr
end Go.Ev.Ce
namespace Go.Ev.Ce
def rmZ (p:Pln) (x:Pt):Int:=p.b*x.pw - (p.n.x*x.px+p.n.y*x.py+p.n.z*x.pz)
structure Inr (r:List Pln) (x:Pt):Prop where
 w:0 < x.pw
 h:∀ p∈r,0≤rmZ p x
def ia3 (p:Pln):Pln:=⟨⟨-p.n.x,-p.n.y,-p.n.z⟩,-p.b⟩
theorem Db8 (p:Pln) (x:Pt):rmZ (ia3 p) x=-rmZ p x:=by unfold rmZ ia3;grind
structure Cn (r:List Pln) (x:Pt):Prop extends Inr r x where
 c:∃ p q s,p∈r∧q∈r∧s∈r∧mw p q s≠0∧rmZ p x=0∧rmZ q x=0∧rmZ s x=0
def Bdd (r:List Pln):Prop:=∀ d:V3,d≠⟨0,0,0⟩→∃ p∈r,0 < dot p.n d
def go (x:Pt) (q:Pln) (d:V3):Pt:=⟨x.px*dot q.n d+rmZ q x*d.x,x.py*dot q.n d+rmZ q x*d.y,x.pz*dot q.n d+rmZ q x*d.z,x.pw*dot q.n d⟩
theorem Wd1 (p q:Pln) (x:Pt) (d:V3):rmZ p (go x q d)=dot q.n d*rmZ p x - rmZ q x*dot p.n d:=by simp only[rmZ,go,dot];grind
theorem lb8 {a b c:Int} (hc:0 < c) (h:a*c≤b*c):a≤b:=Int.le_of_mul_le_mul_right h hc
theorem first (x:Pt) (d:V3):∀ r:List Pln,(∀ p∈r,0≤rmZ p x)→(∃ p∈r,0 < dot p.n d)→∃ q∈r,0 < dot q.n d∧∀ p∈r,0 < dot p.n d→rmZ q x*dot p.n d≤rmZ p x*dot q.n d
 | [],_,h=>by obtain⟨p,hp,_⟩:=h;cases hp
 | a::r,hx,h=>by
  by_cases hr:∃ p∈r,0 < dot p.n d
  ·obtain⟨q,hq,h1,h2⟩:=first x d r (fun p hp=>hx p (List.mem_cons_of_mem _ hp)) hr
   by_cases ha:0 < dot a.n d
   ·by_cases hc:rmZ q x*dot a.n d≤rmZ a x*dot q.n d
    ·refine⟨q,List.mem_cons_of_mem _ hq,h1,fun p hp h3=>?_⟩
     rcases List.mem_cons.1 hp with rfl | hp
     ·exact hc
     ·exact h2 p hp h3
    ·refine⟨a,List.mem_cons_self,ha,fun p hp h3=>?_⟩
     rcases List.mem_cons.1 hp with rfl | hp
     ·exact Int.le_refl _
     ·have h4:=h2 p hp h3
      have h5:rmZ a x*dot q.n d < rmZ q x*dot a.n d:=by omega
      have h6:=Int.mul_le_mul_of_nonneg_right h4 (Int.le_of_lt ha)
      have h7:=Int.mul_lt_mul_of_pos_right h5 h3
      have e1:rmZ q x*dot p.n d*dot a.n d=rmZ q x*dot a.n d*dot p.n d:=by grind
      have e2:rmZ a x*dot q.n d*dot p.n d=rmZ a x*dot p.n d*dot q.n d:=by grind
      have e3:rmZ p x*dot q.n d*dot a.n d=rmZ p x*dot a.n d*dot q.n d:=by grind
      refine lb8 h1 ?_
      omega
   ·refine⟨q,List.mem_cons_of_mem _ hq,h1,fun p hp h3=>?_⟩
    rcases List.mem_cons.1 hp with rfl | hp
    ·exact absurd h3 ha
    ·exact h2 p hp h3
  ·have ha : 0 < dot a.n d := by
    obtain⟨p,hp,h3⟩:=h
    rcases List.mem_cons.1 hp with rfl | hp
    ·exact h3
    ·exact absurd ⟨p,hp,h3⟩ hr
   refine⟨a,List.mem_cons_self,ha,fun p hp h3=>?_⟩
   rcases List.mem_cons.1 hp with rfl | hp
   ·exact Int.le_refl _
   ·exact absurd ⟨p,hp,h3⟩ hr
theorem step {r:List Pln} {x:Pt} (hx:Inr r x) (d:V3) (h:∃ p∈r,0 < dot p.n d):∃ q∈r,0 < dot q.n d∧Inr r (go x q d):=by
 obtain⟨q,hq,h1,h2⟩:=first x d r hx.h h
 refine⟨q,hq,h1,⟨Int.mul_pos hx.w h1,fun p hp=>?_⟩⟩
 rw[Wd1]
 have h3:=hx.h p hp
 have h4:=hx.h q hq
 by_cases h5:0 < dot p.n d
 ·have:=h2 p hp h5
  have e:rmZ p x*dot q.n d=dot q.n d*rmZ p x:=Int.mul_comm _ _
  omega
 ·have h6:=Int.mul_nonneg (Int.le_of_lt h1) h3
  have h7:rmZ q x*dot p.n d≤0:=Int.mul_nonpos_of_nonneg_of_nonpos h4 (by omega)
  omega
theorem Ie3 {h q:Pln} {x:Pt} {d:V3} (h1:0≤rmZ q x) (h2:0≤dot h.n d):rmZ h (go x q d)*x.pw≤rmZ h x*(go x q d).pw∨x.pw≤0:=by
 rcases Int.lt_or_le 0 x.pw with hw | hw
 ·left
  rw[Wd1]
  have:=Int.mul_nonneg h1 h2
  have h3:=Int.mul_nonneg this (Int.le_of_lt hw)
  have e:rmZ h x*(go x q d).pw=dot q.n d*rmZ h x*x.pw:=by unfold go;grind
  have e2:(dot q.n d*rmZ h x - rmZ q x*dot h.n d)*x.pw=dot q.n d*rmZ h x*x.pw - rmZ q x*dot h.n d*x.pw:=by grind
  omega
 ·exact .inr hw
def neg (d:V3):V3:=⟨-d.x,-d.y,-d.z⟩
theorem bd0 (a d:V3):dot a (neg d)=-dot a d:=by unfold dot neg;grind
theorem Kd2 {d:V3} (h:d≠⟨0,0,0⟩):neg d≠⟨0,0,0⟩:=fun h'=>h (by
 cases d;unfold neg at h';simp only[V3.mk.injEq] at h' ⊢;omega)
theorem turn (h:Pln) {d:V3} (hd:d≠⟨0,0,0⟩):∃ e,e≠(⟨0,0,0⟩:V3)∧0≤dot h.n e∧∀ a,dot a d=0→dot a e=0:=by
 by_cases h1:0≤dot h.n d
 ·exact⟨d,hd,h1,fun _ h=>h⟩
 ·exact⟨neg d,Kd2 hd,by rw[bd0];omega,fun a h=>by rw[bd0,h];rfl⟩
theorem Xe3 {n:V3} (hn:n≠⟨0,0,0⟩):∃ d,d≠(⟨0,0,0⟩:V3)∧dot n d=0:=by
 by_cases h:n.x=0∧n.y=0
 ·exact⟨⟨1,0,0⟩,by simp,by unfold dot;simp[h.1]⟩
 ·refine⟨⟨n.y,-n.x,0⟩,fun h'=>h ?_,by unfold dot;grind⟩
  simp only[V3.mk.injEq] at h'
  omega
theorem V3.ext' {a b:V3} (h1:a.x=b.x) (h2:a.y=b.y) (h3:a.z=b.z):a=b:=by cases a;cases b;simp_all
theorem Wd2 {m n d:V3} (hm:m≠⟨0,0,0⟩) (h1:dot m d=0) (h2:dot n d≠0):c9 m n≠⟨0,0,0⟩:=fun h=>by
 unfold c9 at h
 simp only[V3.mk.injEq] at h
 obtain⟨c1,c2,c3⟩:=h
 unfold dot at h1 h2
 have e1:m.x*(n.x*d.x+n.y*d.y+n.z*d.z)=0:=by grind
 have e2:m.y*(n.x*d.x+n.y*d.y+n.z*d.z)=0:=by grind
 have e3:m.z*(n.x*d.x+n.y*d.y+n.z*d.z)=0:=by grind
 have k:∀ {a:Int},a*(n.x*d.x+n.y*d.y+n.z*d.z)=0→a=0:=fun h=>(Int.mul_eq_zero.1 h).resolve_right h2
 exact hm (V3.ext' (k e1) (k e2) (k e3))
theorem Tc6 (a b:V3):dot a (c9 a b)=0:=by unfold dot c9;grind
theorem Tc7 (a b:V3):dot b (c9 a b)=0:=by unfold dot c9;grind
theorem Ie4 {p q:Pln} {x:Pt} {d:V3} (h:rmZ p x=0) (h':dot p.n d=0):rmZ p (go x q d)=0:=by rw[Wd1,h,h'];simp
theorem Ie5 (q:Pln) (x:Pt) (d:V3):rmZ q (go x q d)=0:=by rw[Wd1];grind
theorem Af9 {q:Pln} {d:V3} (h:0 < dot q.n d):q.n≠⟨0,0,0⟩:=fun h'=>by rw[h'] at h;unfold dot at h;simp at h
theorem gf5 {a b c u v w:Int} (hu:0 < u) (hv:0 < v) (hw:0 < w) (h1:a*v≤b*u) (h2:b*w≤c*v):a*w≤c*u:=by
 have h3:=Int.mul_le_mul_of_nonneg_right h1 (Int.le_of_lt hw)
 have h4:=Int.mul_le_mul_of_nonneg_right h2 (Int.le_of_lt hu)
 have e1:a*v*w=a*w*v:=by grind
 have e2:b*u*w=b*w*u:=by grind
 have e3:c*v*u=c*u*v:=by grind
 exact lb8 hv (by omega)
theorem Ie6 {r:List Pln} (hb:Bdd r) (h:Pln) {x:Pt} (hx:Inr r x):∃ v,Cn r v∧rmZ h v*x.pw≤rmZ h x*v.pw:=by
 obtain⟨d0,n0,p0,_⟩:=turn h (d:=⟨1,0,0⟩) (by simp)
 obtain⟨q1,m1,k1,i1⟩:=step hx d0 (hb d0 n0)
 have l1:=(Ie3 (h:=h) (x:=x) (hx.h q1 m1) p0).resolve_right (by have:=hx.w;omega)
 obtain⟨e1,ne1,he1⟩:=Xe3 (Af9 k1)
 obtain⟨d1,n1,p1,z1⟩:=turn h ne1
 obtain⟨q2,m2,k2,i2⟩:=step i1 d1 (hb d1 n1)
 have l2:=(Ie3 (h:=h) (x:=go x q1 d0) (i1.h q2 m2) p1).resolve_right (by have:=i1.w;omega)
 have hc:=Wd2 (Af9 k1) (z1 _ he1) (n:=q2.n) (by omega)
 obtain⟨d2,n2,p2,z2⟩:=turn h hc
 obtain⟨q3,m3,k3,i3⟩:=step i2 d2 (hb d2 n2)
 have l3:=(Ie3 (h:=h) (x:=go (go x q1 d0) q2 d1) (i2.h q3 m3) p2).resolve_right (by have:=i2.w;omega)
 have a1:rmZ q1 (go (go x q1 d0) q2 d1)=0:=Ie4 (Ie5 _ _ _) (z1 _ he1)
 refine⟨_,⟨i3,q3,q1,q2,m3,m1,m2,fun h0=>?_,Ie5 _ _ _,Ie4 a1 (z2 _ (Tc6 _ _)),Ie4 (Ie5 _ _ _) (z2 _ (Tc7 _ _))⟩,?_⟩
 ·have:dot q3.n d2=0:=z2 _ h0
  omega
 ·exact gf5 i3.w i2.w hx.w l3 (gf5 i2.w i1.w hx.w l2 l1)
theorem Wa8 {r:List Pln} (hb:Bdd r) {h:Pln} (hv:∀ v,Cn r v→0≤rmZ h v) {x:Pt} (hx:Inr r x):0≤rmZ h x:=by
 obtain⟨v,h1,h2⟩:=Ie6 hb h hx
 have h3:=Int.mul_nonneg (hv v h1) (Int.le_of_lt hx.w)
 exact lb8 h1.w (by rw[Int.zero_mul];omega)
def mid (x y:Pt):Pt:=⟨x.px*y.pw+y.px*x.pw,x.py*y.pw+y.py*x.pw,x.pz*y.pw+y.pz*x.pw,2*(x.pw*y.pw)⟩
theorem Ie7 (p:Pln) (x y:Pt):rmZ p (mid x y)=rmZ p x*y.pw+rmZ p y*x.pw:=by unfold rmZ mid;grind
theorem Inr.mid {r:List Pln} {x y:Pt} (hx:Inr r x) (hy:Inr r y):Inr r (mid x y):=⟨by unfold Ce.mid;exact Int.mul_pos (by decide) (Int.mul_pos hx.w hy.w),fun p hp=>by
 rw[Ie7]
 exact Int.add_nonneg (Int.mul_nonneg (hx.h p hp) (Int.le_of_lt hy.w)) (Int.mul_nonneg (hy.h p hp) (Int.le_of_lt hx.w))⟩
def fe2 (r:List Pln):Prop:=∃ x:Pt,0 < x.pw∧∀ p∈r,0 < rmZ p x
theorem me8 {r:List Pln}:∀ (l:List Pln),(∀ p∈l,p∈r)→(∃ x,Inr r x)→(∀ p∈l,∃ v,Inr r v∧0 < rmZ p v)→∃ x,Inr r x∧∀ p∈l,0 < rmZ p x
 | [],_,h,_=>by obtain⟨x,h⟩:=h;exact⟨x,h,fun p hp=>by cases hp⟩
 | a::l,hl,h,hv=>by
  obtain⟨x,h1,h2⟩:=me8 l (fun p hp=>hl p (List.mem_cons_of_mem _ hp)) h (fun p hp=>hv p (List.mem_cons_of_mem _ hp))
  obtain⟨y,h3,h4⟩:=hv a List.mem_cons_self
  refine⟨mid x y,h1.mid h3,fun p hp=>?_⟩
  rw[Ie7]
  rcases List.mem_cons.1 hp with rfl | hp
  ·have:=Int.mul_nonneg (h1.h p (hl p List.mem_cons_self)) (Int.le_of_lt h3.w)
   have:=Int.mul_pos h4 h1.w
   omega
  ·have:=Int.mul_pos (h2 p hp) h3.w
   have:=Int.mul_nonneg (h3.h p (hl p (List.mem_cons_of_mem _ hp))) (Int.le_of_lt h1.w)
   omega
theorem Ie8 {r:List Pln} (hb:Bdd r) (h0:r≠[]):fe2 r↔∀ p∈r,∃ v,Cn r v∧0 < rmZ p v:=by
 constructor
 ·intro ⟨x,hw,hx⟩ p hp
  by_cases h:∃ v,Cn r v∧0 < rmZ p v
  ·exact h
  ·have hx':Inr r x:=⟨hw,fun q hq=>Int.le_of_lt (hx q hq)⟩
   have:=Wa8 hb (h:=ia3 p) (fun v hv=>by
    rw[Db8]
    have:¬ 0 < rmZ p v:=fun h'=>h ⟨v,hv,h'⟩
    omega) hx'
   rw[Db8] at this
   have:=hx p hp
   omega
 ·intro h
  obtain⟨p,hp⟩:=List.exists_mem_of_ne_nil r h0
  obtain⟨v,hv,_⟩:=h p hp
  obtain⟨x,h1,h2⟩:=me8 r (fun _ h=>h) ⟨v,hv.toInr⟩ fun p hp=>by
   obtain⟨v,hv,h⟩:=h p hp
   exact⟨v,hv.toInr,h⟩
  exact⟨x,h1.w,h2⟩
structure Eqv (x v:Pt):Prop where
 e1:x.px*v.pw=v.px*x.pw
 e2:x.py*v.pw=v.py*x.pw
 e3:x.pz*v.pw=v.pz*x.pw
theorem Eqv.rm {x v:Pt} (h:Eqv x v) (p:Pln):rmZ p x*v.pw=rmZ p v*x.pw:=by
 obtain⟨e1,e2,e3⟩:=h
 unfold rmZ
 grind
theorem Eqv.inr {r:List Pln} {x v:Pt} (h:Eqv x v) (hw:0 < x.pw) (hv:Inr r v):Inr r x:=⟨hw,fun p hp=>by
 have:=h.rm p
 have h2:=Int.mul_nonneg (hv.h p hp) (Int.le_of_lt hw)
 exact lb8 hv.w (by rw[Int.zero_mul];omega)⟩
end Go.Ev.Ce
namespace Go.Ev.Ce
open Go Go.Ev Go.Ev.L Go.Proofs
theorem Wd3 {p:Pln} {x:Pt} (hp:Bd p) (hx:Okx x):rm p x=rmZ p x:=by
 unfold rm rmZ
 obtain⟨w1,w2,⟨a1,a2⟩,⟨a3,a4⟩,a5,a6⟩:=hx
 have h0:=mb hp.b1 hp.b2 (show -600000000000≤x.pw by omega) w2
 have h1:=mb hp.x1 hp.x2 a1 a2
 have h2:=mb hp.y1 hp.y2 a3 a4
 have h3:=mb hp.z1 hp.z2 a5 a6
 exact na5 (by omega) (by omega)
theorem me9 {r:List Pln} (hb:Bds r) {x:Pt} (hx:Okx x):inn r x=true↔Inr r x:=by
 unfold inn
 rw[List.all_eq_true]
 constructor
 ·intro h
  refine⟨hx.w1,fun p hp=>?_⟩
  have:=h p hp
  rw[Wd3 (hb p hp) hx] at this
  simpa using this
 ·intro h p hp
  rw[Wd3 (hb p hp) hx]
  simpa using h.h p hp
theorem Ie9 {p q s:Pln} (h:(mpt p q s).2=true):mw p q s≠0∧∃ k:Int,k≠0∧k*(mpt p q s).1.px=(mv p q s).x∧k*(mpt p q s).1.py=(mv p q s).y∧k*(mpt p q s).1.pz=(mv p q s).z∧k*(mpt p q s).1.pw=mw p q s:=by
 unfold mpt at h ⊢
 by_cases h0:mw p q s=0
 ·rw[if_pos h0] at h;cases h
 refine⟨h0,?_⟩
 have hg:=Hd7 (v:=mv p q s) h0
 have dv:∀ {x:Int},(gc (mv p q s) (mw p q s))∣x→gc (mv p q s) (mw p q s)*Int.tdiv x (gc (mv p q s) (mw p q s))=x:=fun h=>Int.mul_tdiv_cancel' h
 have d1:gc (mv p q s) (mw p q s)∣(mv p q s).x:=by
  rw[← Int.dvd_natAbs];exact Int.natCast_dvd_natCast.2 (Nat.dvd_trans (Nat.gcd_dvd_left _ _) (Nat.gcd_dvd_left _ _))
 have d2:gc (mv p q s) (mw p q s)∣(mv p q s).y:=by
  rw[← Int.dvd_natAbs];exact Int.natCast_dvd_natCast.2 (Nat.dvd_trans (Nat.gcd_dvd_left _ _) (Nat.gcd_dvd_right _ _))
 have d3:gc (mv p q s) (mw p q s)∣(mv p q s).z:=by
  rw[← Int.dvd_natAbs];exact Int.natCast_dvd_natCast.2 (Nat.dvd_trans (Nat.gcd_dvd_right _ _) (Nat.gcd_dvd_left _ _))
 have d4:gc (mv p q s) (mw p q s)∣mw p q s:=by
  rw[← Int.dvd_natAbs];exact Int.natCast_dvd_natCast.2 (Nat.dvd_trans (Nat.gcd_dvd_right _ _) (Nat.gcd_dvd_right _ _))
 rw[if_neg h0]
 by_cases h1:mw p q s < 0
 ·rw[if_pos h1]
  have e:∀ {x:Int},(gc (mv p q s) (mw p q s))∣x→-(gc (mv p q s) (mw p q s))*Int.tdiv (-x) (gc (mv p q s) (mw p q s))=x:=fun {x} h=>by
   rw[Int.neg_mul,dv ((Int.dvd_neg).2 h),Int.neg_neg]
  exact⟨-(gc (mv p q s) (mw p q s)),by omega,e d1,e d2,e d3,e d4⟩
 ·rw[if_neg h1]
  exact⟨gc (mv p q s) (mw p q s),by omega,dv d1,dv d2,dv d3,dv d4⟩
theorem Je0 {p q s:Pln} (h:(mpt p q s).2=true):rmZ p (mpt p q s).1=0∧rmZ q (mpt p q s).1=0∧rmZ s (mpt p q s).1=0:=by
 obtain⟨_,k,hk,e1,e2,e3,e4⟩:=Ie9 h
 generalize (mpt p q s).1=x at *
 have f:∀ a:Pln,a.b*mw p q s - (a.n.x*(mv p q s).x+a.n.y*(mv p q s).y+a.n.z*(mv p q s).z)=0→rmZ a x=0:=fun a ha=>by
  rw[← e1,← e2,← e3,← e4] at ha
  have:k*rmZ a x=0:=by rw[← ha];unfold rmZ;grind
  exact (Int.mul_eq_zero.1 this).resolve_left hk
 refine⟨f p ?_,f q ?_,f s ?_⟩<;>(simp only[mw,mv,dot,c9];grind)
theorem Xe4 {p q s:Pln} (h:mw p q s≠0):(mpt p q s).2=true:=by
 unfold mpt
 rw[if_neg h]
 split<;>rfl
theorem Je1 {p q s:Pln} {x:Pt} (h1:rmZ p x=0) (h2:rmZ q x=0) (h3:rmZ s x=0):mw p q s*x.px=(mv p q s).x*x.pw∧mw p q s*x.py=(mv p q s).y*x.pw∧mw p q s*x.pz=(mv p q s).z*x.pw:=by
 have i1:(mv p q s).x*x.pw - mw p q s*x.px=(c9 q.n s.n).x*rmZ p x+(c9 s.n p.n).x*rmZ q x+(c9 p.n q.n).x*rmZ s x:=by simp only[mw,mv,dot,c9,rmZ];grind
 have i2:(mv p q s).y*x.pw - mw p q s*x.py=(c9 q.n s.n).y*rmZ p x+(c9 s.n p.n).y*rmZ q x+(c9 p.n q.n).y*rmZ s x:=by simp only[mw,mv,dot,c9,rmZ];grind
 have i3:(mv p q s).z*x.pw - mw p q s*x.pz=(c9 q.n s.n).z*rmZ p x+(c9 s.n p.n).z*rmZ q x+(c9 p.n q.n).z*rmZ s x:=by simp only[mw,mv,dot,c9,rmZ];grind
 rw[h1,h2,h3] at i1 i2 i3
 simp only[Int.mul_zero,Int.add_zero] at i1 i2 i3
 omega
theorem nf3 {p q s:Pln} {x v:Pt} (h:mw p q s≠0) (h1:rmZ p x=0) (h2:rmZ q x=0) (h3:rmZ s x=0) (k1:rmZ p v=0) (k2:rmZ q v=0) (k3:rmZ s v=0):Eqv x v:=by
 obtain⟨a1,a2,a3⟩:=Je1 h1 h2 h3
 obtain⟨c1,c2,c3⟩:=Je1 k1 k2 k3
 have f:∀ {a c m:Int},mw p q s*a=m*x.pw→mw p q s*c=m*v.pw→a*v.pw=c*x.pw:=fun {a c m} ha hc=>by
  have:mw p q s*(a*v.pw - c*x.pw)=0:=by grind
  have:=(Int.mul_eq_zero.1 this).resolve_left h
  omega
 exact⟨f a1 c1,f a2 c2,f a3 c3⟩
theorem ue3 {r:List Pln} {p q:Pln} {out:List Pt} {s:Pln} {x:Pt} (h:x∈out):x∈Za2 r p q out s:=by
 unfold Za2
 split
 ·exact List.mem_append_left _ h
 ·exact h
theorem ld9 {r:List Pln} {p q:Pln} {x:Pt}:∀ {l:List Pln} {out:List Pt},x∈out→x∈Yb4 r p q l out
 | [],_,h=>h
 | s::l,out,h=>ld9 (l:=l) (out:=Za2 r p q out s) (ue3 h)
theorem Hc2 {r:List Pln} {p:Pln} {x:Pt}:∀ {l:List Pln} {out:List Pt},x∈out→x∈Hb9 r p l out
 | [],_,h=>h
 | _::l,_,h=>Hc2 (l:=l) (ld9 h)
theorem Wd4 {r:List Pln} {x:Pt}:∀ {l:List Pln} {out:List Pt},x∈out→x∈Mc9 r l out
 | [],_,h=>h
 | _::l,_,h=>Wd4 (l:=l) (Hc2 h)
theorem ue4 {r:List Pln} {p q:Pln} {out:List Pt} {s:Pln} (h1:(mpt p q s).2=true) (h2:inn r (mpt p q s).1=true):(mpt p q s).1∈Za2 r p q out s:=by
 unfold Za2
 rw[h1,h2]
 cases h:rc9 out (mpt p q s).1 with
 | true=>simpa using (Td0 _ _).1 h
 | false=>simp
theorem md0 {r:List Pln} {p q s:Pln} (h1:(mpt p q s).2=true) (h2:inn r (mpt p q s).1=true):∀ {l:List Pln} {out:List Pt},s∈l→(mpt p q s).1∈Yb4 r p q l out
 | [],_,h=>by cases h
 | t::l,out,h=>by
  show _∈Yb4 r p q l (Za2 r p q out t)
  rcases List.mem_cons.1 h with rfl | h
  ·exact ld9 (ue4 h1 h2)
  ·exact md0 h1 h2 h
structure Hit (r:List Pln) (Q:Pt→Prop) (p q s:Pln):Prop where
 h1:(mpt p q s).2=true
 h2:inn r (mpt p q s).1=true
 h3:Q (mpt p q s).1
theorem Wd5 {r:List Pln} {Q:Pt→Prop} {p q s:Pln} (hq:Hit r Q p q s) (hs:Hit r Q p s q) (hne:q≠s):∀ {l:List Pln} {out:List Pt},q∈l→s∈l→∃ x∈Hb9 r p l out,Q x
 | [],_,h,_=>by cases h
 | t::l,out,hql,hsl=>by
  show ∃ x∈Hb9 r p l (Yb4 r p t l out),Q x
  rcases List.mem_cons.1 hql with rfl | h1
  ·have h2:=(List.mem_cons.1 hsl).resolve_left fun h=>hne h.symm
   exact⟨_,Hc2 (md0 hq.h1 hq.h2 h2),hq.h3⟩
  ·rcases List.mem_cons.1 hsl with rfl | h2
   ·exact⟨_,Hc2 (md0 hs.h1 hs.h2 h1),hs.h3⟩
   ·exact Wd5 hq hs hne (l:=l) h1 h2
theorem Wd6 {r : List Pln} {Q : Pt → Prop} {p q s : Pln} (H : ∀ a c d, (a = p ∨ a = q ∨ a = s) → (c = p ∨ c = q ∨ c = s) → (d = p ∨ d = q ∨ d = s) → a ≠ c → c ≠ d → a ≠ d → Hit r Q a c d) (h1 : p ≠ q) (h2 : q ≠ s) (h3 : p ≠ s) :
  ∀ {l:List Pln} {out:List Pt},p∈l→q∈l→s∈l→∃ x∈Mc9 r l out,Q x
 | [],_,h,_,_=>by cases h
 | t::l,out,hp,hq,hs=>by
  have fin:∀ {a c d:Pln} {out:List Pt},(a=p∨a=q∨a=s)→(c=p∨c=q∨c=s)→(d=p∨d=q∨d=s)→a≠c→c≠d→a≠d→c∈l→d∈l→∃ x∈Mc9 r l (Hb9 r a l out),Q x:=fun ha hc hd n1 n2 n3 m1 m2=>by
   obtain⟨x,hx,hQ⟩:=Wd5 (H _ _ _ ha hc hd n1 n2 n3) (H _ _ _ ha hd hc n3 n2.symm n1) n2 (out:=_) m1 m2
   exact⟨x,Wd4 hx,hQ⟩
  show ∃ x∈Mc9 r l (Hb9 r t l out),Q x
  rcases List.mem_cons.1 hp with rfl | hp'
  ·exact fin (.inl rfl) (.inr (.inl rfl)) (.inr (.inr rfl)) h1 h2 h3 ((List.mem_cons.1 hq).resolve_left (Ne.symm h1)) ((List.mem_cons.1 hs).resolve_left (Ne.symm h3))
  ·rcases List.mem_cons.1 hq with rfl | hq'
   ·exact fin (.inr (.inl rfl)) (.inl rfl) (.inr (.inr rfl)) (Ne.symm h1) h3 h2 hp' ((List.mem_cons.1 hs).resolve_left (Ne.symm h2))
   ·rcases List.mem_cons.1 hs with rfl | hs'
    ·exact fin (.inr (.inr rfl)) (.inl rfl) (.inr (.inl rfl)) (Ne.symm h3) h1 (Ne.symm h2) hp' hq'
    ·exact Wd6 H h1 h2 h3 hp' hq' hs'
theorem Bf0 {p q s:Pln} (h:mw p q s≠0):p≠q∧q≠s∧p≠s:=by
 refine⟨fun e=>h ?_,fun e=>h ?_,fun e=>h ?_⟩<;>(subst e;simp only[mw,dot,c9];grind)
theorem Je2 {r:List Pln} (hb:Bds r):∀ x∈cor r,Cn r x:=Id6 fun p hp q hq s hs h hi=>by
 obtain⟨w1,w2,w3,w4,w5⟩:=Hd8 (hb p hp) (hb q hq) (hb s hs) h
 obtain⟨e1,e2,e3⟩:=Je0 h
 exact⟨(me9 hb ⟨w1,w5,w2,w3,w4⟩).1 hi,p,q,s,hp,hq,hs,(Ie9 h).1,e1,e2,e3⟩
theorem fe3 {r:List Pln} (hb:Bds r) {v:Pt} (hv:Cn r v):∃ x∈cor r,Eqv x v:=by
 obtain⟨p,q,s,hp,hq,hs,hw,e1,e2,e3⟩:=hv.c
 obtain⟨n1,n2,n3⟩:=Bf0 hw
 refine Wd6 (fun a c d ha hc hd m1 m2 m3=>?_) n1 n2 n3 hp hq hs
 have hm:∀ {a},(a=p∨a=q∨a=s)→a∈r∧rmZ a v=0:=fun h=>by
  rcases h with rfl | rfl | rfl
  ·exact⟨hp,e1⟩
  ·exact⟨hq,e2⟩
  ·exact⟨hs,e3⟩
 have hw':mw a c d≠0:=by
  have k:mw a c d=mw p q s∨mw a c d=-mw p q s:=by
   rcases ha with rfl | rfl | rfl<;>rcases hc with rfl | rfl | rfl<;>rcases hd with rfl | rfl | rfl<;>first | exact absurd rfl m1 | exact absurd rfl m2 | exact absurd rfl m3 | exact .inl rfl | (left;simp only[mw,dot,c9];grind;done) | (right;simp only[mw,dot,c9];grind;done)
  rcases k with k | k<;>omega
 have h:=Xe4 hw'
 obtain⟨w1,w2,w3,w4,w5⟩:=Hd8 (hb a (hm ha).1) (hb c (hm hc).1) (hb d (hm hd).1) h
 obtain⟨f1,f2,f3⟩:=Je0 h
 have he:=nf3 hw' f1 f2 f3 (hm ha).2 (hm hc).2 (hm hd).2
 exact⟨h,(me9 hb ⟨w1,w5,w2,w3,w4⟩).2 (he.inr w1 hv.toInr),he⟩
theorem Je3 (c:List Pln):Bdd (c++ws):=fun d hd=>by
 have k:∀ {n:V3} {m:Int},(⟨n,m⟩:Pln)∈ws→0 < dot n d→∃ p∈c++ws,0 < dot p.n d:=fun h h'=>⟨_,List.mem_append_right _ h,h'⟩
 by_cases h1:0 < d.x
 ·exact k (n:=⟨1,0,0⟩) (m:=24) (by simp[ws]) (by unfold dot;simp;omega)
 by_cases h2:d.x < 0
 ·exact k (n:=⟨-1,0,0⟩) (m:=24) (by simp[ws]) (by unfold dot;simp;omega)
 by_cases h3:0 < d.y
 ·exact k (n:=⟨0,1,0⟩) (m:=24) (by simp[ws]) (by unfold dot;simp;omega)
 by_cases h4:d.y < 0
 ·exact k (n:=⟨0,-1,0⟩) (m:=24) (by simp[ws]) (by unfold dot;simp;omega)
 by_cases h5:0 < d.z
 ·exact k (n:=⟨0,0,1⟩) (m:=24) (by simp[ws]) (by unfold dot;simp;omega)
 by_cases h6:d.z < 0
 ·exact k (n:=⟨0,0,-1⟩) (m:=24) (by simp[ws]) (by unfold dot;simp;omega)
 exact absurd (V3.ext' (by show d.x=0;omega) (by show d.y=0;omega) (by show d.z=0;omega)) hd
theorem ne0 {r:List Pln} (hb:Bds r) {p:Pln} (hp:Bd p):pos (cor r) p=true↔∃ v,Cn r v∧0 < rmZ p v:=by
 unfold pos
 rw[List.any_eq_true]
 constructor
 ·rintro⟨x,hx,h⟩
  rw[Wd3 hp (qc1 hb x hx)] at h
  exact⟨x,Je2 hb x hx,by simpa using h⟩
 ·rintro⟨v,hv,h⟩
  obtain⟨x,hx,he⟩:=fe3 hb hv
  refine⟨x,hx,?_⟩
  rw[Wd3 hp (qc1 hb x hx)]
  have h1:=he.rm p
  have h2:=Int.mul_pos h (qc1 hb x hx).w1
  have:0 < rmZ p x:=Int.lt_of_mul_lt_mul_right (by rw[Int.zero_mul];omega:0*v.pw < rmZ p x*v.pw) (Int.le_of_lt hv.w)
  simpa using this
theorem ue5 {r:List Pln} (hb:Bds r) (hd:Bdd r) (h0:r≠[]):ee4 r=true↔fe2 r:=by
 rw[Ie8 hd h0]
 unfold ee4
 rw[List.all_eq_true]
 exact⟨fun h p hp=>(ne0 hb (hb p hp)).1 (h p hp),fun h p hp=>(ne0 hb (hb p hp)).2 (h p hp)⟩
end Go.Ev.Ce
namespace Go.Ev.Ce
def dv (z v:Pt):V3:=⟨v.px*z.pw - z.px*v.pw,v.py*z.pw - z.py*v.pw,v.pz*z.pw - z.pz*v.pw⟩
def thr (n:V3) (z:Pt):Pln:=⟨⟨z.pw*n.x,z.pw*n.y,z.pw*n.z⟩,n.x*z.px+n.y*z.py+n.z*z.pz⟩
theorem Je4 (n:V3) (z x:Pt):rmZ (thr n z) x=-dot n (dv z x):=by simp only[rmZ,thr,dot,dv];grind
theorem Je5 {p:Pln} {z v:Pt} (hz:rmZ p z≠0) (hv:rmZ p v=0) (hw:0 < v.pw):dv z v≠⟨0,0,0⟩:=fun h=>by
 unfold dv at h
 simp only[V3.mk.injEq] at h
 obtain⟨e1,e2,e3⟩:=h
 have:rmZ p z*v.pw=rmZ p v*z.pw:=by unfold rmZ;grind
 rw[hv,Int.zero_mul] at this
 exact (Int.mul_eq_zero.1 this).elim hz (by omega)
theorem nf4 {p:Pln} {z:Pt} (hz:rmZ p z≠0):∀ l:List Pt,l.length≤2→(∀ v∈l,rmZ p v=0∧0 < v.pw)→∃ n,n≠(⟨0,0,0⟩:V3)∧∀ v∈l,dot n (dv z v)=0
 | [],_,_=>⟨⟨1,0,0⟩,by simp,fun v h=>by cases h⟩
 | [v],_,h=>by
  obtain⟨h1,h2⟩:=h v (by simp)
  obtain⟨d,hd,he⟩:=Xe3 (Je5 hz h1 h2)
  exact⟨d,hd,fun u hu=>by rw[List.mem_singleton.1 hu,← he];unfold dot;grind⟩
 | [v,u],_,h=>by
  obtain⟨h1,h2⟩:=h v (by simp)
  by_cases hc:c9 (dv z v) (dv z u)=⟨0,0,0⟩
  ·obtain⟨d,hd,he⟩:=Xe3 (Je5 hz h1 h2)
   have hu:dot (dv z u) d=0:=by
    by_cases h0:dot (dv z u) d=0
    ·exact h0
    ·exact absurd hc (Wd2 (Je5 hz h1 h2) he h0)
   refine⟨d,hd,fun x hx=>?_⟩
   simp only[List.mem_cons,List.not_mem_nil,or_false] at hx
   rcases hx with rfl | rfl
   ·rw[← he];unfold dot;grind
   ·rw[← hu];unfold dot;grind
  ·refine⟨_,hc,fun x hx=>?_⟩
   simp only[List.mem_cons,List.not_mem_nil,or_false] at hx
   rcases hx with rfl | rfl
   ·rw[← Tc6 (dv z x) (dv z u)];unfold dot;grind
   ·rw[← Tc7 (dv z v) (dv z x)];unfold dot;grind
 | _::_::_::_,h,_=>by simp at h
def nf5 (p:Pln) (z v:Pt):Pt:=⟨rmZ p v*z.px - rmZ p z*v.px,rmZ p v*z.py - rmZ p z*v.py,rmZ p v*z.pz - rmZ p z*v.pz,rmZ p v*z.pw - rmZ p z*v.pw⟩
theorem Kd3 (p q:Pln) (z v:Pt):rmZ q (nf5 p z v)=rmZ p v*rmZ q z - rmZ p z*rmZ q v:=by
 generalize ha:rmZ p v=a
 generalize hb:rmZ p z=c
 simp only[rmZ,nf5] at *
 rw[ha,hb]
 grind
theorem Je6 {r:List Pln} (hb:Bdd r) (hB:fe2 r) {h:Pln} (hn:h.n≠⟨0,0,0⟩):¬ ∀ x,Inr r x→rmZ h x=0:=fun H=>by
 obtain⟨x,hw,hx⟩:=hB
 have hi:Inr r x:=⟨hw,fun p hp=>Int.le_of_lt (hx p hp)⟩
 obtain⟨q,hq,h1,h2⟩:=step hi h.n (hb h.n hn)
 have h3:=H _ h2
 rw[Wd1,H _ hi] at h3
 have h4:=hx q hq
 have h5:0 < dot h.n h.n:=by
  have k:∀ a:Int,a≠0→0 < a*a:=fun a ha=>by
   rcases Int.lt_or_gt_of_ne ha with h | h
   ·exact Int.mul_pos_of_neg_of_neg h h
   ·exact Int.mul_pos h h
  have k0:∀ a:Int,0≤a*a:=fun a=>by
   by_cases h:a=0
   ·subst h;decide
   ·exact Int.le_of_lt (k a h)
  have a1:=k0 h.n.x;have a2:=k0 h.n.y;have a3:=k0 h.n.z
  unfold dot
  by_cases c1:h.n.x=0
  ·by_cases c2:h.n.y=0
   ·have:=k h.n.z (fun c3=>hn (V3.ext' c1 c2 c3));omega
   ·have:=k _ c2;omega
  ·have:=k _ c1;omega
 have:=Int.mul_pos h4 h5
 omega
theorem Bf1 {r r' : List Pln} {p : Pln} (hb : Bdd r) (hB : fe2 r) (hp : p ∈ r) (hr : ∀ q ∈ r, q ∈ r' ∨ q = p)
  (l:List Pt) (hl:l.length≤2) (hl0:∀ v∈l,rmZ p v=0∧0 < v.pw) (hc:∀ v,Cn r v→rmZ p v=0→∃ x∈l,Eqv x v) {z:Pt} (hz:Inr r' z):Inr r z:=by
 by_cases h0:0≤rmZ p z
 ·exact⟨hz.w,fun q hq=>(hr q hq).elim (hz.h q) fun e=>e ▸ h0⟩
 exfalso
 have hneg:rmZ p z < 0:=by omega
 obtain⟨n,hn,hv⟩:=nf4 (p:=p) (z:=z) (by omega) l hl hl0
 have hn':(thr n z).n≠⟨0,0,0⟩:=fun e=>hn (by
  unfold thr at e
  simp only[V3.mk.injEq] at e
  have k:∀ {a:Int},z.pw*a=0→a=0:=fun h=>(Int.mul_eq_zero.1 h).resolve_left (by have:=hz.w;omega)
  exact V3.ext' (k e.1) (k e.2.1) (k e.2.2))
 -- the face lies in that plane
 have hface:∀ u,Inr r u→rmZ p u=0→rmZ (thr n z) u=0:=fun u hu hu0=>by
  have hbd:Bdd (ia3 p::r):=fun d hd=>by
   obtain⟨q,hq,h⟩:=hb d hd
   exact⟨q,List.mem_cons_of_mem _ hq,h⟩
  have hiu:Inr (ia3 p::r) u:=⟨hu.w,fun q hq=>by
   rcases List.mem_cons.1 hq with rfl | hq
   ·rw[Db8,hu0];decide
   ·exact hu.h q hq⟩
  have hvx:∀ v,Cn (ia3 p::r) v→rmZ (thr n z) v=0:=fun v hcv=>by
   have hir:Inr r v:=⟨hcv.w,fun q hq=>hcv.h q (List.mem_cons_of_mem _ hq)⟩
   have hp0:rmZ p v=0:=by
    have h1:=hcv.h (ia3 p) List.mem_cons_self
    rw[Db8] at h1
    have h2:=hir.h p hp
    omega
   obtain⟨a,c,d,ha,hc',hd,hw,e1,e2,e3⟩:=hcv.c
   -- a plane that is turned round gives the same Ie6
   have fl:∀ {a c d:Pln},mw (ia3 a) c d=-mw a c d∧mw c (ia3 a) d=-mw c a d∧mw c d (ia3 a)=-mw c d a:=fun {a c d}=>by
    refine⟨?_,?_,?_⟩<;>(simp only[mw,dot,c9,ia3];grind)
   have hr0:∀ {a:Pln},rmZ (ia3 a) v=0→rmZ a v=0:=fun h=>by rw[Db8] at h;omega
   have hcn:Cn r v:=by
    refine⟨hir,?_⟩
    rcases List.mem_cons.1 ha with rfl | ha<;>rcases List.mem_cons.1 hc' with rfl | hc'<;>rcases List.mem_cons.1 hd with rfl | hd
    ·exact absurd (by simp only[mw,dot,c9];grind) hw
    ·exact absurd (by simp only[mw,dot,c9];grind) hw
    ·exact absurd (by simp only[mw,dot,c9];grind) hw
    ·exact⟨p,c,d,hp,hc',hd,by have:=(fl (a:=p) (c:=c) (d:=d)).1;omega,hp0,e2,e3⟩
    ·exact absurd (by simp only[mw,dot,c9];grind) hw
    ·exact⟨a,p,d,ha,hp,hd,by have:=(fl (a:=p) (c:=a) (d:=d)).2.1;omega,e1,hp0,e3⟩
    ·exact⟨a,c,p,ha,hc',hp,by have:=(fl (a:=p) (c:=a) (d:=c)).2.2;omega,e1,e2,hp0⟩
    ·exact⟨a,c,d,ha,hc',hd,hw,e1,e2,e3⟩
   obtain⟨x,hx,he⟩:=hc v hcn hp0
   have h1:=he.rm (thr n z)
   rw[Je4 n z x,hv x hx] at h1
   have h1:rmZ (thr n z) v*x.pw=0:=by omega
   exact (Int.mul_eq_zero.1 h1).resolve_right (by have:=(hl0 x hx).2;omega)
  have a1:=Wa8 hbd (h:=thr n z) (fun v hv=>by rw[hvx v hv];decide) hiu
  have a2:=Wa8 hbd (h:=ia3 (thr n z)) (fun v hv=>by rw[Db8,hvx v hv];decide) hiu
  rw[Db8] at a2
  omega
 -- so do all vertices
 have hall:∀ v,Inr r v→rmZ (thr n z) v=0:=fun v hi=>by
  by_cases hv0:rmZ p v=0
  ·exact hface v hi hv0
  have hvp:0 < rmZ p v:=by have:=hi.h p hp;omega
  have hu:Inr r (nf5 p z v):=by
   have w1:=Int.mul_pos hvp hz.w
   have w2:rmZ p z*v.pw < 0:=Int.mul_neg_of_neg_of_pos hneg hi.w
   refine⟨by show 0 < rmZ p v*z.pw - rmZ p z*v.pw;omega,fun q hq=>?_⟩
   rw[Kd3]
   rcases hr q hq with h | rfl
   ·have b1:=Int.mul_nonneg (Int.le_of_lt hvp) (hz.h q h)
    have b2:rmZ p z*rmZ q v≤0:=Int.mul_nonpos_of_nonpos_of_nonneg (Int.le_of_lt hneg) (hi.h q hq)
    omega
   ·have:=Int.mul_comm (rmZ q v) (rmZ q z);omega
  have h1:=hface _ hu (by rw[Kd3];have:=Int.mul_comm (rmZ p v) (rmZ p z);omega)
  rw[Kd3] at h1
  have h2:rmZ (thr n z) z=0:=by rw[Je4];simp only[dot,dv];grind
  rw[h2] at h1
  have h1:rmZ p z*rmZ (thr n z) v=0:=by omega
  exact (Int.mul_eq_zero.1 h1).resolve_left (by omega)
 exact Je6 hb hB hn' hall
end Go.Ev.Ce
namespace Go.Ev.Ce
open Go Go.Ev Go.Ev.L Go.Proofs
theorem ne2 (p:Pln):∀ (a:Pln) (l:List Pln),p∈a::ddF a l↔p∈a::l
 | a,[]=>by simp[ddF]
 | a,x::l=>by
  have ih:=ne2 p x l
  unfold ddF
  split
  ·rename_i h
   rw[Lb4] at h
   subst h
   rw[ih]
   simp
  ·simp only[List.mem_cons] at ih ⊢
   rw[ih]
theorem nf6 (p:Pln):∀ l:List Pln,p∈dd l↔p∈l
 | []=>Iff.rfl
 | x::l=>ne2 p x l
theorem ne3:∀ (a:Pln) (l:List Pln),(a::l).Pairwise (fun x y=>(!ltOf Db2 y x)=true)→Va0 (a::ddF a l)
 | a,[],_=>List.pairwise_singleton _ _
 | a,x::l,h=>by
  obtain⟨h1,h2⟩:=List.pairwise_cons.1 h
  have ih:=ne3 x l h2
  have hle:=h1 x List.mem_cons_self
  rw[Za4] at hle
  have hle:¬ LtP x a:=by simpa using hle
  unfold ddF
  split
  ·rename_i he
   rw[Lb4] at he
   subst he
   exact ih
  ·rename_i hne
   have hlt:LtP a x:=by
    rcases Kd0 a x with h | h | h
    ·exact h
    ·exact absurd ((Lb4 _ _).2 h.symm) hne
    ·exact absurd h hle
   refine List.pairwise_cons.2 ⟨fun p hp=>?_,ih⟩
   rcases List.mem_cons.1 hp with e | hp'
   ·subst e;exact hlt
   ·exact Oc2 hlt ((List.pairwise_cons.1 ih).1 p hp')
theorem nf7 (l:List Pln):Va0 (dd (Ra8 l)):=by
 have h:=Zb9 l
 cases hs:Ra8 l with
 | nil=>exact .nil
 | cons a l'=>rw[hs] at h;exact ne3 a l' h
def phP (out:List Pln):Nat:=match out with
 | []=>0
 | _::_=>1
end Go.Ev.Ce
namespace Go.Ev.Ce
open Go Go.Ev Go.Ev.L Go.Proofs
def wa1 (p:Pln) (v:V3):Int:=if okp p&&inV v then (if dot p.n v - p.b < 0 then -1 else if dot p.n v - p.b > 0 then 1 else 0) else 0
theorem Je7 {p:Pln} {v:V3} (hp:Bd p) (hv:inV v=true):Sm 331776 (dot p.n v):=by
 obtain⟨⟨a1,a2⟩,⟨a3,a4⟩,a5,a6⟩:=(lb6 v).1 hv
 have r1:=mb hp.x1 hp.x2 a1 a2;have r2:=mb hp.y1 hp.y2 a3 a4;have r3:=mb hp.z1 hp.z2 a5 a6
 unfold Sm dot
 omega
theorem Xe5 (p:Pln) (v:V3):Ya1 p v=some (i (wa1 p v),[]):=by
 unfold Ya1 wa1
 simp only[Ee4,Td3,ff8,Ge5]
 cases hp:okp p with
 | false=>rfl
 | true =>
  cases hv:inV v with
  | false=>rfl
  | true =>
   have hb:=Yb3 hp
   have hd:=Je7 hb hv
   have e:ib0 p.n v=dot p.n v:=by
    unfold ib0
    simp only[Nb3,ic4]
    exact jb0 (hd.mono (by omega))
   have e2:W (dot p.n v - p.b)=dot p.n v - p.b:=na5 (by have:=hd.1;have:=hb.b2;omega) (by have:=hd.2;have:=hb.b1;omega)
   rw[e,e2]
   by_cases h1:dot p.n v - p.b < 0
   ·simp only[Bool.and_self,if_true,h1,decide_true];rfl
   ·by_cases h2:dot p.n v - p.b > 0
    ·simp only[Bool.and_self,if_true,h1,h2,decide_true,decide_false,if_false];rfl
    ·simp only[Bool.and_self,if_true,h1,h2,decide_false,if_false];rfl
theorem nf8 (p:Pln) (v:V3):Yb5 p v=wa1 p v:=by unfold Yb5;rw[Xe5];rfl
theorem Wd7 {p:Pln} {v:V3} (hp:okp p=true) (hv:inV v=true):wa1 p v > 0↔dot p.n v > p.b:=by
 unfold wa1
 rw[hp,hv]
 simp only[Bool.and_self,if_true]
 split
 ·omega
 ·split<;>omega
theorem qc6 {p:Pln} {v:V3} (hp:okp p=true) (hv:inV v=true):wa1 p v=0↔dot p.n v=p.b:=by
 unfold wa1
 rw[hp,hv]
 simp only[Bool.and_self,if_true]
 split
 ·omega
 ·split<;>omega
theorem nf9 (v:V3):g3 v∣v.x∧g3 v∣v.y∧g3 v∣v.z:=by
 unfold g3
 refine⟨?_,?_,?_⟩<;>rw[← Int.dvd_natAbs]<;>apply Int.natCast_dvd_natCast.2
 ·exact Nat.dvd_trans (Nat.gcd_dvd_left _ _) (Nat.gcd_dvd_left _ _)
 ·exact Nat.dvd_trans (Nat.gcd_dvd_left _ _) (Nat.gcd_dvd_right _ _)
 ·exact Nat.gcd_dvd_right _ _
theorem of0 (v:V3) (h:g3 v≠0):g3 ⟨Int.tdiv v.x (g3 v),Int.tdiv v.y (g3 v),Int.tdiv v.z (g3 v)⟩=1:=by
 generalize hg:g3 v=g at *
 have h0:0≤g:=hg ▸ qc4 v
 obtain⟨n,rfl⟩:∃ n:Nat,g=n:=⟨g.toNat,by omega⟩
 have hn:0 < n:=by omega
 have hgn:Nat.gcd (Nat.gcd v.x.natAbs v.y.natAbs) v.z.natAbs=n:=by unfold g3 at hg;omega
 have d1:n∣Nat.gcd v.x.natAbs v.y.natAbs:=hgn ▸ Nat.gcd_dvd_left _ _
 have d3:n∣v.z.natAbs:=hgn ▸ Nat.gcd_dvd_right _ _
 have d4:n∣v.x.natAbs:=Nat.dvd_trans d1 (Nat.gcd_dvd_left _ _)
 have d5:n∣v.y.natAbs:=Nat.dvd_trans d1 (Nat.gcd_dvd_right _ _)
 unfold g3
 simp only[Int.natAbs_tdiv,Int.natAbs_natCast]
 show ((Nat.gcd (Nat.gcd (v.x.natAbs / n) (v.y.natAbs / n)) (v.z.natAbs / n):Nat):Int)=1
 rw[Nat.gcd_div d4 d5,Nat.gcd_div d1 d3,hgn,Nat.div_self hn]
 rfl
structure Thr (a b c:V3) (p:Pln):Prop where
 ok:okp p=true
 k:∃ g:Int,0 < g∧g*p.n.x=(c9 (sub b a) (sub c a)).x∧g*p.n.y=(c9 (sub b a) (sub c a)).y∧g*p.n.z=(c9 (sub b a) (sub c a)).z
 o:p.b=dot p.n a
theorem Ba8 {a b c:V3} (h:(J8 a b c).2=true):(inV a=true∧inV b=true∧inV c=true)∧Thr a b c (J8 a b c).1:=by
 unfold J8 at h ⊢
 cases ha:inV a with
 | false=>rw[ha] at h;cases h
 | true =>
  cases hb:inV b with
  | false=>rw[ha,hb] at h;cases h
  | true =>
   cases hc:inV c with
   | false=>rw[ha,hb,hc] at h;cases h
   | true =>
    rw[ha,hb,hc] at h
    simp only[Bool.and_self,if_true] at h ⊢
    obtain⟨_,k1,k2,k3⟩:=Pb0 ha hb hc
    generalize hn:c9 (sub b a) (sub c a)=n at *
    by_cases h0:g3 n=0
    ·rw[if_pos h0] at h;cases h
    ·rw[if_neg h0]
     have hp:=qc4 n
     obtain⟨d1,d2,d3⟩:=nf9 n
     have q1:=S3 (g:=g3 n) k1 (by omega)
     have q2:=S3 (g:=g3 n) k2 (by omega)
     have q3:=S3 (g:=g3 n) k3 (by omega)
     refine⟨⟨trivial,trivial,trivial⟩,⟨?_,⟨g3 n,by omega,by rw[hn];exact Int.mul_tdiv_cancel' d1,by rw[hn];exact Int.mul_tdiv_cancel' d2,by rw[hn];exact Int.mul_tdiv_cancel' d3⟩,rfl⟩⟩
     obtain⟨⟨a1,a2⟩,⟨a3,a4⟩,a5,a6⟩:=(lb6 a).1 ha
     have r1:=mb q1.1 q1.2 a1 a2;have r2:=mb q2.1 q2.2 a3 a4;have r3:=mb q3.1 q3.2 a5 a6
     unfold okp
     rw[of0 n h0]
     simp only[List.all_cons,List.all_nil,Bool.and_true,Bool.and_eq_true,Yb2,beq_self_eq_true,true_and,and_true]
     refine⟨⟨q1,q2,q3⟩,?_⟩
     unfold Sm dot
     simp only
     omega
theorem Xe6 (a b c:V3):Bd (J8 a b c).1:=by
 cases h:(J8 a b c).2 with
 | true=>exact Yb3 (Ba8 h).2.ok
 | false =>
  have:(J8 a b c).1=⟨⟨0,0,0⟩,0⟩:=by
   unfold J8 at h ⊢
   split
   ·rename_i hc
    rw[if_pos hc] at h
    split
    ·rfl
    ·rename_i h0;rw[if_neg h0] at h;cases h
   ·rfl
  rw[this]
  constructor<;>simp
theorem mc0 {p:Pln} (h:okp p=true):okp (ia3 p)=true:=by
 unfold okp ia3 g3 at *
 simp only[List.all_cons,List.all_nil,Bool.and_true,Bool.and_eq_true,Yb2,Int.natAbs_neg] at h ⊢
 obtain⟨⟨h1,h2,h3⟩,h4,h5⟩:=h
 exact⟨⟨h1.neg,h2.neg,h3.neg⟩,h4,h5.neg⟩
noncomputable def ue6 (l:List V3) (p:Pln):Bool:=l.any fun v=>wa1 p v != 0
noncomputable def nf (l:List V3) (a c k:Nat):Bool:=(J8 (gL tV l a) (gL tV l c) (gL tV l k)).2&&ue6 l (J8 (gL tV l a) (gL tV l c) (gL tV l k)).1
noncomputable def nf2 (l:List V3) (a c:Nat):Bool:=(List.range c).any (nf l a c)
noncomputable def nf1 (l:List V3) (a:Nat):Bool:=(List.range a).any (nf2 l a)
noncomputable def nf0 (l:List V3):Bool:=(List.range l.length).any (nf1 l)
theorem Oc5 {σ : Type} {step : σ → Stp σ} {mk : Nat → σ} (n : Nat) (c : Nat → Bool) (u fin : Nat) (hn : n ≤ 1000000000) (h : ∀ j, j < n → step (mk j) = sl (c j) (.exit u) (.next (mk (j + 1)))) (hf : step (mk n) = .exit fin) :
  ∃ j,lp step (mk 0)=(if (List.range n).any c then u else fin,mk j):=by
 have key:=ya6 (step:=step) (mk:=fun j (_:Unit)=>mk j) n (fun j _=>j≤n∧∀ i,i < j→c i=false) (fun t s=>t=(if (List.range n).any c then u else fin)∧∃ j,s=mk j) hn
  (fun j _ hj hi=>by
   rw[h j hj]
   refine Nx.sl (fun hc=>.ex ⟨?_,j,rfl⟩) (fun hc=>.nx ⟨(),rfl,by omega,fun i hi'=>?_⟩)
   ·rw[if_pos (List.any_eq_true.2 ⟨j,List.mem_range.2 hj,hc⟩)]
   ·by_cases e:i=j
    ·rw[e];exact hc
    ·exact hi.2 i (by omega))
  (fun j _ hj hi=>by
   have e:j=n:=by omega
   subst e
   refine⟨fin,hf,?_,j,rfl⟩
   rw[if_neg fun hh=>?_]
   obtain⟨i,hi1,hi2⟩:=List.any_eq_true.1 hh
   rw[hi.2 i (List.mem_range.1 hi1)] at hi2
   cases hi2) 0 () ⟨by omega,by omega⟩
 obtain⟨t,s,h1,rfl,j,rfl⟩:=key
 exact⟨j,h1⟩
theorem Je8 (l:List V3) (x1 x2 x3:Int) (okb:Bool) (p:Pln) (hl:l.length≤1000000000):∃ t s,lp (D6 ⟨l,x1,x2,x3,okb,p.n.x,p.n.y,p.n.z,p.b⟩) ⟨0⟩=(t,s)∧(((okb&&ue6 l p)=true∧t=1)∨((okb&&ue6 l p)=false∧(t=2∨t=3))):=by
 cases okb with
 | false =>
  cases l with
  | nil =>
   refine⟨3,⟨0⟩,?_,.inr ⟨rfl,.inr rfl⟩⟩
   exact Hc0 (step:=D6 ⟨[],x1,x2,x3,false,p.n.x,p.n.y,p.n.z,p.b⟩) rfl
  | cons v l =>
   refine⟨2,⟨0⟩,?_,.inr ⟨rfl,.inl rfl⟩⟩
   refine Hc0 (step:=D6 ⟨v::l,x1,x2,x3,false,p.n.x,p.n.y,p.n.z,p.b⟩) ?_
   simp only[D6,ha4]
   rw[btD (by simp only[List.length_cons];omega)]
   rfl
 | true =>
  have h:=fd9 (step:=D6 ⟨l,x1,x2,x3,true,p.n.x,p.n.y,p.n.z,p.b⟩) (mk:=fun j=>(⟨(j:Int)⟩:oa7)) (c:=fun v=>wa1 p v != 0) (u:=1) (fin:=3) tV l hl
   (fun j hj=>by
    simp only[D6,ha4,Ge6,nf8,Int.toNat_natCast,q7 hj (show l.length≤4611686018427387904 by omega)]
    rw[btD (m0 hj),bt (f8 hj)]
    rfl)
   (by simp only[D6,ha4];rw[bfD (A7 (Nat.lt_irrefl _))]) 0 (Nat.zero_le _)
  rw[List.drop_zero] at h
  have h:(lp (D6 ⟨l,x1,x2,x3,true,p.n.x,p.n.y,p.n.z,p.b⟩) ⟨0⟩).1=_:=h
  cases hlp:lp (D6 ⟨l,x1,x2,x3,true,p.n.x,p.n.y,p.n.z,p.b⟩) ⟨0⟩ with
  | mk t s =>
  rw[hlp] at h
  refine⟨t,s,rfl,?_⟩
  simp only at h
  rw[h]
  unfold ue6
  cases hh:l.any fun v=>wa1 p v != 0 with
  | true=>exact .inl ⟨rfl,rfl⟩
  | false=>exact .inr ⟨rfl,.inr rfl⟩
theorem Je9 (l:List V3) (hl:l.length≤1000000000) (a c:Nat) (ha:a < l.length) (hc:c < a):∃ j,lp (X8 ⟨(a:Int),(c:Int)⟩) ⟨l,0⟩=(if nf2 l a c then 1 else 2,⟨l,((j:Nat):Int)⟩) :=
 Oc5 (step:=X8 ⟨(a:Int),(c:Int)⟩) (mk:=fun j=>(⟨l,(j:Int)⟩:oa8)) c (nf l a c) 1 2 (by omega)
  (fun j hj=>by
   simp only[X8,ta3,te8,Ad8,Int.toNat_natCast,l6,j9,q7 hj (show c≤4611686018427387904 by omega)]
   rw[btD (m0 hj),bt (f8 ha),bt (f8 (show c < l.length by omega)),bt (f8 (show j < l.length by omega)),w6]
   obtain⟨t,s,h1,h2⟩:=Je8 l (a:Int) (c:Int) (j:Int) (J8 (gL tV l a) (gL tV l c) (gL tV l j)).2 (J8 (gL tV l a) (gL tV l c) (gL tV l j)).1 hl
   rw[h1]
   unfold nf
   rcases h2 with⟨e,rfl⟩ | ⟨e,rfl | rfl⟩<;>rw[e]<;>rfl)
  (by simp only[X8,ta3];rw[bfD (A7 (Nat.lt_irrefl _))])
theorem Ke0 (l:List V3) (hl:l.length≤1000000000) (a:Nat) (ha:a < l.length):∃ j,lp (X9 ⟨(a:Int)⟩) ⟨l,0⟩=(if nf1 l a then 1 else 2,⟨l,((j:Nat):Int)⟩) :=
 Oc5 (step:=X9 ⟨(a:Int)⟩) (mk:=fun j=>(⟨l,(j:Int)⟩:oa9)) a (nf2 l a) 1 2 (by omega)
  (fun j hj=>by
   obtain⟨j',h1⟩:=Je9 l hl a j ha hj
   simp only[X9,ta4,l6,j9,q7 hj (show a≤4611686018427387904 by omega)]
   rw[btD (m0 hj),h1]
   cases nf2 l a j<;>rfl)
  (by simp only[X9,ta4];rw[bfD (A7 (Nat.lt_irrefl _))])
theorem Xe7 (l:List V3) (hl:l.length≤1000000000):Ya2 l=some (b (!nf0 l),[]):=by
 obtain⟨j,h⟩:=Oc5 (step:=Y0 ⟨⟩) (mk:=fun j=>(⟨l,(j:Int)⟩:pa0)) l.length (nf1 l) 1 2 hl
  (fun j hj=>by
   obtain⟨j',h1⟩:=Ke0 l hl j hj
   simp only[Y0,ta5,l6,j9,q7 hj (show l.length≤4611686018427387904 by omega)]
   rw[btD (m0 hj),h1]
   cases nf1 l j<;>rfl)
  (by simp only[Y0,ta5];rw[bfD (A7 (Nat.lt_irrefl _))])
 have h:lp (Y0 ⟨⟩) ⟨l,0⟩=(if nf0 l then 1 else 2,⟨l,((j:Nat):Int)⟩):=h
 unfold Ya2
 simp only[l6,j9]
 rw[h]
 cases nf0 l<;>rfl
theorem of1 (l:List V3) (hl:l.length≤1000000000):Cb0 l=!nf0 l:=by unfold Cb0;rw[Xe7 l hl];rfl
noncomputable def Ke1 (l:List V3):Int:=if (l.length:Int) > 48 then 2 else if l.all inV then (if nf0 l then 0 else 11) else 3
def hold (p:Pln) (l:List V3):Bool:=!l.any fun v=>decide (wa1 p v > 0)
end Go.Ev.Ce
namespace Go.Ev.Ce
open Go Go.Ev Go.Ev.L Go.Proofs
noncomputable def Wd8 (l:List V3) (a c:Nat) (out:List Pln) (k:Nat):List Pln :=
  if (J8 (gL tV l a) (gL tV l c) (gL tV l k)).2 then
    (if hold (ia3 (J8 (gL tV l a) (gL tV l c) (gL tV l k)).1) l then Kd1 (if hold (J8 (gL tV l a) (gL tV l c) (gL tV l k)).1 l then Kd1 out (J8 (gL tV l a) (gL tV l c) (gL tV l k)).1 else out) (ia3 (J8 (gL tV l a) (gL tV l c) (gL tV l k)).1)
     else (if hold (J8 (gL tV l a) (gL tV l c) (gL tV l k)).1 l then Kd1 out (J8 (gL tV l a) (gL tV l c) (gL tV l k)).1 else out))
  else out
noncomputable def F2 (l:List V3) (a:Nat) (out:List Pln) (c:Nat):List Pln:=(List.range c).foldl (Wd8 l a c) out
noncomputable def F1 (l:List V3) (out:List Pln) (a:Nat):List Pln:=(List.range a).foldl (F2 l a) out
noncomputable def F0 (l:List V3):List Pln:=(List.range l.length).foldl (F1 l) []
theorem E7 {τ:Type} (f:τ→Nat→τ) (a:τ) (n:Nat):(List.range (n+1)).foldl f a=f ((List.range n).foldl f a) n:=by
  rw[List.range_succ,List.foldl_append];rfl
theorem md1 {f:List Pln→Nat→List Pln} {m:Nat} (h:∀ o k,(f o k).length≤o.length+m) (o:List Pln):∀ n,((List.range n).foldl f o).length≤o.length+m*n
  | 0=>Nat.le_refl _
  | n+1=>by
    rw[E7]
    have h1:=h ((List.range n).foldl f o) n
    have h2:=md1 h o n
    rw[Nat.mul_succ]
    omega
end Go.Ev.Ce
namespace Go.Ev.Ce
open Go Go.Ev Go.Ev.L Go.Proofs
def Hc3 (l:List Pln) (p:Pln):Bool:=l.any fun q=>eqP q p
theorem Wd9 (l:List Pln) (p:Pln):Hc3 l p=true↔p∈l:=by
 unfold Hc3
 rw[List.any_eq_true]
 exact⟨fun⟨q,h,e⟩=>by rw[Lb4] at e;exact e ▸ h,fun h=>⟨p,h,(Lb4 p p).2 rfl⟩⟩
def ipt (v:V3):Pt:=⟨v.x,v.y,v.z,1⟩
theorem of2 {v:V3} (h:inV v=true):Okx (ipt v):=by
 obtain⟨h1,h2,h3⟩:=(lb6 v).1 h
 exact⟨Int.one_pos,by show (1:Int)≤_;omega,h1.mono (by omega),h2.mono (by omega),h3.mono (by omega)⟩
theorem Ke2 {v:V3} (h:inV v=true):∀ p∈ws,0≤rmZ p (ipt v):=by
 obtain⟨⟨a1,a2⟩,⟨a3,a4⟩,a5,a6⟩:=(lb6 v).1 h
 intro p hp
 simp only[ws,List.mem_cons,List.not_mem_nil,or_false] at hp
 rcases hp with rfl | rfl | rfl | rfl | rfl | rfl<;>simp only[rmZ,ipt]<;>omega
theorem Xe8 {c:List Pln} {x:Pt} (hb:∀ p∈c,Bd p) (hx:Okx x):inn c x=true↔∀ p∈c,0≤rmZ p x:=by
 unfold inn
 rw[List.all_eq_true]
 refine⟨fun h p hp=>?_,fun h p hp=>?_⟩
 ·have:=h p hp
  rw[Wd3 (hb p hp) hx] at this
  simpa using this
 ·rw[Wd3 (hb p hp) hx]
  simpa using h p hp
end Go.Ev.Ce
namespace Go.Ev.Ce
open Go Go.Ev Go.Ev.L Go.Proofs
theorem md2 {p:Pln} (h:okp p=true):g3 p.n=1:=by
 unfold okp at h
 simp only[Bool.and_eq_true,beq_iff_eq] at h
 exact h.2.1
theorem Hc4 {p:Pln} (h:okp p=true):p.n≠⟨0,0,0⟩:=fun e=>by
 have:=md2 h
 rw[e] at this
 revert this
 decide
theorem Ke3 (c:Int) (n:V3):g3 ⟨c*n.x,c*n.y,c*n.z⟩=c.natAbs*g3 n:=by
 unfold g3
 simp only[Int.natAbs_mul,Nat.gcd_mul_left]
 rw[Int.natCast_mul]
theorem Xd0 {m n:V3} (hm:g3 m=1) (hn:g3 n=1) (h:c9 m n=⟨0,0,0⟩):n=m∨n=neg m:=by
 unfold c9 at h
 simp only[V3.mk.injEq] at h
 obtain⟨c1,c2,c3⟩:=h
 have k:∀ {c d:Int},c*m.x=d*n.x→c*m.y=d*n.y→c*m.z=d*n.z→c.natAbs=d.natAbs:=fun {c d} e1 e2 e3=>by
  have a1:=Ke3 c m
  have a2:=Ke3 d n
  rw[e1,e2,e3,a2,hm,hn] at a1
  omega
 have ax:=k (c:=n.x) (d:=m.x) (by grind) (by grind) (by grind)
 have ay:=k (c:=n.y) (d:=m.y) (by grind) (by grind) (by grind)
 have az:=k (c:=n.z) (d:=m.z) (by grind) (by grind) (by grind)
 have sg:∀ {a c:Int},a.natAbs=c.natAbs→a=c∨a=-c:=fun h=>by omega
 -- the sign of one component that is not zero is that of all
 have go:∀ {s u t v:Int},u≠0→s*v=u*t→s=u→t=v:=fun {s u t v} hu h e=>by
  subst e
  exact (Int.eq_of_mul_eq_mul_left hu h).symm
 have gn:∀ {s u t v:Int},u≠0→s*v=u*t→s=-u→t=-v:=fun {s u t v} hu h e=>by
  subst e
  have:u*t=u*(-v):=by rw[← h];grind
  exact Int.eq_of_mul_eq_mul_left hu this
 by_cases hx:m.x=0
 ·have hx':n.x=0:=by omega
  by_cases hy:m.y=0
  ·have hy':n.y=0:=by omega
   rcases sg az with e | e
   ·exact .inl (V3.ext' (by omega) (by omega) e)
   ·exact .inr (V3.ext' (by show n.x=-m.x;omega) (by show n.y=-m.y;omega) e)
  ·rcases sg ay with e | e
   ·exact .inl (V3.ext' (by omega) e (go hy (by grind) e))
   ·exact .inr (V3.ext' (by show n.x=-m.x;omega) e (gn hy (by grind) e))
 ·rcases sg ax with e | e
  ·exact .inl (V3.ext' e (go hx (by grind) e) (go hx (by grind) e))
  ·exact .inr (V3.ext' e (gn hx (by grind) e) (gn hx (by grind) e))
structure Lf3 (l:List V3):Prop where
 h:∃ a c k v,a∈l∧c∈l∧k∈l∧v∈l∧dot (c9 (sub c a) (sub k a)) (sub v a)≠0
theorem gLm {l:List V3} {j:Nat} (h:j < l.length):gL tV l j∈l:=Ab1 tV h
theorem Xe9 {l:List V3} (hf:nf0 l=true):Lf3 l:=by
 unfold nf0 at hf
 obtain⟨a,ha,hf⟩:=List.any_eq_true.1 hf
 unfold nf1 at hf
 obtain⟨c,hc,hf⟩:=List.any_eq_true.1 hf
 unfold nf2 at hf
 obtain⟨k,hk,hf⟩:=List.any_eq_true.1 hf
 rw[List.mem_range] at ha hc hk
 unfold nf at hf
 rw[Bool.and_eq_true] at hf
 obtain⟨h1,h2⟩:=hf
 obtain⟨⟨i1,i2,i3⟩,⟨ok,⟨g,hg,e1,e2,e3⟩,o⟩⟩:=Ba8 h1
 unfold ue6 at h2
 obtain⟨v,hv,h2⟩:=List.any_eq_true.1 h2
 generalize (J8 (gL tV l a) (gL tV l c) (gL tV l k)).1=p at *
 refine⟨_,_,_,v,gLm ha,gLm (show c < l.length by omega),gLm (show k < l.length by omega),hv,fun h0=>?_⟩
 have hs:wa1 p v≠0:=by simpa using h2
 have hiv:inV v=true:=by
  cases hi:inV v with
  | true=>rfl
  | false=>exact absurd (by unfold wa1;rw[ok,hi];rfl) hs
 apply hs
 rw[qc6 ok hiv,o]
 have:g*(dot p.n v - dot p.n (gL tV l a))=dot (c9 (sub (gL tV l c) (gL tV l a)) (sub (gL tV l k) (gL tV l a))) (sub v (gL tV l a)):=by
  unfold dot
  rw[← e1,← e2,← e3]
  unfold sub
  grind
 rw[h0] at this
 have:=(Int.mul_eq_zero.1 this).resolve_left (by omega)
 omega
theorem Xd1 {a c k v n:V3} (hd:dot (c9 (sub c a) (sub k a)) (sub v a)≠0) (hn:n≠⟨0,0,0⟩) (h1:dot n c=dot n a) (h2:dot n k=dot n a) (h3:dot n v=dot n a):False:=by
 generalize hD:dot (c9 (sub c a) (sub k a)) (sub v a)=D at *
 have q1:dot n (sub c a)=0:=by unfold dot sub at *;grind
 have q2:dot n (sub k a)=0:=by unfold dot sub at *;grind
 have q3:dot n (sub v a)=0:=by unfold dot sub at *;grind
 generalize sub c a=p at *
 generalize sub k a=q at *
 generalize sub v a=r at *
 have i1:D*n.x=(c9 q r).x*dot n p+(c9 r p).x*dot n q+(c9 p q).x*dot n r:=by rw[← hD];simp only[dot,c9];grind
 have i2:D*n.y=(c9 q r).y*dot n p+(c9 r p).y*dot n q+(c9 p q).y*dot n r:=by rw[← hD];simp only[dot,c9];grind
 have i3:D*n.z=(c9 q r).z*dot n p+(c9 r p).z*dot n q+(c9 p q).z*dot n r:=by rw[← hD];simp only[dot,c9];grind
 rw[q1,q2,q3] at i1 i2 i3
 have z:∀ {x:Int},D*x=0→x=0:=fun h=>(Int.mul_eq_zero.1 h).resolve_left hd
 exact hn (V3.ext' (z (by omega)) (z (by omega)) (z (by omega)))
theorem eb6 {p:Pln} {l:List V3} (hp:okp p=true) (hl:l.all inV=true):hold p l=true↔∀ v∈l,dot p.n v≤p.b:=by
 unfold hold
 rw[Bool.not_eq_true',← Bool.not_eq_true,List.any_eq_true]
 constructor
 ·intro h v hv
  have h1:¬ wa1 p v > 0:=fun h'=>h ⟨v,hv,by simpa using h'⟩
  rw[Wd7 hp (List.all_eq_true.1 hl v hv)] at h1
  omega
 ·rintro h ⟨v,hv,h1⟩
  have h1:wa1 p v > 0:=by simpa using h1
  rw[Wd7 hp (List.all_eq_true.1 hl v hv)] at h1
  have:=h v hv
  omega
structure Fct (l:List V3) (p:Pln):Prop where
 ok:okp p=true
 hd:hold p l=true
theorem mc1 (p:Pln) (v:V3):dot (ia3 p).n v=-dot p.n v:=by unfold dot ia3;grind
theorem Ke4 {l:List V3} (hf:nf0 l=true) {p:Pln} (hp:okp p=true):∃ v∈l,dot p.n v≠p.b:=by
 obtain⟨a,c,k,v,ha,hc,hk,hv,hd⟩:=Xe9 hf
 by_cases h1:dot p.n a=p.b
 ·by_cases h2:dot p.n c=p.b
  ·by_cases h3:dot p.n k=p.b
   ·by_cases h4:dot p.n v=p.b
    ·exact (Xd1 hd (Hc4 hp) (h2.trans h1.symm) (h3.trans h1.symm) (h4.trans h1.symm)).elim
    ·exact⟨v,hv,h4⟩
   ·exact⟨k,hk,h3⟩
  ·exact⟨c,hc,h2⟩
 ·exact⟨a,ha,h1⟩
theorem md3 {l:List V3} (hl:l.all inV=true) (hf:nf0 l=true) {u w x x':V3} (hx:x∈l) (hx':x'∈l) {p p':Pln} (h:Thr u w x p) (h':Thr u w x' p') (hh:hold p l=true) (hh':hold p' l=true):p=p':=by
 obtain⟨ok,⟨g,hg,e1,e2,e3⟩,o⟩:=h
 obtain⟨ok',⟨g',hg',f1,f2,f3⟩,o'⟩:=h'
 have b1:=(eb6 ok hl).1 hh
 have b2:=(eb6 ok' hl).1 hh'
 have k1:=b1 x' hx'
 have k2:=b2 x hx
 have d1:g*(dot p.n x' - dot p.n u)=dot (c9 (sub w u) (sub x u)) (sub x' u):=by
  unfold dot;rw[← e1,← e2,← e3];unfold sub;grind
 have d2:g'*(dot p'.n x - dot p'.n u)=-dot (c9 (sub w u) (sub x u)) (sub x' u):=by
  have:g'*(dot p'.n x - dot p'.n u)=dot (c9 (sub w u) (sub x' u)) (sub x u):=by
   unfold dot;rw[← f1,← f2,← f3];unfold sub;grind
  rw[this];simp only[dot,c9];grind
 have m1:g*(dot p.n x' - dot p.n u)≤0:=Int.mul_nonpos_of_nonneg_of_nonpos (by omega) (by omega)
 have m2:g'*(dot p'.n x - dot p'.n u)≤0:=Int.mul_nonpos_of_nonneg_of_nonpos (by omega) (by omega)
 have hD:dot (c9 (sub w u) (sub x u)) (sub x' u)=0:=by omega
 have hc:c9 p.n p'.n=⟨0,0,0⟩:=by
  generalize sub w u=d at *
  generalize sub x u=y at *
  generalize sub x' u=y' at *
  have c1:g*g'*(c9 p.n p'.n).x=d.x*dot (c9 d y) y':=by
   have:g*g'*(c9 p.n p'.n).x=(g*p.n.y)*(g'*p'.n.z) - (g*p.n.z)*(g'*p'.n.y):=by simp only[c9];grind
   rw[this,e2,e3,f2,f3];simp only[dot,c9];grind
  have c2:g*g'*(c9 p.n p'.n).y=d.y*dot (c9 d y) y':=by
   have:g*g'*(c9 p.n p'.n).y=(g*p.n.z)*(g'*p'.n.x) - (g*p.n.x)*(g'*p'.n.z):=by simp only[c9];grind
   rw[this,e1,e3,f1,f3];simp only[dot,c9];grind
  have c3:g*g'*(c9 p.n p'.n).z=d.z*dot (c9 d y) y':=by
   have:g*g'*(c9 p.n p'.n).z=(g*p.n.x)*(g'*p'.n.y) - (g*p.n.y)*(g'*p'.n.x):=by simp only[c9];grind
   rw[this,e1,e2,f1,f2];simp only[dot,c9];grind
  rw[hD,Int.mul_zero] at c1 c2 c3
  have hgg:g*g'≠0:=Int.ne_of_gt (Int.mul_pos hg hg')
  exact V3.ext' ((Int.mul_eq_zero.1 c1).resolve_left hgg) ((Int.mul_eq_zero.1 c2).resolve_left hgg) ((Int.mul_eq_zero.1 c3).resolve_left hgg)
 rcases Xd0 (md2 ok) (md2 ok') hc with e | e
 ·cases p with | mk n b=>cases p' with | mk n' b' =>
  simp only at e o o'
  subst e
  rw[o,o']
 ·exfalso
  obtain⟨v,hv,hne⟩:=Ke4 hf ok
  have q1:=b1 v hv
  have q2:=b2 v hv
  rw[o',e] at q2
  have s:∀ z:V3,dot (neg p.n) z=-dot p.n z:=fun z=>by unfold dot neg;grind
  rw[s,s] at q2
  omega
theorem ue7 (l : List V3) (a c k : Nat) (out : List Pln) (p : Pln) : p ∈ Wd8 l a c out k ↔ p ∈ out ∨ ((J8 (gL tV l a) (gL tV l c) (gL tV l k)).2 = true ∧
  ((p=(J8 (gL tV l a) (gL tV l c) (gL tV l k)).1∧hold p l=true)∨(p=ia3 (J8 (gL tV l a) (gL tV l c) (gL tV l k)).1∧hold p l=true))):=by
 unfold Wd8
 generalize J8 (gL tV l a) (gL tV l c) (gL tV l k)=T
 cases h2:T.2 with
 | false=>simp
 | true =>
  simp only[if_true]
  cases h4:hold (ia3 T.1) l with
  | false =>
   simp only[Bool.false_eq_true,if_false]
   cases h3:hold T.1 l with
   | false =>
    simp only[Bool.false_eq_true,if_false]
    constructor
    ·exact fun h=>.inl h
    ·rintro (h | ⟨_,⟨rfl,h⟩ | ⟨rfl,h⟩⟩)
     ·exact h
     ·rw[h3] at h;cases h
     ·rw[h4] at h;cases h
   | true =>
    simp only[if_true,lc9]
    constructor
    ·rintro (rfl | h)
     ·exact .inr ⟨trivial,.inl ⟨rfl,h3⟩⟩
     ·exact .inl h
    ·rintro (h | ⟨_,⟨rfl,h⟩ | ⟨rfl,h⟩⟩)
     ·exact .inr h
     ·exact .inl rfl
     ·rw[h4] at h;cases h
  | true =>
   simp only[if_true,lc9]
   cases h3:hold T.1 l with
   | false =>
    simp only[Bool.false_eq_true,if_false]
    constructor
    ·rintro (rfl | h)
     ·exact .inr ⟨trivial,.inr ⟨rfl,h4⟩⟩
     ·exact .inl h
    ·rintro (h | ⟨_,⟨rfl,h⟩ | ⟨rfl,h⟩⟩)
     ·exact .inr h
     ·rw[h3] at h;cases h
     ·exact .inl rfl
   | true =>
    simp only[if_true,lc9]
    constructor
    ·rintro (rfl | rfl | h)
     ·exact .inr ⟨trivial,.inr ⟨rfl,h4⟩⟩
     ·exact .inr ⟨trivial,.inl ⟨rfl,h3⟩⟩
     ·exact .inl h
    ·rintro (h | ⟨_,⟨rfl,h⟩ | ⟨rfl,h⟩⟩)
     ·exact .inr (.inr h)
     ·exact .inr (.inl rfl)
     ·exact .inl rfl
theorem Db9 {f:List Pln→Nat→List Pln} {Q:Nat→Pln→Prop} (h:∀ o k p,p∈f o k↔p∈o∨Q k p) (o:List Pln) (p:Pln):∀ n,p∈(List.range n).foldl f o↔p∈o∨∃ k,k < n∧Q k p
 | 0=>by simp
 | n+1=>by
  rw[E7,h,Db9 h o p n]
  constructor
  ·rintro ((h | ⟨k,hk,h⟩) | h)
   ·exact .inl h
   ·exact .inr ⟨k,by omega,h⟩
   ·exact .inr ⟨n,by omega,h⟩
  ·rintro (h | ⟨k,hk,h⟩)
   ·exact .inl (.inl h)
   ·by_cases e:k=n
    ·subst e;exact .inr h
    ·exact .inl (.inr ⟨k,by omega,h⟩)
def Fq (l : List V3) (a c k : Nat) (p : Pln) : Prop := (J8 (gL tV l a) (gL tV l c) (gL tV l k)).2 = true ∧
  ((p=(J8 (gL tV l a) (gL tV l c) (gL tV l k)).1∧hold p l=true)∨(p=ia3 (J8 (gL tV l a) (gL tV l c) (gL tV l k)).1∧hold p l=true))
theorem Ke5 (l:List V3) (a c:Nat) (out:List Pln) (p:Pln):p∈F2 l a out c↔p∈out∨∃ k,k < c∧Fq l a c k p:=Db9 (fun o k p=>ue7 l a c k o p) out p c
theorem of3 (l:List V3) (a:Nat) (out:List Pln) (p:Pln):p∈F1 l out a↔p∈out∨∃ c,c < a∧∃ k,k < c∧Fq l a c k p:=Db9 (fun o c p=>Ke5 l a c o p) out p a
theorem fe4 (l:List V3) (p:Pln):p∈F0 l↔∃ a,a < l.length∧∃ c,c < a∧∃ k,k < c∧Fq l a c k p:=by
 have:=Db9 (fun o a p=>of3 l a o p) [] p l.length
 simpa [F0] using this
theorem ue8 {l:List V3} {a c:Nat} {out:List Pln} {k:Nat} (h:Va0 out):Va0 (Wd8 l a c out k):=by
 unfold Wd8
 split
 ·split
  ·refine Gc9 _ ?_
   split
   ·exact Gc9 _ h
   ·exact h
  ·split
   ·exact Gc9 _ h
   ·exact h
 ·exact h
theorem Tb3 {f:List Pln→Nat→List Pln} (h:∀ o k,Va0 o→Va0 (f o k)) {o:List Pln} (ho:Va0 o):∀ n,Va0 ((List.range n).foldl f o)
 | 0=>ho
 | n+1=>by rw[E7];exact h _ _ (Tb3 h ho n)
theorem fe5 {l:List V3} {a c:Nat} {out:List Pln} (h:Va0 out):Va0 (F2 l a out c):=Tb3 (fun _ _ h=>ue8 h) h c
theorem Ke6 {l:List V3} {a:Nat} {out:List Pln} (h:Va0 out):Va0 (F1 l out a):=Tb3 (fun _ _ h=>fe5 h) h a
theorem Ke7 (l:List V3):Va0 (F0 l):=Tb3 (fun _ _ h=>Ke6 h) .nil l.length
theorem ue9 {l:List Pln} (h:Va0 l):l.Nodup:=List.Pairwise.imp (fun {x y} (h:LtP x y) (e:x=y)=>ad9 y (e ▸ h)) h
theorem of4 {l:List V3} (hl:l.all inV=true) (hf:nf0 l=true) {a c:Nat} (ha:a < l.length) (hc:c < a) {out:List Pln} (ho:Va0 out):(F2 l a out c).length≤out.length+2:=by
 have hk:∀ k,k < c→gL tV l k∈l:=fun k hk=>gLm (show k < l.length by omega)
 -- the two that there may be
 have one:∃ P,∀ k,k < c→∀ p,(J8 (gL tV l a) (gL tV l c) (gL tV l k)).2=true→p=(J8 (gL tV l a) (gL tV l c) (gL tV l k)).1→hold p l=true→p=P:=by
  by_cases h:∃ k,k < c∧(J8 (gL tV l a) (gL tV l c) (gL tV l k)).2=true∧hold (J8 (gL tV l a) (gL tV l c) (gL tV l k)).1 l=true
  ·obtain⟨k0,h1,h2,h3⟩:=h
   refine⟨(J8 (gL tV l a) (gL tV l c) (gL tV l k0)).1,fun k hk1 p h4 h5 h6=>?_⟩
   subst h5
   exact md3 hl hf (hk k hk1) (hk k0 h1) (Ba8 h4).2 (Ba8 h2).2 h6 h3
  ·exact⟨⟨⟨0,0,0⟩,0⟩,fun k hk1 p h4 h5 h6=>(h ⟨k,hk1,h4,h5 ▸ h6⟩).elim⟩
 have two:∃ Q,∀ k,k < c→∀ p,(J8 (gL tV l a) (gL tV l c) (gL tV l k)).2=true→p=ia3 (J8 (gL tV l a) (gL tV l c) (gL tV l k)).1→hold p l=true→p=Q:=by
  -- through the same points in the other order
  have sw:∀ {x:V3} {p:Pln},Thr (gL tV l a) (gL tV l c) x p→Thr (gL tV l c) (gL tV l a) x (ia3 p):=fun {x p} h=>by
   obtain⟨ok,⟨g,hg,e1,e2,e3⟩,o⟩:=h
   have on:dot p.n (gL tV l c)=dot p.n (gL tV l a):=by
    have:g*(dot p.n (gL tV l c) - dot p.n (gL tV l a))=0:=by
     have:g*(dot p.n (gL tV l c) - dot p.n (gL tV l a))=dot (c9 (sub (gL tV l c) (gL tV l a)) (sub x (gL tV l a))) (sub (gL tV l c) (gL tV l a)):=by
      unfold dot;rw[← e1,← e2,← e3];unfold sub;grind
     rw[this];simp only[dot,c9];grind
    have:=(Int.mul_eq_zero.1 this).resolve_left (by omega)
    omega
   refine⟨mc0 ok,⟨g,hg,?_,?_,?_⟩,?_⟩
   ·show g*-p.n.x=_
    rw[Int.mul_neg,e1];simp only[c9,sub];grind
   ·show g*-p.n.y=_
    rw[Int.mul_neg,e2];simp only[c9,sub];grind
   ·show g*-p.n.z=_
    rw[Int.mul_neg,e3];simp only[c9,sub];grind
   ·rw[mc1,on,← o];rfl
  by_cases h:∃ k,k < c∧(J8 (gL tV l a) (gL tV l c) (gL tV l k)).2=true∧hold (ia3 (J8 (gL tV l a) (gL tV l c) (gL tV l k)).1) l=true
  ·obtain⟨k0,h1,h2,h3⟩:=h
   refine⟨ia3 (J8 (gL tV l a) (gL tV l c) (gL tV l k0)).1,fun k hk1 p h4 h5 h6=>?_⟩
   subst h5
   exact md3 hl hf (hk k hk1) (hk k0 h1) (sw (Ba8 h4).2) (sw (Ba8 h2).2) h6 h3
  ·exact⟨⟨⟨0,0,0⟩,0⟩,fun k hk1 p h4 h5 h6=>(h ⟨k,hk1,h4,h5 ▸ h6⟩).elim⟩
 obtain⟨P,hP⟩:=one
 obtain⟨Q,hQ⟩:=two
 have hs:F2 l a out c⊆out++[P,Q]:=fun p hp=>by
  rcases (Ke5 l a c out p).1 hp with h | ⟨k,hk1,h1,⟨h2,h3⟩ | ⟨h2,h3⟩⟩
  ·exact List.mem_append_left _ h
  ·rw[hP k hk1 p h1 h2 h3];simp
  ·rw[hQ k hk1 p h1 h2 h3];simp
 have:=List.Nodup.length_le_of_subset (ue9 (fe5 ho)) hs
 simpa using this
theorem Ye0 (l:List V3) (a:Nat) (out:List Pln):F2 l a out 0=out:=rfl
theorem Ke8 {l:List V3} (hl:l.all inV=true) (hf:nf0 l=true) {a:Nat} (ha:a < l.length) {out:List Pln} (ho:Va0 out):∀ n,n≤a→((List.range n).foldl (F2 l a) out).length≤out.length+2*(n - 1)
 | 0,_=>by simp
 | 1,_=>by
  show (F2 l a out 0).length≤_
  rw[Ye0];omega
 | n+2,h=>by
  rw[E7]
  have h1:=Ke8 hl hf ha ho (n+1) (by omega)
  have h2:=of4 hl hf ha (show n+1 < a by omega) (Tb3 (f:=F2 l a) (fun _ _ h=>fe5 h) ho (n+1))
  omega
theorem Ke9 {l:List V3} (hl:l.all inV=true) (hf:nf0 l=true) (h8:l.length≤8):(F0 l).length≤42:=by
 have h:∀ n,n≤l.length→((List.range n).foldl (F1 l) []).length≤(n - 1)*(n - 2):=by
  intro n
  induction n with
  | zero=>intro _;exact Nat.le_refl _
  | succ n ih =>
   intro hn
   rw[E7]
   have h1:=ih (by omega)
   have h2:(F1 l ((List.range n).foldl (F1 l) []) n).length≤_:=Ke8 hl hf (show n < l.length by omega) (Tb3 (f:=F1 l) (fun _ _ h=>Ke6 h) .nil n) n (Nat.le_refl _)
   match n,hn with
   | 0,_=>simpa using h2
   | 1,_ =>
    have h1:((List.range 1).foldl (F1 l) []).length≤0:=h1
    have h2:(F1 l ((List.range 1).foldl (F1 l) []) 1).length≤((List.range 1).foldl (F1 l) []).length+2*(1 - 1):=h2
    show (F1 l ((List.range 1).foldl (F1 l) []) 1).length≤0
    omega
   | 2,_=>simp at h1 h2 ⊢;omega
   | 3,_=>simp at h1 h2 ⊢;omega
   | 4,_=>simp at h1 h2 ⊢;omega
   | 5,_=>simp at h1 h2 ⊢;omega
   | 6,_=>simp at h1 h2 ⊢;omega
   | 7,_=>simp at h1 h2 ⊢;omega
   | n+8,hn=>omega
 have h1:=h l.length (Nat.le_refl _)
 show ((List.range l.length).foldl (F1 l) []).length≤42
 have:∀ n,n≤8→(n - 1)*(n - 2)≤42:=by decide
 have:=this l.length h8
 omega
theorem Kd4 {l:List V3} {p:Pln} (hp:p∈F0 l):Fct l p:=by
 obtain⟨a,ha,c,hc,k,hk,h1,⟨h2,h3⟩ | ⟨h2,h3⟩⟩:=(fe4 l p).1 hp
 ·exact⟨h2 ▸ (Ba8 h1).2.ok,h3⟩
 ·exact⟨h2 ▸ mc0 (Ba8 h1).2.ok,h3⟩
theorem Ye1 {l:List V3} (hl:l.all inV=true) (hf:nf0 l=true):fe2 (F0 l++ws):=by
 obtain⟨a,c,k,v,ha,hc,hk,hv,hd⟩:=Xe9 hf
 have hin:=List.all_eq_true.1 hl
 -- a plane on whose wa1 all Xe9 lie has their middle within
 have key:∀ p:Pln,p.n≠⟨0,0,0⟩→dot p.n a≤p.b→dot p.n c≤p.b→dot p.n k≤p.b→dot p.n v≤p.b→0 < rmZ p ⟨a.x+c.x+k.x+v.x,a.y+c.y+k.y+v.y,a.z+c.z+k.z+v.z,4⟩:=fun p hn h1 h2 h3 h4=>by
  have e:rmZ p ⟨a.x+c.x+k.x+v.x,a.y+c.y+k.y+v.y,a.z+c.z+k.z+v.z,4⟩=(p.b - dot p.n a)+(p.b - dot p.n c)+(p.b - dot p.n k)+(p.b - dot p.n v):=by simp only[rmZ,dot];grind
  rw[e]
  by_cases q:dot p.n a=p.b∧dot p.n c=p.b∧dot p.n k=p.b∧dot p.n v=p.b
  ·obtain⟨q1,q2,q3,q4⟩:=q
   exact (Xd1 hd hn (q2.trans q1.symm) (q3.trans q1.symm) (q4.trans q1.symm)).elim
  ·omega
 refine⟨⟨a.x+c.x+k.x+v.x,a.y+c.y+k.y+v.y,a.z+c.z+k.z+v.z,4⟩,by show (0:Int) < 4;omega,fun p hp=>?_⟩
 rcases List.mem_append.1 hp with h | h
 ·have hF:=Kd4 h
  have hb:=(eb6 hF.ok hl).1 hF.hd
  exact key p (Hc4 hF.ok) (hb a ha) (hb c hc) (hb k hk) (hb v hv)
 ·have hw : ∀ x ∈ l, dot p.n x ≤ p.b := fun x hx => by
   have:=Ke2 (hin x hx) p h
   simp only[rmZ,ipt,dot] at this ⊢
   omega
  refine key p ?_ (hw a ha) (hw c hc) (hw k hk) (hw v hv)
  have h1:∀ q∈ws,okp q=true:=List.all_eq_true.1 (by decide)
  exact Hc4 (h1 p h)
end Go.Ev.Ce
namespace Go.Ev.Ce
open Go Go.Ev Go.Ev.L Go.Proofs
structure Oc6 (c:List Pln):Prop where
 l:c.length≤47
 v:∀ p∈c,okp p=true
 f:fe2 (c++ws)
theorem Oc6.chk {c:List Pln} (h:Oc6 c):(chk c==0)=true:=by
 rw[beq_iff_eq,jd3]
 exact⟨by have:=h.l;omega,h.v⟩
theorem Oc6.bds {c:List Pln} (h:Oc6 c):Bds (c++ws):=(qc0 h.chk).1
theorem Oc6.ful {c:List Pln} (h:Oc6 c):ful c=true:=by
 unfold Ce.ful
 rw[h.chk,(ue5 h.bds (Je3 c) (by simp[ws])).2 h.f]
 rfl
theorem ve0 {l:List V3} (h:Ke1 l=0):l.all inV=true∧nf0 l=true:=by
 unfold Ke1 at h
 split at h
 ·omega
 ·split at h
  ·rename_i h2
   split at h
   ·rename_i h3;exact⟨h2,h3⟩
   ·omega
  ·omega
theorem ve1 {l:List V3} (h:Ke1 l=0) (h8:l.length≤8):Oc6 (F0 l):=by
 obtain⟨h1,h2⟩:=ve0 h
 exact⟨by have:=Ke9 h1 h2 h8;omega,fun p hp=>(Kd4 hp).ok,Ye1 h1 h2⟩
theorem Oc6.pts {c:List Pln} (h:Oc6 c):pts c=cor (c++ws):=by unfold Ce.pts;rw[if_pos h.chk]
end Go.Ev.Ce
namespace Go.Ev.Ce
def ia4 (a b:V3):V3:=⟨a.x - b.x,a.y - b.y,a.z - b.z⟩
def N3 (u w x:V3):V3:=c9 (ia4 w u) (ia4 x u)
def ec5:List V3→V3
 | []=>⟨0,0,0⟩
 | v::l=>⟨v.x+(ec5 l).x,v.y+(ec5 l).y,v.z+(ec5 l).z⟩
def Hc5:List Int→Int
 | []=>0
 | x::l=>x+Hc5 l
theorem Xd2 (n:V3):∀ l:List V3,dot n (ec5 l)=Hc5 (l.map (dot n))
 | []=>by simp[ec5,Hc5,dot]
 | v::l=>by
  have:=Xd2 n l
  simp only[List.map_cons,Hc5,← this]
  simp only[ec5,dot]
  grind
theorem Xd3 (m s:Int):∀ l:List Int,Hc5 (l.map fun a=>m*a - s)=m*Hc5 l - s*l.length
 | []=>by simp[Hc5]
 | a::l=>by
  have:=Xd3 m s l
  simp only[List.map_cons,Hc5,this,List.length_cons]
  grind
theorem Tc8:∀ {l:List Int},(∀ a∈l,a≤0)→Hc5 l≤0
 | [],_=>by simp[Hc5]
 | a::l,h=>by
  have:=Tc8 (l:=l) fun x hx=>h x (List.mem_cons_of_mem _ hx)
  have:=h a List.mem_cons_self
  simp only[Hc5]
  omega
theorem Oc7:∀ {l:List Int},(∀ a∈l,a≤0)→Hc5 l=0→∀ a∈l,a=0
 | [],_,_=>fun a ha=>by cases ha
 | a::l,h,h0=>by
  have h1:=Tc8 (l:=l) fun x hx=>h x (List.mem_cons_of_mem _ hx)
  have h2:=h a List.mem_cons_self
  simp only[Hc5] at h0
  intro b hb
  rcases List.mem_cons.1 hb with rfl | hb
  ·omega
  ·exact Oc7 (l:=l) (fun x hx=>h x (List.mem_cons_of_mem _ hx)) (by omega) b hb
def Sol (l:List V3):Prop:=∃ a c k v,a∈l∧c∈l∧k∈l∧v∈l∧dot (N3 a c k) (ia4 v a)≠0
theorem Sol.off {l:List V3} (h:Sol l) {n:V3} (hn:n≠⟨0,0,0⟩) (b:Int):∃ v∈l,dot n v≠b:=by
 obtain⟨a,c,k,v,ha,hc,hk,hv,hd⟩:=h
 by_cases h1:dot n a=b
 ·by_cases h2:dot n c=b
  ·by_cases h3:dot n k=b
   ·by_cases h4:dot n v=b
    ·exfalso
     unfold N3 at hd
     generalize hD:dot (c9 (ia4 c a) (ia4 k a)) (ia4 v a)=D at *
     have q1:dot n (ia4 c a)=0:=by unfold dot ia4 at *;grind
     have q2:dot n (ia4 k a)=0:=by unfold dot ia4 at *;grind
     have q3:dot n (ia4 v a)=0:=by unfold dot ia4 at *;grind
     generalize ia4 c a=p at *
     generalize ia4 k a=q at *
     generalize ia4 v a=r at *
     have i1:D*n.x=(c9 q r).x*dot n p+(c9 r p).x*dot n q+(c9 p q).x*dot n r:=by rw[← hD];simp only[dot,c9];grind
     have i2:D*n.y=(c9 q r).y*dot n p+(c9 r p).y*dot n q+(c9 p q).y*dot n r:=by rw[← hD];simp only[dot,c9];grind
     have i3:D*n.z=(c9 q r).z*dot n p+(c9 r p).z*dot n q+(c9 p q).z*dot n r:=by rw[← hD];simp only[dot,c9];grind
     rw[q1,q2,q3] at i1 i2 i3
     have z:∀ {x:Int},D*x=0→x=0:=fun h=>(Int.mul_eq_zero.1 h).resolve_left hd
     exact hn (V3.ext' (z (by omega)) (z (by omega)) (z (by omega)))
    ·exact⟨v,hv,h4⟩
   ·exact⟨k,hk,h3⟩
  ·exact⟨c,hc,h2⟩
 ·exact⟨a,ha,h1⟩
theorem Sol.ne {l:List V3} (h:Sol l):∃ v,v∈l:=by obtain⟨a,_,_,_,ha,_⟩:=h;exact⟨a,ha⟩
structure Fac (l:List V3) (n:V3) (b:Int):Prop where
 hd:∀ v∈l,dot n v≤b
 on:∃ u w x,u∈l∧w∈l∧x∈l∧N3 u w x≠⟨0,0,0⟩∧dot n u=b∧dot n w=b∧dot n x=b
def of5 (l:List V3) (c:List Pln):Prop:=∀ n b,n≠⟨0,0,0⟩→Fac l n b→∃ s t:Int,0 < s∧0 < t∧∃ q∈c,t*q.n.x=s*n.x∧t*q.n.y=s*n.y∧t*q.n.z=s*n.z∧t*q.b=s*b
def pol (m:Int) (S v:V3):Pln:=⟨⟨m*v.x - S.x,m*v.y - S.y,m*v.z - S.z⟩,1⟩
theorem Ye2 (m:Int) (S v d:V3):dot (pol m S v).n d=m*dot d v - dot d S:=by simp only[dot,pol];grind
theorem Xd4 (l:List V3) (d:V3):Hc5 (l.map fun v=>(l.length:Int)*dot d v - dot d (ec5 l))=0:=by
 have h:=Xd3 (l.length:Int) (dot d (ec5 l)) (l.map (dot d))
 rw[List.map_map] at h
 have e:((fun a=>(l.length:Int)*a - dot d (ec5 l))∘dot d)=fun v=>(l.length:Int)*dot d v - dot d (ec5 l):=rfl
 rw[e] at h
 rw[h,← Xd2,List.length_map]
 grind
theorem ve2 {a b:V3} (h:dot a b≠0):b≠⟨0,0,0⟩:=fun e=>h (by subst e;simp[dot])
theorem md4 {a b:V3} (h:dot a b≠0):a≠⟨0,0,0⟩:=fun e=>h (by subst e;simp[dot])
theorem ne4 {l:List V3} (h:Sol l):0 < (l.length:Int):=by
 obtain⟨v,hv⟩:=h.ne
 have:=List.length_pos_of_mem hv
 omega
theorem Ye3 {l:List V3} (h:Sol l):Bdd (l.map (pol l.length (ec5 l))):=fun d hd=>by
 by_cases hh:∃ p∈l.map (pol l.length (ec5 l)),0 < dot p.n d
 ·exact hh
 exfalso
 have hm:=ne4 h
 have hall:∀ a∈l.map (fun v=>(l.length:Int)*dot d v - dot d (ec5 l)),a≤0:=fun a ha=>by
  obtain⟨v,hv,rfl⟩:=List.mem_map.1 ha
  refine Int.not_lt.1 fun h'=>hh ⟨pol l.length (ec5 l) v,List.mem_map.2 ⟨v,hv,rfl⟩,?_⟩
  rw[Ye2]
  omega
 have hz:=Oc7 hall (Xd4 l d)
 obtain⟨a,ha⟩:=h.ne
 obtain⟨v,hv,hne⟩:=h.off hd (dot d a)
 have e1:=hz _ (List.mem_map.2 ⟨a,ha,rfl⟩)
 have e2:=hz _ (List.mem_map.2 ⟨v,hv,rfl⟩)
 apply hne
 have:(l.length:Int)*(dot d v - dot d a)=0:=by grind
 have:=(Int.mul_eq_zero.1 this).resolve_left (by omega)
 omega
theorem qc7 {l:List V3} (h4:Sol l) {c:List Pln} (hc:of5 l c) {x:Pt} (hx:Inr c x) {h:Pln} (hh:∀ v∈l,dot h.n v≤h.b):0≤rmZ h x:=by
 have hm:=ne4 h4
 have hr:=Ye3 h4
 generalize hS:ec5 l=S at hr
 generalize hM:(l.length:Int)=m at hr hm
 -- the linear function on the polar
 have hv:∀ y,Cn (l.map (pol m S)) y→0≤rmZ ⟨⟨m*x.px - x.pw*S.x,m*x.py - x.pw*S.y,m*x.pz - x.pw*S.z⟩,x.pw⟩ y:=fun y hy=>by
  obtain⟨p1,p2,p3,hp1,hp2,hp3,hw,e1,e2,e3⟩:=hy.c
  obtain⟨v1,m1,rfl⟩:=List.mem_map.1 hp1
  obtain⟨v2,m2,rfl⟩:=List.mem_map.1 hp2
  obtain⟨v3,m3,rfl⟩:=List.mem_map.1 hp3
  have rp:∀ v,rmZ (pol m S v) y=y.pw - (m*dot ⟨y.px,y.py,y.pz⟩ v - dot ⟨y.px,y.py,y.pz⟩ S):=fun v=>by simp only[rmZ,pol,dot];grind
  rw[rp] at e1 e2 e3
  have hn3:dot (pol m S v1).n (N3 v1 v2 v3)≠0:=fun h0=>hw (by
   have:mw (pol m S v1) (pol m S v2) (pol m S v3)=m*m*dot (pol m S v1).n (N3 v1 v2 v3):=by simp only[mw,pol,dot,N3,c9,ia4];grind
   rw[this,h0,Int.mul_zero])
  have hne:N3 v1 v2 v3≠⟨0,0,0⟩:=ve2 hn3
  have hfac:Fac l ⟨m*y.px,m*y.py,m*y.pz⟩ (y.pw+dot ⟨y.px,y.py,y.pz⟩ S):=by
   have ed:∀ v,dot ⟨m*y.px,m*y.py,m*y.pz⟩ v=m*dot ⟨y.px,y.py,y.pz⟩ v:=fun v=>by simp only[dot];grind
   refine⟨fun v hv=>?_,v1,v2,v3,m1,m2,m3,hne,?_,?_,?_⟩
   ·have:=hy.h (pol m S v) (List.mem_map.2 ⟨v,hv,rfl⟩)
    rw[rp] at this
    rw[ed];omega
   ·rw[ed];omega
   ·rw[ed];omega
   ·rw[ed];omega
  have hyn:(⟨m*y.px,m*y.py,m*y.pz⟩:V3)≠⟨0,0,0⟩:=fun e=>by
   have k:∀ {a:Int},m*a=0→a=0:=fun h=>(Int.mul_eq_zero.1 h).resolve_left (by omega)
   simp only[V3.mk.injEq] at e
   have a1:=k e.1;have a2:=k e.2.1;have a3:=k e.2.2
   rw[a1,a2,a3] at e1
   have hw:=hy.w
   simp only[dot] at e1
   simp only[Int.zero_mul,Int.add_zero,Int.mul_zero,Int.sub_zero] at e1
   omega
  obtain⟨s,t,hs,ht,q,hq,f1,f2,f3,f4⟩:=hc _ _ hyn hfac
  have hxq:=hx.h q hq
  have e:t*rmZ q x=s*rmZ ⟨⟨m*x.px - x.pw*S.x,m*x.py - x.pw*S.y,m*x.pz - x.pw*S.z⟩,x.pw⟩ y:=by
   have:t*rmZ q x=(t*q.b)*x.pw - ((t*q.n.x)*x.px+(t*q.n.y)*x.py+(t*q.n.z)*x.pz):=by simp only[rmZ];grind
   rw[this,f1,f2,f3,f4]
   simp only[rmZ,dot];grind
  have h1:=Int.mul_nonneg (Int.le_of_lt ht) hxq
  rw[e] at h1
  exact Int.nonneg_of_mul_nonneg_right h1 hs
 by_cases hn:h.n=⟨0,0,0⟩
 ·obtain⟨v,hv⟩:=h4.ne
  have h1:=hh v hv
  have e:rmZ h x=h.b*x.pw:=by simp only[rmZ,hn];grind
  rw[e]
  rw[hn] at h1
  simp only[dot,Int.zero_mul,Int.add_zero] at h1
  exact Int.mul_nonneg h1 (Int.le_of_lt hx.w)
 ·-- the polar point of h
  have hall:∀ a∈l.map (fun v=>(l.length:Int)*dot h.n v - dot h.n (ec5 l)),a≤(l.length:Int)*h.b - dot h.n (ec5 l):=fun a ha=>by
   obtain⟨v,hv,rfl⟩:=List.mem_map.1 ha
   have:=Int.mul_le_mul_of_nonneg_left (hh v hv) (show 0≤(l.length:Int) by omega)
   omega
  have hpos:0 < m*h.b - dot h.n S:=by
   rw[← hM,← hS]
   by_cases h0:0 < (l.length:Int)*h.b - dot h.n (ec5 l)
   ·exact h0
   exfalso
   have hz:=Oc7 (fun a ha=>by have:=hall a ha;omega) (Xd4 l h.n)
   obtain⟨v,hv,hne⟩:=h4.off hn h.b
   have e1:=hz _ (List.mem_map.2 ⟨v,hv,rfl⟩)
   have h2:=hh v hv
   have:(l.length:Int)*dot h.n v < (l.length:Int)*h.b:=Int.mul_lt_mul_of_pos_left (by omega) (by omega)
   omega
  have hy:Inr (l.map (pol m S)) ⟨h.n.x,h.n.y,h.n.z,m*h.b - dot h.n S⟩:=⟨hpos,fun p hp=>by
   obtain⟨v,hv,rfl⟩:=List.mem_map.1 hp
   have e:rmZ (pol m S v) ⟨h.n.x,h.n.y,h.n.z,m*h.b - dot h.n S⟩=m*(h.b - dot h.n v):=by simp only[rmZ,pol,dot];grind
   rw[e]
   exact Int.mul_nonneg (by omega) (by have:=hh v hv;omega)⟩
  have h1:=Wa8 hr hv hy
  have e:rmZ ⟨⟨m*x.px - x.pw*S.x,m*x.py - x.pw*S.y,m*x.pz - x.pw*S.z⟩,x.pw⟩ ⟨h.n.x,h.n.y,h.n.z,m*h.b - dot h.n S⟩=m*rmZ h x:=by simp only[rmZ,dot];grind
  rw[e] at h1
  exact Int.nonneg_of_mul_nonneg_right h1 hm
end Go.Ev.Ce
namespace Go.Ev.Ce
theorem Ye4 (own:List V3):(∃ a c k,a∈own∧c∈own∧k∈own∧dot a (c9 c k)≠0)∨∃ d,d≠(⟨0,0,0⟩:V3)∧∀ n∈own,dot n d=0:=by
 by_cases h1:∃ a∈own,a≠⟨0,0,0⟩
 ·obtain⟨a,ha,hne⟩:=h1
  by_cases h2:∃ c∈own,c9 a c≠⟨0,0,0⟩
  ·obtain⟨c,hc,hx⟩:=h2
   by_cases h3:∃ k∈own,dot k (c9 a c)≠0
   ·obtain⟨k,hk,h⟩:=h3
    exact .inl ⟨k,a,c,hk,ha,hc,h⟩
   ·exact .inr ⟨c9 a c,hx,fun n hn=>Classical.byContradiction fun h=>h3 ⟨n,hn,h⟩⟩
  ·obtain⟨d,hd,h0⟩:=Xe3 hne
   refine .inr ⟨d,hd,fun n hn=>?_⟩
   have hc:c9 a n=⟨0,0,0⟩:=Classical.byContradiction fun h=>h2 ⟨n,hn,h⟩
   have e:∀ {s t:Int},s*t=0→s≠0→t=0:=fun h hs=>(Int.mul_eq_zero.1 h).resolve_left hs
   unfold c9 at hc
   simp only[V3.mk.injEq] at hc
   obtain⟨c1,c2,c3⟩:=hc
   have k1:a.x*dot n d=0:=by
    have:a.x*dot n d=n.x*dot a d+(a.x*n.y - a.y*n.x)*d.y - (a.z*n.x - a.x*n.z)*d.z:=by simp only[dot];grind
    rw[this,h0,c3,c2];simp
   have k2:a.y*dot n d=0:=by
    have:a.y*dot n d=n.y*dot a d+(a.y*n.z - a.z*n.y)*d.z - (a.x*n.y - a.y*n.x)*d.x:=by simp only[dot];grind
    rw[this,h0,c1,c3];simp
   have k3:a.z*dot n d=0:=by
    have:a.z*dot n d=n.z*dot a d+(a.z*n.x - a.x*n.z)*d.x - (a.y*n.z - a.z*n.y)*d.y:=by simp only[dot];grind
    rw[this,h0,c2,c1];simp
   by_cases hx:a.x=0
   ·by_cases hy:a.y=0
    ·exact e k3 fun hz=>hne (V3.ext' hx hy hz)
    ·exact e k2 hy
   ·exact e k1 hx
 ·exact .inr ⟨⟨1, 0, 0⟩, by simp, fun n hn => by
   have:n=⟨0,0,0⟩:=Classical.byContradiction fun h=>h1 ⟨n,hn,h⟩
   rw[this];simp[dot]⟩
theorem big (d:V3):∀ c:List Pln,∃ N:Int,0 < N∧∀ p∈c,dot p.n d≤N∧-dot p.n d≤N
 | []=>⟨1,by decide,fun p hp=>by cases hp⟩
 | q::c=>by
  obtain⟨N,h0,h⟩:=big d c
  refine⟨N+(dot q.n d).natAbs,by omega,fun p hp=>?_⟩
  rcases List.mem_cons.1 hp with rfl | hp
  ·omega
  ·have:=h p hp;omega
theorem Xd5 {p q s:Pln} (hw:mw p q s≠0) {d:V3} (h1:dot p.n d=0) (h2:dot q.n d=0) (h3:dot s.n d=0):d=⟨0,0,0⟩:=by
 have i1:mw p q s*d.x=(c9 q.n s.n).x*dot p.n d+(c9 s.n p.n).x*dot q.n d+(c9 p.n q.n).x*dot s.n d:=by simp only[mw,dot,c9];grind
 have i2:mw p q s*d.y=(c9 q.n s.n).y*dot p.n d+(c9 s.n p.n).y*dot q.n d+(c9 p.n q.n).y*dot s.n d:=by simp only[mw,dot,c9];grind
 have i3:mw p q s*d.z=(c9 q.n s.n).z*dot p.n d+(c9 s.n p.n).z*dot q.n d+(c9 p.n q.n).z*dot s.n d:=by simp only[mw,dot,c9];grind
 rw[h1,h2,h3] at i1 i2 i3
 have z:∀ {x:Int},mw p q s*x=0→x=0:=fun h=>(Int.mul_eq_zero.1 h).resolve_left hw
 exact V3.ext' (z (by omega)) (z (by omega)) (z (by omega))
def Spn (c:List Pln) (v:V3):Prop:=∃ p q s,p∈c∧q∈c∧s∈c∧mw p q s≠0∧dot p.n v=p.b∧dot q.n v=q.b∧dot s.n v=s.b
theorem Ye5 {l:List V3} (h4:Sol l) {c w:List Pln} (hc:of5 l c) (hin:∀ p∈c++w,∀ v∈l,dot p.n v≤p.b) {x:Pt} (hx:Cn (c++w) x):∃ v∈l,Eqv x ⟨v.x,v.y,v.z,1⟩∧Spn c v:=by
 obtain⟨p,q,s,hp,hq,hs,hw,e1,e2,e3⟩:=hx.c
 have hxc:Inr c x:=⟨hx.w,fun a ha=>hx.h a (List.mem_append_left _ ha)⟩
 have hv:∃ v∈l,dot p.n v=p.b∧dot q.n v=q.b∧dot s.n v=s.b:=by
  apply Classical.byContradiction
  intro hno
  have h1:=qc7 h4 hc hxc (h:=⟨⟨p.n.x+q.n.x+s.n.x,p.n.y+q.n.y+s.n.y,p.n.z+q.n.z+s.n.z⟩,p.b+q.b+s.b - 1⟩) fun v hv=>by
   have a1:=hin p hp v hv;have a2:=hin q hq v hv;have a3:=hin s hs v hv
   have e:dot ⟨p.n.x+q.n.x+s.n.x,p.n.y+q.n.y+s.n.y,p.n.z+q.n.z+s.n.z⟩ v=dot p.n v+dot q.n v+dot s.n v:=by simp only[dot];grind
   simp only[e]
   have:¬ (dot p.n v=p.b∧dot q.n v=q.b∧dot s.n v=s.b):=fun h=>hno ⟨v,hv,h⟩
   omega
  have e:rmZ ⟨⟨p.n.x+q.n.x+s.n.x,p.n.y+q.n.y+s.n.y,p.n.z+q.n.z+s.n.z⟩,p.b+q.b+s.b - 1⟩ x=rmZ p x+rmZ q x+rmZ s x - x.pw:=by simp only[rmZ];grind
  rw[e,e1,e2,e3] at h1
  have:=hx.w
  omega
 obtain⟨v,hv,t1,t2,t3⟩:=hv
 have hd:(⟨x.px - v.x*x.pw,x.py - v.y*x.pw,x.pz - v.z*x.pw⟩:V3)=⟨0,0,0⟩:=by
  have k:∀ {a:Pln},dot a.n v=a.b→rmZ a x=0→dot a.n ⟨x.px - v.x*x.pw,x.py - v.y*x.pw,x.pz - v.z*x.pw⟩=0:=fun {a} h1 h2=>by
   rw[rmZ,← h1] at h2
   simp only[dot] at h2 ⊢
   grind
  exact Xd5 hw (k t1 e1) (k t2 e2) (k t3 e3)
 simp only[V3.mk.injEq] at hd
 refine⟨v,hv,⟨?_,?_,?_⟩,?_⟩
 ·show x.px*1=v.x*x.pw;omega
 ·show x.py*1=v.y*x.pw;omega
 ·show x.pz*1=v.z*x.pw;omega
 -- the facets through it span the space
 have hf:∀ a:Pln,decide (dot a.n v=a.b)=true↔dot a.n v=a.b:=fun a=>by simp
 rcases Ye4 ((c.filter fun a=>decide (dot a.n v=a.b)).map Pln.n) with⟨a,b,k,ha',hb',hk',hd⟩ | ⟨d,hd,h0⟩
 ·obtain⟨a,ha,rfl⟩:=List.mem_map.1 ha'
  obtain⟨b,hb,rfl⟩:=List.mem_map.1 hb'
  obtain⟨k,hk,rfl⟩:=List.mem_map.1 hk'
  rw[List.mem_filter,hf] at ha hb hk
  exact⟨a,b,k,ha.1,hb.1,hk.1,hd,ha.2,hb.2,hk.2⟩
 ·exfalso
  obtain⟨N,hN,hb⟩:=big d c
  have h0':∀ a∈c,dot a.n v=a.b→dot a.n d=0:=fun a ha h=>h0 a.n (List.mem_map.2 ⟨a,List.mem_filter.2 ⟨ha,by simpa using h⟩,rfl⟩)
  have iny:∀ e:V3,(∀ a∈c,dot a.n v=a.b→dot a.n e=0)→(∀ a∈c,dot a.n e≤N)→Inr c ⟨N*v.x+e.x,N*v.y+e.y,N*v.z+e.z,N⟩:=fun e he hle=>⟨hN,fun a ha=>by
   have ea:rmZ a ⟨N*v.x+e.x,N*v.y+e.y,N*v.z+e.z,N⟩=N*(a.b - dot a.n v) - dot a.n e:=by simp only[rmZ,dot];grind
   rw[ea]
   have h1:=hin a (List.mem_append_left _ ha) v hv
   by_cases ht:dot a.n v=a.b
   ·rw[he a ha ht,ht];simp
   ·have h2:N*1≤N*(a.b - dot a.n v):=Int.mul_le_mul_of_nonneg_left (by omega) (by omega)
    have:=hle a ha
    omega⟩
  have y1:=iny d h0' fun a ha=>(hb a ha).1
  have y2:=iny (neg d) (fun a ha h=>by rw[bd0,h0' a ha h];rfl) fun a ha=>by rw[bd0];exact (hb a ha).2
  have z:∀ a∈c++w,dot a.n v=a.b→dot a.n d=0:=fun a ha ht=>by
   have a1:=qc7 h4 hc y1 (h:=a) (hin a ha)
   have a2:=qc7 h4 hc y2 (h:=a) (hin a ha)
   have e1:rmZ a ⟨N*v.x+d.x,N*v.y+d.y,N*v.z+d.z,N⟩=N*(a.b - dot a.n v) - dot a.n d:=by simp only[rmZ,dot];grind
   have e2:rmZ a ⟨N*v.x+(neg d).x,N*v.y+(neg d).y,N*v.z+(neg d).z,N⟩=N*(a.b - dot a.n v)+dot a.n d:=by simp only[rmZ,dot,neg];grind
   rw[e1,ht] at a1
   rw[e2,ht] at a2
   simp only[Int.sub_self,Int.mul_zero] at a1 a2
   omega
  exact hd (Xd5 hw (z p hp t1) (z q hq t2) (z s hs t3))
theorem Bf2 {l : List V3} {c w : List Pln} {p : Pln} (hb : Bdd (c ++ w)) (hB : fe2 (c ++ w)) (hp : p ∈ c) (hn : p.n ≠ ⟨0, 0, 0⟩)
  (hin:∀ q∈c,∀ v∈l,dot q.n v≤q.b) (hw:∀ q∈w,∀ v∈l,dot q.n v < q.b) {u v x:V3} (hu:u∈l) (hv:v∈l) (hx:x∈l)
  (t1:dot p.n u=p.b) (t2:dot p.n v=p.b) (t3:dot p.n x=p.b) (one:∀ q∈c,dot q.n u=q.b→dot q.n v=q.b→dot q.n x=q.b→q=p)
  (L:List Pt) (hL:L.length≤2) (hL0:∀ y∈L,rmZ p y=0∧0 < y.pw) (hLc:∀ y,Cn (c++w) y→rmZ p y=0→∃ a∈L,Eqv a y):False:=by
 obtain⟨N,hN,hbig⟩:=big p.n (c++w)
 have hr:∀ q∈c++w,q∈(c++w).filter (fun q=>@decide (q≠p) (Classical.propDecidable _))∨q=p:=fun q hq=>by
  by_cases h:q=p
  ·exact .inr h
  ·exact .inl (List.mem_filter.2 ⟨hq,by simpa using h⟩)
 have hz:Inr ((c++w).filter (fun q=>@decide (q≠p) (Classical.propDecidable _))) ⟨N*(u.x+v.x+x.x)+p.n.x,N*(u.y+v.y+x.y)+p.n.y,N*(u.z+v.z+x.z)+p.n.z,3*N⟩:=⟨by show 0 < 3*N;omega,fun q hq=>by
  obtain⟨h1,h2⟩:=List.mem_filter.1 hq
  have h2:q≠p:=by simpa using h2
  have e:rmZ q ⟨N*(u.x+v.x+x.x)+p.n.x,N*(u.y+v.y+x.y)+p.n.y,N*(u.z+v.z+x.z)+p.n.z,3*N⟩=N*((q.b - dot q.n u)+(q.b - dot q.n v)+(q.b - dot q.n x)) - dot q.n p.n:=by simp only[rmZ,dot];grind
  rw[e]
  have h3:1≤(q.b - dot q.n u)+(q.b - dot q.n v)+(q.b - dot q.n x):=by
   rcases List.mem_append.1 h1 with h1 | h1
   ·have a1:=hin q h1 u hu;have a2:=hin q h1 v hv;have a3:=hin q h1 x hx
    have:¬ (dot q.n u=q.b∧dot q.n v=q.b∧dot q.n x=q.b):=fun h=>h2 (one q h1 h.1 h.2.1 h.2.2)
    omega
   ·have a1:=hw q h1 u hu;have a2:=hw q h1 v hv;have a3:=hw q h1 x hx
    omega
  have h4:=Int.mul_le_mul_of_nonneg_left h3 (Int.le_of_lt hN)
  have:=(hbig q h1).1
  omega⟩
 have h:=(Bf1 hb hB (List.mem_append_left _ hp) hr L hL hL0 hLc hz).h p (List.mem_append_left _ hp)
 have e:rmZ p ⟨N*(u.x+v.x+x.x)+p.n.x,N*(u.y+v.y+x.y)+p.n.y,N*(u.z+v.z+x.z)+p.n.z,3*N⟩=N*((p.b - dot p.n u)+(p.b - dot p.n v)+(p.b - dot p.n x)) - dot p.n p.n:=by simp only[rmZ,dot];grind
 rw[e,t1,t2,t3] at h
 simp only[Int.sub_self,Int.add_zero,Int.mul_zero] at h
 have sq:∀ a:Int,0≤a*a:=fun a=>by
  by_cases h:0≤a
  ·exact Int.mul_nonneg h h
  ·have:=Int.mul_nonneg (show 0≤-a by omega) (show 0≤-a by omega)
   rw[Int.neg_mul_neg] at this
   exact this
 have z:∀ {a:Int},a*a=0→a=0:=fun h=>(Int.mul_eq_zero.1 h).elim id id
 have s1:=sq p.n.x;have s2:=sq p.n.y;have s3:=sq p.n.z
 simp only[dot] at h
 exact hn (V3.ext' (z (by omega)) (z (by omega)) (z (by omega)))
end Go.Ev.Ce
namespace Go.Ev.Ce
open Go Go.Ev Go.Ev.L Go.Proofs
theorem Kd5 {l:List V3} (hf:nf0 l=true):Sol l:=(Xe9 hf).h
theorem Ye6 {v:V3} (h:g3 v=0):v=⟨0,0,0⟩:=by
 unfold g3 at h
 have h:Nat.gcd (Nat.gcd v.x.natAbs v.y.natAbs) v.z.natAbs=0:=by omega
 rw[Nat.gcd_eq_zero_iff,Nat.gcd_eq_zero_iff] at h
 exact V3.ext' (by show v.x=0;omega) (by show v.y=0;omega) (by show v.z=0;omega)
theorem Tb4 {a c k:V3} (ha:inV a=true) (hc:inV c=true) (hk:inV k=true) (h:N3 a c k≠⟨0,0,0⟩):(J8 a c k).2=true:=by
 unfold J8
 rw[ha,hc,hk]
 simp only[Bool.and_self,if_true]
 rw[if_neg (fun h0=>h (Ye6 h0):¬ g3 (c9 (sub c a) (sub k a))=0)]
theorem Bd3 {a c k:V3} {p:Pln} (h:Thr a c k p):N3 a c k≠⟨0,0,0⟩:=fun e=>by
 obtain⟨ok,⟨g,hg,e1,e2,e3⟩,_⟩:=h
 have e':c9 (sub c a) (sub k a)=⟨0,0,0⟩:=e
 rw[e'] at e1 e2 e3
 have z:∀ {x:Int},g*x=0→x=0:=fun h=>(Int.mul_eq_zero.1 h).resolve_left (by omega)
 exact Hc4 ok (V3.ext' (z e1) (z e2) (z e3))
theorem Kd6 {a c k:V3} {p:Pln} (h:Thr a c k p):dot p.n a=p.b∧dot p.n c=p.b∧dot p.n k=p.b:=by
 obtain⟨ok,⟨g,hg,e1,e2,e3⟩,o⟩:=h
 have z:∀ {x y:Int},g*(x - y)=0→x=y:=fun h=>by have:=(Int.mul_eq_zero.1 h).resolve_left (by omega);omega
 refine⟨o.symm,?_,?_⟩
 ·rw[o]
  apply z
  have:g*(dot p.n c - dot p.n a)=(g*p.n.x)*(c.x - a.x)+(g*p.n.y)*(c.y - a.y)+(g*p.n.z)*(c.z - a.z):=by simp only[dot];grind
  rw[this,e1,e2,e3];simp only[c9,sub];grind
 ·rw[o]
  apply z
  have:g*(dot p.n k - dot p.n a)=(g*p.n.x)*(k.x - a.x)+(g*p.n.y)*(k.y - a.y)+(g*p.n.z)*(k.z - a.z):=by simp only[dot];grind
  rw[this,e1,e2,e3];simp only[c9,sub];grind
theorem qc8 (p:Pln) (v:V3):dot (ia3 p).n v=(ia3 p).b↔dot p.n v=p.b:=by
 rw[mc1]
 show -dot p.n v=-p.b↔_
 omega
theorem Hc6 {a c k:V3} {p q:Pln} (h:Thr a c k q) (hp:okp p=true) (t1:dot p.n a=p.b) (t2:dot p.n c=p.b) (t3:dot p.n k=p.b):p=q∨p=ia3 q:=by
 obtain⟨s1,s2,s3⟩:=Kd6 h
 obtain⟨ok,⟨g,hg,e1,e2,e3⟩,o⟩:=h
 have d1:dot p.n (sub c a)=0:=by simp only[dot,sub] at *;grind
 have d2:dot p.n (sub k a)=0:=by simp only[dot,sub] at *;grind
 have hc:c9 q.n p.n=⟨0,0,0⟩:=by
  have z:∀ {x:Int},g*x=0→x=0:=fun h=>(Int.mul_eq_zero.1 h).resolve_left (by omega)
  generalize sub c a=u at *
  generalize sub k a=w at *
  refine V3.ext' (z ?_) (z ?_) (z ?_)
  ·have:g*(c9 q.n p.n).x=(g*q.n.y)*p.n.z - (g*q.n.z)*p.n.y:=by simp only[c9];grind
   rw[this,e2,e3]
   have:(c9 u w).y*p.n.z - (c9 u w).z*p.n.y=w.x*dot p.n u - u.x*dot p.n w:=by simp only[c9,dot];grind
   rw[this,d1,d2];simp
  ·have:g*(c9 q.n p.n).y=(g*q.n.z)*p.n.x - (g*q.n.x)*p.n.z:=by simp only[c9];grind
   rw[this,e1,e3]
   have:(c9 u w).z*p.n.x - (c9 u w).x*p.n.z=w.y*dot p.n u - u.y*dot p.n w:=by simp only[c9,dot];grind
   rw[this,d1,d2];simp
  ·have:g*(c9 q.n p.n).z=(g*q.n.x)*p.n.y - (g*q.n.y)*p.n.x:=by simp only[c9];grind
   rw[this,e1,e2]
   have:(c9 u w).x*p.n.y - (c9 u w).y*p.n.x=w.z*dot p.n u - u.z*dot p.n w:=by simp only[c9,dot];grind
   rw[this,d1,d2];simp
 obtain⟨pn,pb⟩:=p
 obtain⟨qn,qb⟩:=q
 rcases Xd0 (md2 ok) (md2 hp) hc with e | e
 ·left
  simp only at e o t1 s1 t2 t3
  subst e
  rw[← t1,s1]
 ·right
  simp only at e o t1 s1 t2 t3
  subst e
  rw[← t1]
  simp only[dot,neg,ia3] at s1 ⊢
  simp only[Pln.mk.injEq,true_and]
  grind
structure Xc5 (l:List V3) (p:Pln):Prop extends Fac l p.n p.b where
 ok:okp p=true
theorem md5 {l:List V3} {p:Pln} {u w x:V3} (hu:u∈l) (hw:w∈l) (hx:x∈l) (h:Thr u w x p) (hh:∀ v∈l,dot (ia3 p).n v≤(ia3 p).b):Xc5 l (ia3 p):=by
 obtain⟨s1,s2,s3⟩:=Kd6 h
 exact⟨⟨hh,u,w,x,hu,hw,hx,Bd3 h,(qc8 p u).2 s1,(qc8 p w).2 s2,(qc8 p x).2 s3⟩,mc0 h.ok⟩
theorem Kd7 {l:List V3} {p:Pln} {u w x:V3} (hu:u∈l) (hw:w∈l) (hx:x∈l) (h:Thr u w x p) (hh:∀ v∈l,dot p.n v≤p.b):Xc5 l p:=by
 obtain⟨s1,s2,s3⟩:=Kd6 h
 exact⟨⟨hh,u,w,x,hu,hw,hx,Bd3 h,s1,s2,s3⟩,h.ok⟩
theorem Le0 {u w x:V3} (h:N3 u w x≠⟨0,0,0⟩):N3 w u x≠⟨0,0,0⟩∧N3 u x w≠⟨0,0,0⟩∧N3 x w u≠⟨0,0,0⟩∧N3 w x u≠⟨0,0,0⟩∧N3 x u w≠⟨0,0,0⟩:=by
 have e1:N3 w u x=neg (N3 u w x):=V3.ext' (by simp only[N3,c9,ia4,neg];grind) (by simp only[N3,c9,ia4,neg];grind) (by simp only[N3,c9,ia4,neg];grind)
 have e2:N3 u x w=neg (N3 u w x):=V3.ext' (by simp only[N3,c9,ia4,neg];grind) (by simp only[N3,c9,ia4,neg];grind) (by simp only[N3,c9,ia4,neg];grind)
 have e3:N3 x w u=neg (N3 u w x):=V3.ext' (by simp only[N3,c9,ia4,neg];grind) (by simp only[N3,c9,ia4,neg];grind) (by simp only[N3,c9,ia4,neg];grind)
 have e4:N3 w x u=N3 u w x:=V3.ext' (by simp only[N3,c9,ia4];grind) (by simp only[N3,c9,ia4];grind) (by simp only[N3,c9,ia4];grind)
 have e5:N3 x u w=N3 u w x:=V3.ext' (by simp only[N3,c9,ia4];grind) (by simp only[N3,c9,ia4];grind) (by simp only[N3,c9,ia4];grind)
 rw[e1,e2,e3,e4,e5]
 exact⟨Kd2 h,Kd2 h,Kd2 h,h,h⟩
theorem Bf3 {u w x:V3} (h:N3 u w x≠⟨0,0,0⟩):u≠w∧u≠x∧w≠x:=by
 refine⟨fun e=>h ?_,fun e=>h ?_,fun e=>h ?_⟩<;>subst e<;>refine V3.ext' ?_ ?_ ?_<;>simp only[N3,c9,ia4]<;>grind
theorem Ye7 {l : List V3} {u w x : V3} (hu : u ∈ l) (hw : w ∈ l) (hx : x ∈ l) (h : N3 u w x ≠ ⟨0, 0, 0⟩) :
  ∃ a,a < l.length∧∃ c,c < a∧∃ k,k < c∧N3 (gL tV l a) (gL tV l c) (gL tV l k)≠⟨0,0,0⟩∧∀ f:V3→Prop,f u→f w→f x→f (gL tV l a)∧f (gL tV l c)∧f (gL tV l k):=by
 obtain⟨i,hi,rfl⟩:=List.mem_iff_getElem.1 hu
 obtain⟨j,hj,rfl⟩:=List.mem_iff_getElem.1 hw
 obtain⟨k,hk,rfl⟩:=List.mem_iff_getElem.1 hx
 obtain⟨n1,n2,n3⟩:=Bf3 h
 obtain⟨s1,s2,s3,s4,s5⟩:=Le0 h
 have d1:i≠j:=fun e=>n1 (by subst e;rfl)
 have d2:i≠k:=fun e=>n2 (by subst e;rfl)
 have d3:j≠k:=fun e=>n3 (by subst e;rfl)
 rw[← gb0 tV hi,← gb0 tV hj,← gb0 tV hk] at *
 rcases Nat.lt_or_gt_of_ne d1 with h1 | h1<;>rcases Nat.lt_or_gt_of_ne d2 with h2 | h2<;>rcases Nat.lt_or_gt_of_ne d3 with h3 | h3
 ·exact⟨k,hk,j,h3,i,h1,s3,fun f a b c=>⟨c,b,a⟩⟩
 ·exact⟨j,hj,k,h3,i,h2,s4,fun f a b c=>⟨b,c,a⟩⟩
 ·omega
 ·exact⟨j,hj,i,h1,k,h2,s1,fun f a b c=>⟨b,a,c⟩⟩
 ·exact⟨k,hk,i,h2,j,h1,s5,fun f a b c=>⟨c,a,b⟩⟩
 ·omega
 ·exact⟨i,hi,k,h2,j,h3,s2,fun f a b c=>⟨a,c,b⟩⟩
 ·exact⟨i,hi,j,h1,k,h3,h,fun f a b c=>⟨a,b,c⟩⟩
theorem Lb7 {l:List V3} (hl:l.all inV=true) (p:Pln):p∈F0 l↔Xc5 l p:=by
 have hin:=List.all_eq_true.1 hl
 constructor
 ·intro hp
  obtain⟨a,ha,c,hc,k,hk,h1,h2⟩:=(fe4 l p).1 hp
  have ma:=gLm ha
  have mc:=gLm (show c < l.length by omega)
  have mk:=gLm (show k < l.length by omega)
  have ht:=(Ba8 h1).2
  rcases h2 with⟨rfl,h3⟩ | ⟨rfl,h3⟩
  ·exact Kd7 ma mc mk ht ((eb6 ht.ok hl).1 h3)
  ·exact md5 ma mc mk ht ((eb6 (mc0 ht.ok) hl).1 h3)
 ·intro h
  obtain⟨u,w,x,hu,hw,hx,h3,t1,t2,t3⟩:=h.on
  obtain⟨a,ha,c,hc,k,hk,hn,hall⟩:=Ye7 hu hw hx h3
  obtain⟨i1,i2,i3⟩:=hall (fun v=>inV v=true) (hin u hu) (hin w hw) (hin x hx)
  obtain⟨e1,e2,e3⟩:=hall (fun v=>dot p.n v=p.b) t1 t2 t3
  have h2:=Tb4 i1 i2 i3 hn
  refine (fe4 l p).2 ⟨a,ha,c,hc,k,hk,h2,?_⟩
  have hh:=(eb6 h.ok hl).2 h.hd
  rcases Hc6 (Ba8 h2).2 h.ok e1 e2 e3 with e | e
  ·exact .inl ⟨e,hh⟩
  ·exact .inr ⟨e,hh⟩
theorem Ye8 {n:V3} (h:n≠⟨0,0,0⟩):0 < dot n n:=by
 have sq:∀ a:Int,0≤a*a:=fun a=>by
  by_cases h:0≤a
  ·exact Int.mul_nonneg h h
  ·have:=Int.mul_nonneg (show 0≤-a by omega) (show 0≤-a by omega)
   rw[Int.neg_mul_neg] at this
   exact this
 have z:∀ {a:Int},a*a=0→a=0:=fun h=>(Int.mul_eq_zero.1 h).elim id id
 have s1:=sq n.x;have s2:=sq n.y;have s3:=sq n.z
 by_cases h0:0 < dot n n
 ·exact h0
 ·exfalso
  simp only[dot] at h0
  exact h (V3.ext' (z (by omega)) (z (by omega)) (z (by omega)))
theorem ne5 {l:List V3} (hl:l.all inV=true) {c:List Pln} (hc:∀ p,Xc5 l p→p∈c):of5 l c:=fun n b hn hf=>by
 have hin:=List.all_eq_true.1 hl
 obtain⟨u,w,x,hu,hw,hx,h3,t1,t2,t3⟩:=hf.on
 have h2:=Tb4 (hin u hu) (hin w hw) (hin x hx) h3
 have ht:=(Ba8 h2).2
 generalize (J8 u w x).1=q at ht
 obtain⟨s1,s2,s3⟩:=Kd6 ht
 have hnn:=Ye8 hn
 have d1:dot n (ia4 w u)=0:=by simp only[dot,ia4] at *;grind
 have d2:dot n (ia4 x u)=0:=by simp only[dot,ia4] at *;grind
 -- the normals are parallel
 have par:dot n n*q.n.x=dot q.n n*n.x∧dot n n*q.n.y=dot q.n n*n.y∧dot n n*q.n.z=dot q.n n*n.z:=by
  obtain⟨ok,⟨g,hg,e1,e2,e3⟩,o⟩:=ht
  have z:∀ {x y:Int},g*(x - y)=0→x=y:=fun h=>by have:=(Int.mul_eq_zero.1 h).resolve_left (by omega);omega
  have eg:g*dot q.n n=(c9 (ia4 w u) (ia4 x u)).x*n.x+(c9 (ia4 w u) (ia4 x u)).y*n.y+(c9 (ia4 w u) (ia4 x u)).z*n.z:=by
   have:g*dot q.n n=(g*q.n.x)*n.x+(g*q.n.y)*n.y+(g*q.n.z)*n.z:=by simp only[dot];grind
   rw[this,e1,e2,e3];rfl
  have e1:g*q.n.x=(c9 (ia4 w u) (ia4 x u)).x:=e1
  have e2:g*q.n.y=(c9 (ia4 w u) (ia4 x u)).y:=e2
  have e3:g*q.n.z=(c9 (ia4 w u) (ia4 x u)).z:=e3
  generalize ia4 w u=p at *
  generalize ia4 x u=r at *
  refine⟨z ?_,z ?_,z ?_⟩
  ·have:g*(dot n n*q.n.x - dot q.n n*n.x)=dot n n*(g*q.n.x) - (g*dot q.n n)*n.x:=by grind
   rw[this,e1,eg]
   have:dot n n*(c9 p r).x - ((c9 p r).x*n.x+(c9 p r).y*n.y+(c9 p r).z*n.z)*n.x=(n.y*r.z - n.z*r.y)*dot n p - (n.y*p.z - n.z*p.y)*dot n r:=by simp only[dot,c9];grind
   rw[this,d1,d2];simp
  ·have:g*(dot n n*q.n.y - dot q.n n*n.y)=dot n n*(g*q.n.y) - (g*dot q.n n)*n.y:=by grind
   rw[this,e2,eg]
   have:dot n n*(c9 p r).y - ((c9 p r).x*n.x+(c9 p r).y*n.y+(c9 p r).z*n.z)*n.y=(n.z*r.x - n.x*r.z)*dot n p - (n.z*p.x - n.x*p.z)*dot n r:=by simp only[dot,c9];grind
   rw[this,d1,d2];simp
  ·have:g*(dot n n*q.n.z - dot q.n n*n.z)=dot n n*(g*q.n.z) - (g*dot q.n n)*n.z:=by grind
   rw[this,e3,eg]
   have:dot n n*(c9 p r).z - ((c9 p r).x*n.x+(c9 p r).y*n.y+(c9 p r).z*n.z)*n.z=(n.x*r.y - n.y*r.x)*dot n p - (n.x*p.y - n.y*p.x)*dot n r:=by simp only[dot,c9];grind
   rw[this,d1,d2];simp
 have fin:∀ r:Pln,Thr u w x q→(r=q∨r=ia3 q)→0 < dot r.n n→(dot n n*r.n.x=dot r.n n*n.x∧dot n n*r.n.y=dot r.n n*n.y∧dot n n*r.n.z=dot r.n n*n.z)→∃ s t:Int,0 < s∧0 < t∧∃ q∈c,t*q.n.x=s*n.x∧t*q.n.y=s*n.y∧t*q.n.z=s*n.z∧t*q.b=s*b:=fun r ht hr hp ⟨p1,p2,p3⟩=>by
  have hru:dot r.n u=r.b:=by
   rcases hr with rfl | rfl
   ·exact s1
   ·exact (qc8 q u).2 s1
  have ed:∀ v,dot n n*dot r.n v=dot r.n n*dot n v:=fun v=>by
   have:dot n n*dot r.n v=(dot n n*r.n.x)*v.x+(dot n n*r.n.y)*v.y+(dot n n*r.n.z)*v.z:=by
    generalize dot n n=t
    simp only[dot];grind
   rw[this,p1,p2,p3]
   generalize dot r.n n=s
   simp only[dot];grind
  have eb:dot n n*r.b=dot r.n n*b:=by rw[← hru,ed,t1]
  have hd:∀ v∈l,dot r.n v≤r.b:=fun v hv=>by
   have h1:=Int.mul_le_mul_of_nonneg_left (hf.hd v hv) (Int.le_of_lt hp)
   rw[← ed,← eb] at h1
   exact Int.le_of_mul_le_mul_left h1 hnn
  have hF:Xc5 l r:=by
   rcases hr with rfl | rfl
   ·exact Kd7 hu hw hx ht hd
   ·exact md5 hu hw hx ht hd
  exact⟨dot r.n n,dot n n,hp,hnn,r,hc r hF,p1,p2,p3,eb⟩
 by_cases h0:0 < dot q.n n
 ·exact fin q ht (.inl rfl) h0 par
 ·refine fin (ia3 q) ht (.inr rfl) ?_ ?_
  ·rw[mc1]
   have:dot q.n n≠0:=fun e=>by
    obtain⟨p1,p2,p3⟩:=par
    rw[e] at p1 p2 p3
    simp only[Int.zero_mul] at p1 p2 p3
    have z:∀ {x:Int},dot n n*x=0→x=0:=fun h=>(Int.mul_eq_zero.1 h).resolve_left (by omega)
    exact Hc4 ht.ok (V3.ext' (z p1) (z p2) (z p3))
   omega
  ·rw[mc1]
   obtain⟨p1,p2,p3⟩:=par
   show dot n n*-q.n.x=_∧dot n n*-q.n.y=_∧dot n n*-q.n.z=_
   rw[Int.mul_neg,Int.mul_neg,Int.mul_neg,p1,p2,p3,Int.neg_mul,Int.neg_mul,Int.neg_mul]
   exact⟨rfl,rfl,rfl⟩
theorem Ye9 {l : List V3} (hl : l.all inV = true) (h4 : Sol l) {p q : Pln} (hp : Xc5 l p) (hq : Xc5 l q) {u w x : V3} (hu : u ∈ l) (hw : w ∈ l) (hx : x ∈ l) (h3 : N3 u w x ≠ ⟨0, 0, 0⟩)
  (p1:dot p.n u=p.b) (p2:dot p.n w=p.b) (p3:dot p.n x=p.b) (q1:dot q.n u=q.b) (q2:dot q.n w=q.b) (q3:dot q.n x=q.b):q=p:=by
 have hin:=List.all_eq_true.1 hl
 have ht:=(Ba8 (Tb4 (hin u hu) (hin w hw) (hin x hx) h3)).2
 have no:∀ r:Pln,Xc5 l r→Xc5 l (ia3 r)→False:=fun r h h'=>by
  obtain⟨v,hv,hne⟩:=h4.off (Hc4 h.ok) r.b
  have a1:=h.hd v hv
  have a2:=h'.hd v hv
  rw[mc1] at a2
  have:(ia3 r).b=-r.b:=rfl
  omega
 rcases Hc6 ht hp.ok p1 p2 p3 with rfl | rfl<;>rcases Hc6 ht hq.ok q1 q2 q3 with rfl | rfl
 ·rfl
 ·exact (no _ hp hq).elim
 ·exact (no _ hq hp).elim
 ·rfl
end Go.Ev.Ce
section
namespace Go.Ev.Ce
open Go Go.Ev Go.Ev.L Go.Proofs
set_option maxRecDepth 100000
noncomputable def Kd8:List (Nat×Sum):=[]
theorem ud6:i4 prog G Kd8:=trivial
noncomputable def Oa3 (x:V3) (y:V3):V3:=(⟨(W (x.x - y.x)),(W (x.y - y.y)),(W (x.z - y.z))⟩:V3)
noncomputable def mc2:Sum:=Sa3 (ua9 tV) (ua9 tV) (fun x y=>.ret ((one r1V).enc (Oa3 x y),[]))
theorem Hc7:g8 prog G 116 mc2:=bb3 (bd Ff8 ud6) fun x y=>q8 (by kernel_rfl)
noncomputable def ud7:List (Nat×Sum):=[(116,mc2)]
theorem md6:i4 prog G ud7:=⟨Hc7,trivial⟩
noncomputable def Qa5 (x:Pln):Pln:=let t1:=(Oa3 (⟨0,0,0⟩:V3) x.n);(⟨t1,(W (0 - x.b))⟩:Pln)
noncomputable def Hc8:Sum:=S5 (ua9 tP) (fun x=>.ret ((one r1P).enc (Qa5 x),[]))
theorem ud8:g8 prog G 36 Hc8:=lb0 (bd b36 md6) fun x=>q8 (by kernel_rfl)
structure fe6 where
 bs5:Bool
 Mf1:List Pln
 ns8:Nat
 ns9:Nat
 Lf9:List Pt
 Mf2:Int
 e8:Int
 c7:Int
 f0:Int
 d9:Int
 eh1:List (List b7)
 eh2:List (List b7)
structure fe7 where
 Mf3:Bool
 Mf4:Bool
 Mf5:Int
end Go.Ev.Ce
end
