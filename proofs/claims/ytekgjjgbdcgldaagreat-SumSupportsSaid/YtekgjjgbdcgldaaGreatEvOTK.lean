/- Own work: a part of the proof. -/
import Derived.Test.YtekgjjgbdcgldaaGreatEvOGe2
import Derived.Test.YtekgjjgbdcgldaaGreatEvOT0
import Derived.Test.YtekgjjgbdcgldaaGreatEvSp3
import Derived.ChangeStays
import Derived.ChangeSame
import Derived.OpenShut
import Derived.RowKit
import Derived.Test.YtekgjjgbdcgldaaGreatEvODM
import Derived.KernelRfl
set_option linter.unusedVariables false
set_option linter.unusedSimpArgs false
set_option linter.unnecessarySimpa false
set_option linter.unusedSectionVars false
section
namespace Go.Ev.Ce
open Go Go.Ev Go.Ev.L Go.Proofs
set_option maxRecDepth 100000
structure xa8 where
 f9:List V3
 Q8:List V3
noncomputable def Ha8:List (Nat×Sum):=[(34,wb1)]
theorem Vb0:j9 prog G Ha8:=⟨Pb9,trivial⟩
structure B6 where
 Q8:List V3
 X9:List V3
 S6:Int
 o0:Int
 pb5:List V3
 dd8:Int
 C9:Int
 D0:Int
 D1:Int
structure n9 where
 ph:Nat
 wa0:Int
 ns7:Nat
 eh0:List (List b7)
 eh1:List (List b7)
 ya0:Int
 ya1:Int
 ya2:Int
noncomputable def Db9 (p:B6) (s:n9):St:=⟨(.unk::((eL tV p.Q8)::((.fn 34 [])::(ra 4 ((.v (.slice none 0 0))::((.ptr 0 0 0 0)::(.unk::((.ptr 1 0 0 0)::(ra 4 ((eL tV p.X9)::((i p.S6)::((i p.o0)::(ra 3 ((eL tV p.pb5)::((i p.dd8)::((i s.wa0)::(ra 20 []))))))))))))))))),[⟨153,0,[],true,false,0⟩,⟨0,3,[[(i p.C9),(i p.D0),(i p.D1)]],true,false,0⟩]⟩
noncomputable def Eb0 (p:B6) (s:n9):St:=⟨(.unk::((eL tV p.Q8)::((.fn 34 [])::(ra 4 ((.sl 0 0 s.ns7 0)::((.ptr 1 0 0 0)::(.unk::((.ptr 2 0 0 0)::(ra 4 ((eL tV p.X9)::((i p.S6)::((i p.o0)::(ra 3 ((eL tV p.pb5)::((i p.dd8)::((i s.wa0)::(ra 20 []))))))))))))))))),[⟨27,3,s.eh0,true,false,0⟩,⟨153,0,s.eh1,true,false,0⟩,⟨0,3,[[(i s.ya0),(i s.ya1),(i s.ya2)]],true,false,0⟩]⟩
noncomputable def Lb3 (p:B6) (s:n9):St:=(sel (Nat.beq s.ph 1) (Eb0 p s) (Db9 p s))
noncomputable def J0 {α:Type} (k:n9→α) (e:Nat→α) (z:α) (p:B6) (s:n9):α:=let t1:=(f7 (⟨p.C9,p.D0,p.D1⟩:V3) (gL tV p.pb5 s.wa0.toNat));(sl (decide (s.wa0 < p.dd8)) (sl (inB s.wa0 (List.length p.pb5)) (sl (!(za2 3 [(0,(.int .i64)),(1,(.int .i64)),(2,(.int .i64))] [(i t1.x),(i t1.y),(i t1.z)] [])) (k ⟨1,(W (s.wa0+1)),1,[[(i t1.x),(i t1.y),(i t1.z)]],(T3 [(0,(.int .i64)),(1,(.int .i64)),(2,(.int .i64))] [(i t1.x),(i t1.y),(i t1.z)] [(i t1.x),(i t1.y),(i t1.z),(b true)] []),p.C9,p.D0,p.D1⟩) (k ⟨0,(W (s.wa0+1)),0,[],[],0,0,0⟩)) z) (e 1))
noncomputable def J1 {α:Type} (k:n9→α) (e:Nat→α) (z:α) (p:B6) (s:n9):α:=let t1:=(f7 (⟨s.ya0,s.ya1,s.ya2⟩:V3) (gL tV p.pb5 s.wa0.toNat));(sl (decide (s.wa0 < p.dd8)) (sl (inB s.wa0 (List.length p.pb5)) (sl (!(za2 3 [(0,(.int .i64)),(1,(.int .i64)),(2,(.int .i64))] [(i t1.x),(i t1.y),(i t1.z)] s.eh1)) (sl (Nat.beq s.ns7 (len s.eh0)&&Nat.ble ((s.ns7+1)*24) room) (k ⟨1,(W (s.wa0+1)),(s.ns7+1),(app s.eh0 [[(i t1.x),(i t1.y),(i t1.z)]]),(T3 [(0,(.int .i64)),(1,(.int .i64)),(2,(.int .i64))] [(i t1.x),(i t1.y),(i t1.z)] [(i t1.x),(i t1.y),(i t1.z),(b true)] s.eh1),s.ya0,s.ya1,s.ya2⟩) z) (k ⟨1,(W (s.wa0+1)),s.ns7,s.eh0,s.eh1,s.ya0,s.ya1,s.ya2⟩)) z) (e 2))
noncomputable def G7 (p:B6) (s:n9):Stp n9:=(sel (Nat.beq s.ph 1) (J1 .next .exit .fail p s) (J0 .next .exit .fail p s))
noncomputable def Ea4:Lo B6 n9:=⟨En Ha8,0,Ge0,[1,1,1,0,1,4,4,1,1,0,4,1,1,4,4],[1,2,7,8,10,15,16,17,21,22,23],.p,[⟨((.s (.o .unk))::((.s (.c 3 (nL tV)))::((.s (.o (.fn 34)))::(ru2 4 ((.s (.o .nil))::((.s (.o (.ptr 0 0 0 0)))::((.s (.o .unk))::((.s (.o (.ptr 1 0 0 0)))::(ru2 4 ((.s (.c 3 (nL tV)))::((.s (.o (.int .i64)))::((.s (.o (.int .i64)))::(ru2 3 ((.s (.c 3 (nL tV)))::((.s (.o (.int .i64)))::((.s (.o (.int .i64)))::(ru2 20 []))))))))))))))))),[⟨153,0,true,(some [])⟩,⟨0,3,true,(some [[(.o (.int .i64)),(.o (.int .i64)),(.o (.int .i64))]])⟩],fun a H=>(⟨(rL tV (slT a 1)),(rL tV (slT a 15)),(toI (slT a 16)),(toI (slT a 17)),(rL tV (slT a 21)),(toI (slT a 22)),(toI (slT (rwT (elT H 1) 0) 0)),(toI (slT (rwT (elT H 1) 0) 1)),(toI (slT (rwT (elT H 1) 0) 2))⟩,⟨0,(toI (slT a 23)),0,[],[],0,0,0⟩)⟩,⟨((.s (.o .unk))::((.s (.c 3 (nL tV)))::((.s (.o (.fn 34)))::(ru2 4 ((.s (.o (.sl 0 0 (some 0) none)))::((.s (.o (.ptr 1 0 0 0)))::((.s (.o .unk))::((.s (.o (.ptr 2 0 0 0)))::(ru2 4 ((.s (.c 3 (nL tV)))::((.s (.o (.int .i64)))::((.s (.o (.int .i64)))::(ru2 3 ((.s (.c 3 (nL tV)))::((.s (.o (.int .i64)))::((.s (.o (.int .i64)))::(ru2 20 []))))))))))))))))),[⟨27,3,true,none⟩,⟨153,0,true,none⟩,⟨0,3,true,(some [[(.o (.int .i64)),(.o (.int .i64)),(.o (.int .i64))]])⟩],fun a H=>(⟨(rL tV (slT a 1)),(rL tV (slT a 15)),(toI (slT a 16)),(toI (slT a 17)),(rL tV (slT a 21)),(toI (slT a 22)),0,0,0⟩,⟨1,(toI (slT a 23)),(slN (slT a 7)),(elT H 0),(elT H 1),(toI (slT (rwT (elT H 2) 0) 0)),(toI (slT (rwT (elT H 2) 0) 1)),(toI (slT (rwT (elT H 2) 0) 2))⟩)⟩],G7,[(some 2,fun p s=>⟨(.unk::((eL tV p.Q8)::((.fn 34 [])::(ra 4 ((.v (.slice none 0 0))::((.ptr 0 0 0 0)::(.unk::((.ptr 1 0 0 0)::(ra 4 ((eL tV p.X9)::((i p.S6)::((i p.o0)::(ra 3 ((eL tV p.pb5)::((i p.dd8)::((i s.wa0)::((b (decide (s.wa0 < p.dd8)))::(ra 19 [])))))))))))))))))),[⟨153,0,[],true,false,0⟩,⟨0,3,[[(i p.C9),(i p.D0),(i p.D1)]],true,false,0⟩]⟩),(some 2,fun p s=>⟨(.unk::((eL tV p.Q8)::((.fn 34 [])::(ra 4 ((.sl 0 0 s.ns7 0)::((.ptr 1 0 0 0)::(.unk::((.ptr 2 0 0 0)::(ra 4 ((eL tV p.X9)::((i p.S6)::((i p.o0)::(ra 3 ((eL tV p.pb5)::((i p.dd8)::((i s.wa0)::((b (decide (s.wa0 < p.dd8)))::(ra 19 [])))))))))))))))))),[⟨27,3,s.eh0,true,false,0⟩,⟨153,0,s.eh1,true,false,0⟩,⟨0,3,[[(i s.ya0),(i s.ya1),(i s.ya2)]],true,false,0⟩]⟩)],Lb3⟩
theorem Lb4:Ea4.OkM:=Lo.okM [] (by kernel_rfl) .nil rfl (.cons (fun a H=>by kernel_rfl) (.cons (fun a H=>by kernel_rfl) .nil)) fun p s=>(.sel (Nat.beq s.ph 1) (.of @J1 (fun F _ _ _ _ _=>by unfold J1;(repeat' apply o9 (f:=F))<;>rfl) (by kernel_rfl)) (.of @J0 (fun F _ _ _ _ _=>by unfold J0;(repeat' apply o9 (f:=F))<;>rfl) (by kernel_rfl)))
structure J6 where
 S6:Int
structure q9 where
 ph:Nat
 Q8:List V3
 X9:List V3
 o0:Int
 ns7:Nat
 eh0:List (List b7)
 eh1:List (List b7)
noncomputable def Eb1 (p:J6) (s:q9):St:=⟨(.unk::((eL tV s.Q8)::((.fn 34 [])::(ra 4 ((.v (.slice none 0 0))::((.ptr 0 0 0 0)::(ra 6 ((eL tV s.X9)::((i p.S6)::((i s.o0)::(ra 26 []))))))))))),[⟨153,0,[],true,false,0⟩]⟩
noncomputable def Eb2 (p:J6) (s:q9):St:=⟨(.unk::((eL tV s.Q8)::((.fn 34 [])::(ra 4 ((.sl 0 0 s.ns7 0)::((.ptr 1 0 0 0)::(ra 6 ((eL tV s.X9)::((i p.S6)::((i s.o0)::(ra 26 []))))))))))),[⟨27,3,s.eh0,true,false,0⟩,⟨153,0,s.eh1,true,false,0⟩]⟩
noncomputable def Lb5 (p:J6) (s:q9):St:=(sel (Nat.beq s.ph 1) (Eb2 p s) (Eb1 p s))
noncomputable def J2 {α:Type} (k:q9→α) (e:Nat→α) (z:α) (p:J6) (s:q9):α:=let t1:=(lp (G7 (⟨(rt tV s.Q8),(rt tV s.X9),p.S6,s.o0,(rt tV s.Q8),(↑(List.length s.Q8):Int),(gL tV s.X9 s.o0.toNat).x,(gL tV s.X9 s.o0.toNat).y,(gL tV s.X9 s.o0.toNat).z⟩:B6)) (⟨0,0,0,[],[],0,0,0⟩:n9));(sl (decide (s.o0 < p.S6)) (sl (inB s.o0 (List.length s.X9)) (sl ((cnE tV s.Q8)&&((cnE tV s.X9)&&((cnE tV s.Q8)&&true))) (sl (Nat.beq t1.1 1) (k ⟨0,(rt tV s.Q8),(rt tV s.X9),(W (s.o0+1)),0,[],[]⟩) (sl (Nat.beq t1.1 2) (k ⟨1,(rt tV s.Q8),(rt tV s.X9),(W (s.o0+1)),t1.2.ns7,t1.2.eh0,t1.2.eh1⟩) z)) z) z) (e 1))
noncomputable def J3 {α:Type} (k:q9→α) (e:Nat→α) (z:α) (p:J6) (s:q9):α:=let t1:=(lp (G7 (⟨(rt tV s.Q8),(rt tV s.X9),p.S6,s.o0,(rt tV s.Q8),(↑(List.length s.Q8):Int),0,0,0⟩:B6)) (⟨1,0,s.ns7,s.eh0,s.eh1,(gL tV s.X9 s.o0.toNat).x,(gL tV s.X9 s.o0.toNat).y,(gL tV s.X9 s.o0.toNat).z⟩:n9));(sl (decide (s.o0 < p.S6)) (sl (inB s.o0 (List.length s.X9)) (sl ((cnE tV s.Q8)&&((cnE tV s.X9)&&((cnE tV s.Q8)&&true))) (sl (Nat.beq t1.1 1) (k ⟨0,(rt tV s.Q8),(rt tV s.X9),(W (s.o0+1)),0,[],[]⟩) (sl (Nat.beq t1.1 2) (k ⟨1,(rt tV s.Q8),(rt tV s.X9),(W (s.o0+1)),t1.2.ns7,t1.2.eh0,t1.2.eh1⟩) z)) z) z) (e 2))
noncomputable def ca3 (p:J6) (s:q9):Stp q9:=(sel (Nat.beq s.ph 1) (J3 .next .exit .fail p s) (J2 .next .exit .fail p s))
noncomputable def Ea5:Lo J6 q9:=⟨En Ha8,0,Ge0,[1,1,1,0,1,4,4],[1,2,7,8,15,16,17],(.s .p (.s .p (.s (.b (.s .p (.s .p (.b (.u Ea4.lsM))))) .p))),[⟨((.s (.o .unk))::((.s (.c 3 (nL tV)))::((.s (.o (.fn 34)))::(ru2 4 ((.s (.o .nil))::((.s (.o (.ptr 0 0 0 0)))::(ru2 6 ((.s (.c 3 (nL tV)))::((.s (.o (.int .i64)))::((.s (.o (.int .i64)))::(ru2 26 []))))))))))),[⟨153,0,true,(some [])⟩],fun a H=>(⟨(toI (slT a 16))⟩,⟨0,(rL tV (slT a 1)),(rL tV (slT a 15)),(toI (slT a 17)),0,[],[]⟩)⟩,⟨((.s (.o .unk))::((.s (.c 3 (nL tV)))::((.s (.o (.fn 34)))::(ru2 4 ((.s (.o (.sl 0 0 (some 0) none)))::((.s (.o (.ptr 1 0 0 0)))::(ru2 6 ((.s (.c 3 (nL tV)))::((.s (.o (.int .i64)))::((.s (.o (.int .i64)))::(ru2 26 []))))))))))),[⟨27,3,true,none⟩,⟨153,0,true,none⟩],fun a H=>(⟨(toI (slT a 16))⟩,⟨1,(rL tV (slT a 1)),(rL tV (slT a 15)),(toI (slT a 17)),(slN (slT a 7)),(elT H 0),(elT H 1)⟩)⟩],ca3,[(some 0,fun p s=>⟨(.unk::((eL tV s.Q8)::((.fn 34 [])::(ra 4 ((.v (.slice none 0 0))::((.ptr 0 0 0 0)::(ra 6 ((eL tV s.X9)::((i p.S6)::((i s.o0)::((b (decide (s.o0 < p.S6)))::(ra 25 [])))))))))))),[⟨153,0,[],true,false,0⟩]⟩),(some 0,fun p s=>⟨(.unk::((eL tV s.Q8)::((.fn 34 [])::(ra 4 ((.sl 0 0 s.ns7 0)::((.ptr 1 0 0 0)::(ra 6 ((eL tV s.X9)::((i p.S6)::((i s.o0)::((b (decide (s.o0 < p.S6)))::(ra 25 [])))))))))))),[⟨27,3,s.eh0,true,false,0⟩,⟨153,0,s.eh1,true,false,0⟩]⟩)],Lb5⟩
theorem Lb6:Ea5.OkM:=Lo.okM [Ea4.prM] (by kernel_rfl) (.cons Lb4 .nil) rfl (.cons (fun a H=>by kernel_rfl) (.cons (fun a H=>by kernel_rfl) .nil)) fun p s=>(.sel (Nat.beq s.ph 1) (.of @J3 (fun F _ _ _ _ _=>by unfold J3;(repeat' apply o9 (f:=F))<;>rfl) (by kernel_rfl)) (.of @J2 (fun F _ _ _ _ _=>by unfold J2;(repeat' apply o9 (f:=F))<;>rfl) (by kernel_rfl)))
structure xa9 where
 alt:Nat
 ns0:Nat
 eh0:List (List b7)
noncomputable def ea6 {α:Type} (kk:xa9→α) (x:xa8):α:=let t1:=(lp (ca3 (⟨(↑(List.length x.f9):Int)⟩:J6)) (⟨0,(rt tV x.Q8),(rt tV x.f9),0,0,[],[]⟩:q9));(sl ((cnE tV x.Q8)&&((cnE tV x.f9)&&true)) (sl (Nat.beq t1.1 1) (kk ⟨1,0,[]⟩) (sl (Nat.beq t1.1 2) (kk ⟨2,t1.2.ns7,t1.2.eh0⟩) (kk ⟨0,0,[]⟩))) (kk ⟨0,0,[]⟩))
noncomputable def Oa4 (x:xa8):xa9:=ea6 (fun r=>r) x
noncomputable def Ha9 (x:xa8) (r:xa9):DT (b7×List b9):=(.ite (Nat.beq r.alt 1) (.ret ((.v (.slice none 0 0)),[])) (.ite (Nat.beq r.alt 2) (.ret ((.sl 0 0 r.ns0 0),[⟨27,3,r.eh0,true,false,0⟩])) .fail))
theorem oc5 {α β:Type} (F:α→β) (kk:xa9→α) (x:xa8):F (ea6 kk x)=ea6 (fun r=>F (kk r)) x:=by unfold ea6;(repeat' apply o9 (f:=F))<;>rfl
noncomputable def rb0:Sum:=Ua3 ⟨[(.s (.c 3 (nL tV))),(.s (.c 3 (nL tV))),(.s (.o (.fn 34)))],[],fun a H=>(⟨(rL tV (slT a 0)),(rL tV (slT a 1))⟩,())⟩ (fun x=>Ha9 x (Oa4 x))
theorem ec6:i4 prog G 79 rb0:=P8 (enc:=fun x=>⟨[(eL tV x.f9),(eL tV x.Q8),(.fn 34 [])],[]⟩) (fun a H=>by kernel_rfl) (bd b79 Vb0) fun x=>ld3 (.s .p (.s .p (.s .p (.s (.s .p (.b (.u Ea5.lsM))) .p)))) [Ea5.prM] (by kernel_rfl) (.cons Lb6 .nil) (Eq.trans (b:=ea6 (fun r=>(Ha9 x r).run) x) (by kernel_rfl) (oc5 (fun r=>(Ha9 x r).run) (fun r=>r) x).symm)
noncomputable def Bd1:List (Nat×Sum):=[(79,rb0),(35,Oa3)]
theorem qd2:j9 prog G Bd1:=⟨ec6,jb9,trivial⟩
noncomputable def kb0 (x:List V3) (y:List V3):Option (b7×List b9):=let t1:=(Oa4 ⟨(rt tV x),(rt tV y)⟩);let t2:=(xa5 ());let t3:=(P4 (slR tV t1.eh0 0 t1.ns0));(sl (decide ((if (↑(List.length y):Int) > (↑(List.length x):Int) then (↑(List.length y):Int) else (↑(List.length x):Int)) > 48)) (some ((.tup [(.v (.slice none 0 0)),(i 2)]),[])) (sl ((cnE tV x)&&((cnE tV y)&&true)) (sl (Nat.beq t1.alt 1) (sl (xa6 ()) (some ((.tup [(eL tV t2.1),(i t2.2)]),[])) none) (sl (Nat.beq t1.alt 2) (sl (okS tV t1.eh0 0 t1.ns0) (sl (P5 (slR tV t1.eh0 0 t1.ns0)) (some ((.tup [(eL tV t3.1),(i t3.2)]),[])) none) none) none)) none))
noncomputable def ea7 (x:List V3) (y:List V3):List V3×Int:=U2 (two (r1L tV) r1I) (kb0 x y)
noncomputable def z6 (x:List V3) (y:List V3):Bool:=okO (two (r1L tV) r1I) (kb0 x y)
noncomputable def ec7:Sum:=na9 (ta7 tV) (ta7 tV) (fun x y=>.guard (z6 x y) (.ret ((two (r1L tV) r1I).enc (ea7 x y),[])))
theorem Ec5:i4 prog G 28 ec7:=mb5 (bd b28 qd2) (two (r1L tV) r1I) (o:=kb0) fun x y=>A0 (by kernel_rfl)
noncomputable def yb9:List (Nat×Sum):=[(83,Ka9)]
theorem oc6:j9 prog G yb9:=⟨Qa0,trivial⟩
structure ma4 where
 f9:List V3
 Lb8:List V3
 rd9:Int
 c9:Int
 c7:Int
 d7:Int
structure P6 where
 is6:Int
 Mc8:Int
noncomputable def ec8 (p:ma4) (s:P6):St:=⟨((eL tV p.f9)::(.unk::(.unk::((.ptr 0 0 0 0)::(.unk::(.unk::((i s.is6)::(ra 3 ((eL tV p.Lb8)::((i p.rd9)::((i s.Mc8)::(ra 20 [])))))))))))),[⟨0,3,[[(i p.c9),(i p.c7),(i p.d7)]],true,false,0⟩]⟩
noncomputable def ga5 {α:Type} (k:P6→α) (e:Nat→α) (z:α) (p:ma4) (s:P6):α:=let t1:=(j7 (gL tV p.Lb8 s.Mc8.toNat) (⟨p.c9,p.c7,p.d7⟩:V3));(sl (decide (s.Mc8 < p.rd9)) (sl (inB s.Mc8 (List.length p.Lb8)) (sl (s.Mc8==0) (k ⟨t1,(W (s.Mc8+1))⟩) (sl (decide (t1 > s.is6)) (k ⟨t1,(W (s.Mc8+1))⟩) (k ⟨s.is6,(W (s.Mc8+1))⟩))) z) (e 1))
noncomputable def ba1 (p:ma4) (s:P6):Stp P6:=ga5 .next .exit .fail p s
noncomputable def Oa5:Lo ma4 P6:=⟨En yb9,0,Oe3,[1,1,0,1,4,4],[0,3,6,10,11,12],.p,[⟨((.s (.c 3 (nL tV)))::((.s (.o .unk))::((.s (.o .unk))::((.s (.o (.ptr 0 0 0 0)))::((.s (.o .unk))::((.s (.o .unk))::((.s (.o (.int .i64)))::(ru2 3 ((.s (.c 3 (nL tV)))::((.s (.o (.int .i64)))::((.s (.o (.int .i64)))::(ru2 20 [])))))))))))),[⟨0,3,true,(some [[(.o (.int .i64)),(.o (.int .i64)),(.o (.int .i64))]])⟩],fun a H=>(⟨(rL tV (slT a 0)),(rL tV (slT a 10)),(toI (slT a 11)),(toI (slT (rwT (elT H 0) 0) 0)),(toI (slT (rwT (elT H 0) 0) 1)),(toI (slT (rwT (elT H 0) 0) 2))⟩,⟨(toI (slT a 6)),(toI (slT a 12))⟩)⟩],ba1,[(some 0,fun p s=>⟨((eL tV p.f9)::(.unk::(.unk::((.ptr 0 0 0 0)::(.unk::(.unk::((i s.is6)::(ra 3 ((eL tV p.Lb8)::((i p.rd9)::((i s.Mc8)::((b (decide (s.Mc8 < p.rd9)))::(ra 19 []))))))))))))),[⟨0,3,[[(i p.c9),(i p.c7),(i p.d7)]],true,false,0⟩]⟩)],ec8⟩
theorem ec9:Oa5.Ok:=Lo.ok [] (by kernel_rfl) .nil rfl (.cons (fun a H=>by kernel_rfl) .nil) fun p s=>(.of @ga5 (fun F _ _ _ _ _=>by unfold ga5;(repeat' apply o9 (f:=F))<;>rfl) (by kernel_rfl))
noncomputable def va9 (x:List V3) (y:V3):Option (b7×List b9):=let t1:=(lp (ba1 (⟨(rt tV x),(rt tV x),(↑(List.length x):Int),y.x,y.y,y.z⟩:ma4)) (⟨0,0⟩:P6));(sl ((cnE tV x)&&((cnE tV x)&&true)) (sl (Nat.beq t1.1 1) (some ((.tup [(i t1.2.is6),(b (decide ((↑(List.length (rt tV x)):Int) > 0)))]),[])) none) none)
noncomputable def M7 (x:List V3) (y:V3):Int×Bool:=U2 (two r1I r1B) (va9 x y)
noncomputable def k9 (x:List V3) (y:V3):Bool:=okO (two r1I r1B) (va9 x y)
noncomputable def gb0:Sum:=na9 (ta7 tV) (S9 tV) (fun x y=>.guard (k9 x y) (.ret ((two r1I r1B).enc (M7 x y),[])))
theorem zb0:i4 prog G 31 gb0:=mb5 (bd b31 oc6) (two r1I r1B) (o:=va9) fun x y=>Pa9 (.s .p (.s .p (.s (.s .p (.b (.u Oa5.ls))) .p))) [Oa5.pr] (by kernel_rfl) (.cons ec9 .nil) (by kernel_rfl)
end Go.Ev.Ce
end
section
namespace Go.Ev.Ce
open Go Go.Ev Go.Ev.L Go.Proofs
set_option maxRecDepth 100000
structure Ra8 where
 ca7:Int
 ca8:Int
 ca9:Int
 Hb7:Int
 c9:Int
 c7:Int
 d7:Int
noncomputable def Mc4:List (Nat×Sum):=[(88,Ca4)]
theorem Ec6:j9 prog G Mc4:=⟨Ia8,trivial⟩
structure Ra9 where
 alt:Nat
 bs0:Bool
noncomputable def ta2 {α:Type} (kk:Ra9→α) (x:Ra8):α:=let t1:=(fa3 (⟨(⟨x.ca7,x.ca8,x.ca9⟩:V3),x.Hb7⟩:Pln) (⟨x.c9,x.c7,x.d7⟩:V3));(sl (fa4 (⟨(⟨x.ca7,x.ca8,x.ca9⟩:V3),x.Hb7⟩:Pln) (⟨x.c9,x.c7,x.d7⟩:V3)) (kk ⟨1,(decide (t1 > 0))⟩) (kk ⟨0,false⟩))
noncomputable def Sa0 (x:Ra8):Ra9:=ta2 (fun r=>r) x
noncomputable def gb1 (x:Ra8) (r:Ra9):DT (b7×List b9):=(.ite (Nat.beq r.alt 1) (.ret ((b r.bs0),[⟨0,3,[[(i x.c9),(i x.c7),(i x.d7)]],true,false,0⟩])) .fail)
theorem cd2 {α β:Type} (F:α→β) (kk:Ra9→α) (x:Ra8):F (ta2 kk x)=ta2 (fun r=>F (kk r)) x:=by unfold ta2;(repeat' apply o9 (f:=F))<;>rfl
noncomputable def Vb1:Sum:=Ua3 ⟨[(.agg [(.o (.int .i64)),(.o (.int .i64)),(.o (.int .i64)),(.o (.int .i64))]),(.s (.o (.ptr 0 0 0 0)))],[⟨0,3,true,(some [[(.o (.int .i64)),(.o (.int .i64)),(.o (.int .i64))]])⟩],fun a H=>(⟨(toI (slT (cellsOf (slT a 0)) 0)),(toI (slT (cellsOf (slT a 0)) 1)),(toI (slT (cellsOf (slT a 0)) 2)),(toI (slT (cellsOf (slT a 0)) 3)),(toI (slT (rwT (elT H 0) 0) 0)),(toI (slT (rwT (elT H 0) 0) 1)),(toI (slT (rwT (elT H 0) 0) 2))⟩,())⟩ (fun x=>gb1 x (Sa0 x))
theorem Mc5:i4 prog G 87 Vb1:=P8 (enc:=fun x=>⟨[(.agg [(i x.ca7),(i x.ca8),(i x.ca9),(i x.Hb7)]),(.ptr 0 0 0 0)],[⟨0,3,[[(i x.c9),(i x.c7),(i x.d7)]],true,false,0⟩]⟩) (fun a H=>by kernel_rfl) (bd b87 Ec6) fun x=>A0 (Eq.trans (b:=ta2 (fun r=>(gb1 x r).run) x) (by kernel_rfl) (cd2 (fun r=>(gb1 x r).run) (fun r=>r) x).symm)
structure Q3 where
 n8:List Pln
 c9:Int
 c7:Int
 d7:Int
noncomputable def qa9:List (Nat×Sum):=[(87,Vb1)]
theorem Sa1:j9 prog G qa9:=⟨Mc5,trivial⟩
structure E4 where
 n8:List Pln
 is7:Int
 c9:Int
 c7:Int
 d7:Int
structure m9 where
 is8:Int
noncomputable def Oa6 (p:E4) (s:m9):St:=⟨((eL tP p.n8)::((.fn 87 [(.ptr 0 0 0 0)])::(ra 5 ((i p.is7)::((i s.is8)::(ra 10 [])))))),[⟨0,3,[[(i p.c9),(i p.c7),(i p.d7)]],true,false,0⟩]⟩
noncomputable def C4 {α:Type} (k:m9→α) (e:Nat→α) (z:α) (p:E4) (s:m9):α:=let t1:=(Sa0 ⟨(gL tP p.n8 s.is8.toNat).n.x,(gL tP p.n8 s.is8.toNat).n.y,(gL tP p.n8 s.is8.toNat).n.z,(gL tP p.n8 s.is8.toNat).b,p.c9,p.c7,p.d7⟩);(sl (decide (s.is8 < p.is7)) (sl (inB s.is8 (List.length p.n8)) (sl (Nat.beq t1.alt 1) (sl t1.bs0 (e 1) (k ⟨(W (s.is8+1))⟩)) z) z) (e 2))
noncomputable def D4 (p:E4) (s:m9):Stp m9:=C4 .next .exit .fail p s
noncomputable def Z6:Lo E4 m9:=⟨En qa9,1,Zd2,[1,0,1,4,4],[0,1,7,8],.p,[⟨((.s (.c 4 (nL tP)))::((.fn 87 [(.o (.ptr 0 0 0 0))])::(ru2 5 ((.s (.o (.int .i64)))::((.s (.o (.int .i64)))::(ru2 10 [])))))),[⟨0,3,true,(some [[(.o (.int .i64)),(.o (.int .i64)),(.o (.int .i64))]])⟩],fun a H=>(⟨(rL tP (slT a 0)),(toI (slT a 7)),(toI (slT (rwT (elT H 0) 0) 0)),(toI (slT (rwT (elT H 0) 0) 1)),(toI (slT (rwT (elT H 0) 0) 2))⟩,⟨(toI (slT a 8))⟩)⟩],D4,[(none,fun p s=>⟨[(i s.is8)],[⟨0,3,[[(i p.c9),(i p.c7),(i p.d7)]],true,false,0⟩]⟩),(some 0,fun p s=>⟨((eL tP p.n8)::((.fn 87 [(.ptr 0 0 0 0)])::(ra 5 ((i p.is7)::((i s.is8)::((b (decide (s.is8 < p.is7)))::(ra 9 []))))))),[⟨0,3,[[(i p.c9),(i p.c7),(i p.d7)]],true,false,0⟩]⟩)],Oa6⟩
theorem Oa7:Z6.Ok:=Lo.ok [] (by kernel_rfl) .nil rfl (.cons (fun a H=>by kernel_rfl) .nil) fun p s=>(.of @C4 (fun F _ _ _ _ _=>by unfold C4;(repeat' apply o9 (f:=F))<;>rfl) (by kernel_rfl))
structure Q4 where
 alt:Nat
 is0:Int
noncomputable def C6 {α:Type} (kk:Q4→α) (x:Q3):α:=let t1:=(lp (D4 (⟨(rt tP x.n8),(↑(List.length x.n8):Int),x.c9,x.c7,x.d7⟩:E4)) (⟨0⟩:m9));(sl ((cnE tP x.n8)&&true) (sl (Nat.beq t1.1 1) (kk ⟨1,t1.2.is8⟩) (sl (Nat.beq t1.1 2) (kk ⟨1,(-1)⟩) (kk ⟨0,0⟩))) (kk ⟨0,0⟩))
noncomputable def Q5 (x:Q3):Q4:=C6 (fun r=>r) x
noncomputable def ca4 (x:Q3) (r:Q4):DT (b7×List b9):=(.ite (Nat.beq r.alt 1) (.ret ((i r.is0),[⟨0,3,[[(i x.c9),(i x.c7),(i x.d7)]],true,false,0⟩])) .fail)
theorem ab3 {α β:Type} (F:α→β) (kk:Q4→α) (x:Q3):F (C6 kk x)=C6 (fun r=>F (kk r)) x:=by unfold C6;(repeat' apply o9 (f:=F))<;>rfl
noncomputable def ta4:Sum:=Ua3 ⟨[(.s (.c 4 (nL tP))),(.fn 87 [(.o (.ptr 0 0 0 0))])],[⟨0,3,true,(some [[(.o (.int .i64)),(.o (.int .i64)),(.o (.int .i64))]])⟩],fun a H=>(⟨(rL tP (slT a 0)),(toI (slT (rwT (elT H 0) 0) 0)),(toI (slT (rwT (elT H 0) 0) 1)),(toI (slT (rwT (elT H 0) 0) 2))⟩,())⟩ (fun x=>ca4 x (Q5 x))
theorem Za2:i4 prog G 139 ta4:=P8 (enc:=fun x=>⟨[(eL tP x.n8),(.fn 87 [(.ptr 0 0 0 0)])],[⟨0,3,[[(i x.c9),(i x.c7),(i x.d7)]],true,false,0⟩]⟩) (fun a H=>by kernel_rfl) (bd Re5 Sa1) fun x=>Pa9 (.s .p (.s (.s .p (.b (.u Z6.ls))) .p)) [Z6.pr] (by kernel_rfl) (.cons Oa7 .nil) (Eq.trans (b:=C6 (fun r=>(ca4 x r).run) x) (by kernel_rfl) (ab3 (fun r=>(ca4 x r).run) (fun r=>r) x).symm)
structure L3 where
 n8:List Pln
 c9:Int
 c7:Int
 d7:Int
noncomputable def La4:List (Nat×Sum):=[(139,ta4)]
theorem Ia0:j9 prog G La4:=⟨Za2,trivial⟩
structure L4 where
 alt:Nat
 bs0:Bool
noncomputable def w8 {α:Type} (kk:L4→α) (x:L3):α:=let t1:=(Q5 ⟨(rt tP x.n8),x.c9,x.c7,x.d7⟩);(sl ((cnE tP x.n8)&&true) (sl (Nat.beq t1.alt 1) (kk ⟨1,(decide (t1.is0≥0))⟩) (kk ⟨0,false⟩)) (kk ⟨0,false⟩))
noncomputable def L5 (x:L3):L4:=w8 (fun r=>r) x
noncomputable def U1 (x:L3) (r:L4):DT (b7×List b9):=(.ite (Nat.beq r.alt 1) (.ret ((b r.bs0),[⟨0,3,[[(i x.c9),(i x.c7),(i x.d7)]],true,false,0⟩])) .fail)
theorem Oa8 {α β:Type} (F:α→β) (kk:L4→α) (x:L3):F (w8 kk x)=w8 (fun r=>F (kk r)) x:=by unfold w8;(repeat' apply o9 (f:=F))<;>rfl
noncomputable def ma5:Sum:=Ua3 ⟨[(.s (.c 4 (nL tP))),(.fn 87 [(.o (.ptr 0 0 0 0))])],[⟨0,3,true,(some [[(.o (.int .i64)),(.o (.int .i64)),(.o (.int .i64))]])⟩],fun a H=>(⟨(rL tP (slT a 0)),(toI (slT (rwT (elT H 0) 0) 0)),(toI (slT (rwT (elT H 0) 0) 1)),(toI (slT (rwT (elT H 0) 0) 2))⟩,())⟩ (fun x=>U1 x (L5 x))
theorem La5:i4 prog G 86 ma5:=P8 (enc:=fun x=>⟨[(eL tP x.n8),(.fn 87 [(.ptr 0 0 0 0)])],[⟨0,3,[[(i x.c9),(i x.c7),(i x.d7)]],true,false,0⟩]⟩) (fun a H=>by kernel_rfl) (bd b86 Ia0) fun x=>A0 (Eq.trans (b:=w8 (fun r=>(U1 x r).run) x) (by kernel_rfl) (Oa8 (fun r=>(U1 x r).run) (fun r=>r) x).symm)
noncomputable def qd3:List (Nat×Sum):=[(64,Hb2),(85,Va2),(86,ma5)]
theorem cd3:j9 prog G qd3:=⟨Ec4,bb9,La5,trivial⟩
noncomputable def Za3 (x:List V3) (y:V3):Option (b7×List b9):=let t1:=(Ka1 (rt tV x));let t2:=(ja9 y);let t3:=(L5 ⟨(rt tP t1.1),y.x,y.y,y.z⟩);(sl (okE tV x) (sl (fb9 (rt tV x)) (sl (t1.2==0) (sl (ka0 y) (sl t2 (sl ((cnE tP t1.1)&&true) (sl (Nat.beq t3.alt 1) (some ((b (!t3.bs0)),[])) none) none) (some ((b false),[]))) none) (some ((b false),[]))) none) none)
noncomputable def ra0 (x:List V3) (y:V3):Bool:=U2 (one r1B) (Za3 x y)
noncomputable def ra1 (x:List V3) (y:V3):Bool:=okO (one r1B) (Za3 x y)
noncomputable def Ec7:Sum:=na9 (ta7 tV) (S9 tV) (fun x y=>.guard (ra1 x y) (.ret ((one r1B).enc (ra0 x y),[])))
theorem qd4:i4 prog G 33 Ec7:=mb5 (bd b33 cd3) (one r1B) (o:=Za3) fun x y=>A0 (by kernel_rfl)
end Go.Ev.Ce
end
section
namespace Go.Ev.Ce
open Go Go.Ev Go.Ev.L Go.Proofs
set_option maxRecDepth 100000
structure ge0 where
 n8:List Pln
 is2:Int
 c9:Int
 c7:Int
 d7:Int
structure ge1 where
 ph:Nat
 is9:Int
 ns8:Nat
 eh1:List (List b7)
structure me2 where
 f9:List V3
 c9:Int
 c7:Int
 d7:Int
structure me3 where
 is5:Int
structure Be7 where
 f9:List V3
 c9:Int
 c7:Int
 d7:Int
structure Be8 where
 is5:Int
structure ge2 where
 n8:List Pln
 c9:Int
 c7:Int
 d7:Int
structure ge3 where
 ph:Nat
 is6:Int
 ns5:Nat
 eh1:List (List b7)
structure ge4 where
 ns5:Nat
 is7:Int
 is8:Int
 eh0:List (List b7)
structure ge5 where
 ph:Nat
 is9:Int
structure ge6 where
 is7:Int
structure ge7 where
 ph:Nat
 ns5:Nat
 is8:Int
 eh0:List (List b7)
structure ge8 where
structure ge9 where
 ph:Nat
 is7:Int
 ns5:Nat
 eh0:List (List b7)
structure Sd8 where
 f9:List V3
 Ce6:List Pln
structure Sd9 where
 ph:Nat
 is7:Int
 ef9:List V3
structure Be9 where
 f9:List V3
 Q8:List V3
 is7:Int
structure Ce0 where
 ph:Nat
 is8:Int
 ns6:Nat
 eh0:List (List b7)
structure Ce1 where
structure Ce2 where
 ph:Nat
 f9:List V3
 Q8:List V3
 is7:Int
 ns6:Nat
 eh0:List (List b7)
structure Td0 where
 f9:List V3
 c9:Int
 c7:Int
 d7:Int
structure Td1 where
 is6:Int
 is7:Int
noncomputable def rb1:List (Nat×Sum):=[]
theorem fc0:j9 prog G rb1:=trivial
structure ja7 where
 f9:List V3
 Q8:List V3
structure I0 where
 is5:Int
noncomputable def Vb2 (p:ja7) (s:I0):St:=⟨((eL tV p.f9)::((eL tV p.Q8)::(ra 3 ((i s.is5)::(ra 20 []))))),[]⟩
noncomputable def ca5 {α:Type} (k:I0→α) (e:Nat→α) (z:α) (p:ja7) (s:I0):α:=(sl (decide (s.is5 < (↑(List.length p.f9):Int))) (sl (inB s.is5 (List.length p.f9)) (sl (inB s.is5 (List.length p.Q8)) (sl (!(((gL tV p.f9 s.is5.toNat).x==(gL tV p.Q8 s.is5.toNat).x)&&(((gL tV p.f9 s.is5.toNat).y==(gL tV p.Q8 s.is5.toNat).y)&&(((gL tV p.f9 s.is5.toNat).z==(gL tV p.Q8 s.is5.toNat).z)&&true)))) (e 1) (k ⟨(W (s.is5+1))⟩)) z) z) (e 2))
noncomputable def ga6 (p:ja7) (s:I0):Stp I0:=ca5 .next .exit .fail p s
noncomputable def Ia1:Lo ja7 I0:=⟨En rb1,0,Oe2,[1,1,0,1,4,4],[0,1,5],.p,[⟨((.s (.c 3 (nL tV)))::((.s (.c 3 (nL tV)))::(ru2 3 ((.s (.o (.int .i64)))::(ru2 20 []))))),[],fun a H=>(⟨(rL tV (slT a 0)),(rL tV (slT a 1))⟩,⟨(toI (slT a 5))⟩)⟩],ga6,[(none,fun p s=>⟨[(b false)],[]⟩),(some 0,fun p s=>⟨((eL tV p.f9)::((eL tV p.Q8)::(ra 3 ((i s.is5)::(ra 5 ((i s.is5)::((eL tV p.f9)::((i (↑(List.length p.f9):Int))::((b (decide (s.is5 < (↑(List.length p.f9):Int))))::(ra 11 [])))))))))),[]⟩)],Vb2⟩
theorem Vb3:Ia1.Ok:=Lo.ok [] (by kernel_rfl) .nil rfl (.cons (fun a H=>by kernel_rfl) .nil) fun p s=>(.of @ca5 (fun F _ _ _ _ _=>by unfold ca5;(repeat' apply o9 (f:=F))<;>rfl) (by kernel_rfl))
noncomputable def ra2 (x:List V3) (y:List V3):Option (b7×List b9):=let t1:=(lp (ga6 (⟨(rt tV x),(rt tV y)⟩:ja7)) (⟨0⟩:I0));(sl ((↑(List.length x):Int) != (↑(List.length y):Int)) (some ((b false),[])) (sl ((cnE tV x)&&((cnE tV y)&&true)) (sl (Nat.beq t1.1 1) (some ((b false),[])) (sl (Nat.beq t1.1 2) (some ((b true),[])) none)) none))
noncomputable def O6 (x:List V3) (y:List V3):Bool:=U2 (one r1B) (ra2 x y)
noncomputable def G8 (x:List V3) (y:List V3):Bool:=okO (one r1B) (ra2 x y)
noncomputable def Za4:Sum:=na9 (ta7 tV) (ta7 tV) (fun x y=>.guard (G8 x y) (.ret ((one r1B).enc (O6 x y),[])))
theorem rb2:i4 prog G 30 Za4:=mb5 (bd b30 fc0) (one r1B) (o:=ra2) fun x y=>Pa9 (.s .p (.s .p (.s (.s .p (.b (.u Ia1.ls))) .p))) [Ia1.pr] (by kernel_rfl) (.cons Vb3 .nil) (by kernel_rfl)
noncomputable def Vb4:List (Nat×Sum):=[(80,Qc5)]
theorem Mc6:j9 prog G Vb4:=⟨yd5,trivial⟩
structure aa5 where
 f9:List V3
 c9:Int
 c7:Int
 d7:Int
structure y8 where
 ph:Nat
 is6:Int
 ns5:Nat
 eh1:List (List b7)
noncomputable def oc7 (p:aa5) (s:y8):St:=⟨((eL tV p.f9)::(.unk::(.unk::((.ptr 0 0 0 0)::(.unk::((.v (.slice none 0 0))::((i s.is6)::(ra 16 [])))))))),[⟨0,3,[[(i p.c9),(i p.c7),(i p.d7)]],true,false,0⟩]⟩
noncomputable def oc8 (p:aa5) (s:y8):St:=⟨((eL tV p.f9)::(.unk::(.unk::((.ptr 0 0 0 0)::(.unk::((.sl 1 0 s.ns5 0)::((i s.is6)::(ra 16 [])))))))),[⟨0,3,[[(i p.c9),(i p.c7),(i p.d7)]],true,false,0⟩,⟨27,3,s.eh1,true,false,0⟩]⟩
noncomputable def Ec8 (p:aa5) (s:y8):St:=(sel (Nat.beq s.ph 1) (oc8 p s) (oc7 p s))
noncomputable def X6 {α:Type} (k:y8→α) (e:Nat→α) (z:α) (p:aa5) (s:y8):α:=let t1:=(Bb5 (gL tV p.f9 s.is6.toNat) (⟨p.c9,p.c7,p.d7⟩:V3));(sl (decide (s.is6 < (↑(List.length p.f9):Int))) (sl (inB s.is6 (List.length p.f9)) (k ⟨1,(W (s.is6+1)),1,[[(i t1.x),(i t1.y),(i t1.z)]]⟩) z) (e 1))
noncomputable def X7 {α:Type} (k:y8→α) (e:Nat→α) (z:α) (p:aa5) (s:y8):α:=let t1:=(Bb5 (gL tV p.f9 s.is6.toNat) (⟨p.c9,p.c7,p.d7⟩:V3));(sl (decide (s.is6 < (↑(List.length p.f9):Int))) (sl (inB s.is6 (List.length p.f9)) (sl (Nat.beq s.ns5 (len s.eh1)&&Nat.ble ((s.ns5+1)*24) room) (k ⟨1,(W (s.is6+1)),(s.ns5+1),(app s.eh1 [[(i t1.x),(i t1.y),(i t1.z)]])⟩) z) z) (e 2))
noncomputable def Ea6 (p:aa5) (s:y8):Stp y8:=(sel (Nat.beq s.ph 1) (X7 .next .exit .fail p s) (X6 .next .exit .fail p s))
noncomputable def gb2:Lo aa5 y8:=⟨En Vb4,0,Oe4,[1,1,0,1,4,4],[0,3,5,6],.p,[⟨((.s (.c 3 (nL tV)))::((.s (.o .unk))::((.s (.o .unk))::((.s (.o (.ptr 0 0 0 0)))::((.s (.o .unk))::((.s (.o .nil))::((.s (.o (.int .i64)))::(ru2 16 [])))))))),[⟨0,3,true,(some [[(.o (.int .i64)),(.o (.int .i64)),(.o (.int .i64))]])⟩],fun a H=>(⟨(rL tV (slT a 0)),(toI (slT (rwT (elT H 0) 0) 0)),(toI (slT (rwT (elT H 0) 0) 1)),(toI (slT (rwT (elT H 0) 0) 2))⟩,⟨0,(toI (slT a 6)),0,[]⟩)⟩,⟨((.s (.c 3 (nL tV)))::((.s (.o .unk))::((.s (.o .unk))::((.s (.o (.ptr 0 0 0 0)))::((.s (.o .unk))::((.s (.o (.sl 1 0 (some 0) none)))::((.s (.o (.int .i64)))::(ru2 16 [])))))))),[⟨0,3,true,(some [[(.o (.int .i64)),(.o (.int .i64)),(.o (.int .i64))]])⟩,⟨27,3,true,none⟩],fun a H=>(⟨(rL tV (slT a 0)),(toI (slT (rwT (elT H 0) 0) 0)),(toI (slT (rwT (elT H 0) 0) 1)),(toI (slT (rwT (elT H 0) 0) 2))⟩,⟨1,(toI (slT a 6)),(slN (slT a 5)),(elT H 1)⟩)⟩],Ea6,[(some 0,fun p s=>⟨((eL tV p.f9)::(.unk::(.unk::((.ptr 0 0 0 0)::(.unk::((.v (.slice none 0 0))::((i s.is6)::((i s.is6)::((eL tV p.f9)::((i (↑(List.length p.f9):Int))::((b (decide (s.is6 < (↑(List.length p.f9):Int))))::(ra 12 [])))))))))))),[⟨0,3,[[(i p.c9),(i p.c7),(i p.d7)]],true,false,0⟩]⟩),(some 0,fun p s=>⟨((eL tV p.f9)::(.unk::(.unk::((.ptr 0 0 0 0)::(.unk::((.sl 1 0 s.ns5 0)::((i s.is6)::((i s.is6)::((eL tV p.f9)::((i (↑(List.length p.f9):Int))::((b (decide (s.is6 < (↑(List.length p.f9):Int))))::(ra 12 [])))))))))))),[⟨0,3,[[(i p.c9),(i p.c7),(i p.d7)]],true,false,0⟩,⟨27,3,s.eh1,true,false,0⟩]⟩)],Ec8⟩
theorem Ec9:gb2.Ok:=Lo.ok [] (by kernel_rfl) .nil rfl (.cons (fun a H=>by kernel_rfl) (.cons (fun a H=>by kernel_rfl) .nil)) fun p s=>(.sel (Nat.beq s.ph 1) (.of @X7 (fun F _ _ _ _ _=>by unfold X7;(repeat' apply o9 (f:=F))<;>rfl) (by kernel_rfl)) (.of @X6 (fun F _ _ _ _ _=>by unfold X6;(repeat' apply o9 (f:=F))<;>rfl) (by kernel_rfl)))
noncomputable def La6 (x:List V3) (y:V3):Option (b7×List b9):=let t1:=(lp (Ea6 (⟨(rt tV x),y.x,y.y,y.z⟩:aa5)) (⟨0,0,0,[]⟩:y8));(sl ((cnE tV x)&&true) (sl (Nat.beq t1.1 1) (some ((.v (.slice none 0 0)),[])) (sl (Nat.beq t1.1 2) (some ((.sl 0 0 t1.2.ns5 0),[⟨27,3,t1.2.eh1,true,false,0⟩])) none)) none)
noncomputable def La7 (x:List V3) (y:V3):List V3:=U2 (one (r1L tV)) (La6 x y)
noncomputable def ga7 (x:List V3) (y:V3):Bool:=okO (one (r1L tV)) (La6 x y)
noncomputable def ic5:Sum:=na9 (ta7 tV) (S9 tV) (fun x y=>.guard (ga7 x y) (.ret ((one (r1L tV)).enc (La7 x y),[])))
theorem cd4:i4 prog G 36 ic5:=mb5 (bd b36 Mc6) (one (r1L tV)) (o:=La6) fun x y=>Pa9 (.s .p (.s .p (.s (.s .p (.b (.u gb2.ls))) .p))) [gb2.pr] (by kernel_rfl) (.cons Ec9 .nil) (by kernel_rfl)
structure Td2 where
 c9:Int
 c7:Int
 d7:Int
structure Td3 where
 ph:Nat
 is4:Int
 ns3:Nat
 eh1:List (List b7)
end Go.Ev.Ce
end
namespace Go.Ev
open Go Go.ChangeShapes Go.RowKit
structure Fc0 (w w':World):Prop where
 os:w'.os=w.os
 output:w'.output=w.output
 size:w.heap.size≤w'.heap.size
 block:∀ k,k < w.heap.size→w'.heap[k]?=w.heap[k]?
theorem Fc0.kept {w w':World} (h:Fc0 w w') (may:MemPlace→Prop):w.keptBut w' may:=by
 refine⟨h.os,h.output,fun i hi=>?_⟩
 rw[h.block i hi]
 cases w.heap[i]? with
 | none=>rfl
 | some o=>cases o<;>first | exact⟨rfl,rfl,rfl,fun _ _=>rfl⟩ | exact .inr ⟨rfl,rfl⟩ | rfl
theorem Fc0.frozen {w w':World} (h:Fc0 w w') (b off:Nat) (hb:b < w.heap.size):w'.frozen? ⟨b,off,none⟩=w.frozen? ⟨b,off,none⟩:=by
 simp only[World.frozen?,h.block b hb]
theorem Fc0.cell {w w':World} (h:Fc0 w w') (b off:Nat) (hb:b < w.heap.size):w'.cell? ⟨b,off,none⟩=w.cell? ⟨b,off,none⟩:=by
 simp only[World.cell?,h.block b hb]
theorem Fc0.same {w w':World} (h:Fc0 w w') (p:MemPlace) (hp:p.block < w.heap.size):w.sameAt w' p:=by
 cases p with
 | cell b off=>exact h.cell b off hp
 | map b=>exact h.block b hp
theorem zb1 {α β:Type} {f:α→Option β}:∀ {l:List α} {r:List β},l.mapM f=some r→r.length=l.length∧∀ (j:Nat) y,r[j]?=some y→∃ x,l[j]?=some x∧f x=some y
 | [],r,h=>by
  have:r=[]:=by simpa using h.symm
  subst this;simp
 | x::l,r,h=>by
  rw[List.mapM_cons] at h
  obtain⟨y,h1,h2⟩:=Option.bind_eq_some_iff.1 h
  obtain⟨r',h3,h4⟩:=Option.bind_eq_some_iff.1 h2
  have:r=y::r':=by simpa using h4.symm
  subst this
  obtain⟨g1,g2⟩:=zb1 h3
  refine⟨by simp[g1],fun j z hz=>?_⟩
  cases j with
  | zero=>simp at hz;subst hz;exact⟨x,rfl,h1⟩
  | succ j=>simpa using g2 j z (by simpa using hz)
section
variable {D:Type} {enc:TypeId×Value→D} {P:Program}
theorem Hb3 {T : TypeId → Prop} (K : Kids P T) (hsz : ∀ {t e : TypeId}, T t → P.underlying t = some (.slice e) → 0 < P.cellsOf e) {w w' : World} {sp : Nat → Bool} (hs : Fc0 w w') :
  ∀ {ts:List TypeId} {vs:List Value} {ds:List (DataW D)} {ps:List MemPlace},(∀ t∈ts,T t)→DataW.TrodAll enc P w 0 (fun _=>true) true ts vs ds ps→(∀ p∈ps,p.block < w.heap.size)→(∀ p∈ps,sp p.block=true)→DataW.TrodAll enc P w' 0 sp true ts vs ds ps
 | [],[],[],_,_,h,_,_=>h
 | t::ts,v::vs,d::ds,ps,ht,h,hlt,hsp=>by
  obtain⟨p,q,⟨fuel,h1⟩,h2,rfl⟩:=h
  refine⟨p,q,⟨fuel,?_⟩,Hb3 K hsz hs (fun t h=>ht t (by simp[h])) h2 (fun x hx=>hlt x (by simp[hx])) (fun x hx=>hsp x (by simp[hx])),rfl⟩
  exact DataW.trod_stays K hsz (fun h=>by cases h) (ht t (by simp)) h1 (fun x hx=>hs.same x (hlt x (by simp at hx ⊢;exact .inl hx))) (fun x hx=>hsp x (by simp at hx ⊢;exact .inl hx))
 | [],_::_,_,_,_,h,_,_=>h.elim
 | [],[],_::_,_,_,h,_,_=>h.elim
 | _::_,[],_,_,_,h,_,_=>h.elim
 | _::_,_::_,[],_,_,h,_,_=>h.elim
theorem he0 {T : TypeId → Prop} (K : Kids P T) (hsz : ∀ {t e : TypeId}, T t → P.underlying t = some (.slice e) → 0 < P.cellsOf e) {f : Func} {s : ChangeSpec} {apart fresh handsOn again : Bool} {W W' : World} {args : Array Value} {ds gs : List (DataW D)} {before : List MemPlace} {tb : TypeId}
  (hT:∀ t∈f.params.toList,T t) (hW:DataW.Whole enc P f.params.toList s.vars apart W args.toList ds gs before) (hv:s.vars=[]) (hr:f.resultTypes=#[tb]) (hb:P.underlying tb=some .bool)
  (h1:(s.fn D ds).results=[.lit (.bool true)]) (h2:(s.fn D ds).args=ds) (h3:(s.fn D ds).vars=[]) (hs:Fc0 W W') :
  s.post enc P f apart fresh handsOn again W args (.bool true) W':=by
 have hlt:=hW.lt
 obtain⟨pa,pv,hA,hV,hps,hz,hn⟩:=id hW
 rw[hv] at hV
 have hpv:gs=[]∧pv=[]:=by
  cases gs with
  | nil=>exact⟨rfl,hV⟩
  | cons=>exact hV.elim
 obtain⟨rfl,rfl⟩:=hpv
 rw[← List.append_nil ds] at h1 h3
 have h2:(s.fn D (ds++[])).args=ds:=by rw[List.append_nil];exact h2
 have hpa:before=pa:=by rw[hps];simp
 subst hpa
 have hagain:∀ sp:Nat→Bool,(∀ p∈before,sp p.block=true)→DataW.TrodAll enc P W' 0 sp true f.params.toList args.toList ds before:=fun sp h=>Hb3 K hsz hs hT hA hlt h
 have hres:∀ (b:Nat) (sp:Nat→Bool) (hd:Bool),DataW.TrodAll enc P W' b sp hd f.resultTypes.toList ((Value.bool true).resultList f.resultTypes.size) [.lit (.bool true)] []:=fun b sp hd=>by
  rw[hr]
  exact⟨[],[],⟨1,by simp[DataW.trod,hb,Value.cells,Value.resultList]⟩,rfl,rfl⟩
 have hvars:∀ sp:Nat→Bool,DataW.TrodVars enc P W' sp s.vars ([]:List (DataW D)) []:=fun sp=>by rw[hv];exact rfl
 have hok:∀ (j:Nat) (t:TypeId) (r:Value),f.resultTypes[j]?=some t→((Value.bool true).resultList f.resultTypes.size)[j]?=some r→Value.okWide P W' .any 0 t r:=by
  rw[hr]
  intro j t r h4 h5
  cases j with
  | zero =>
   simp at h4
   subst h4
   have:r=.bool true:=by simpa [Value.resultList] using h5.symm
   subst this
   exact okWide_bool_mk hb _
  | succ j=>simp at h4
 have hag:DataW.TrodAll enc P W' 0 (fun _=>true) true (f.resultTypes.toList++f.params.toList) ((Value.bool true).resultList f.resultTypes.size++args.toList) (.lit (.bool true)::ds) before:=by
  have:=hagain (fun _=>true) (fun _ _=>rfl)
  rw[hr]
  exact⟨[],before,⟨1,by simp[DataW.trod,hb,Value.cells,Value.resultList]⟩,this,rfl⟩
 refine⟨ds,[],before,[],before,[],hW,?_,?_,?_,hs.kept _,fun _=>?_⟩
 ·rw[h1];exact hres _ _ _
 ·rw[h2];exact hagain _ fun p hp=>by simpa using hlt p hp
 ·rw[h3];exact hvars _
 ·refine⟨hok,.lit (.bool true)::ds,[],before,⟨before,[],hag,hvars _,by simp,?_,?_⟩,?_⟩
  ·intro b off hp
   rw[hs.frozen b off (hlt _ hp)]
   exact hz b off (by simpa using hp)
  ·intro ha;simpa using hn ha
  ·intro p hp _;exact hp
variable {w:World} {base:Nat} {spare:Nat→Bool} {held:Bool}
def qd5 (w:World):Fz:=fun b o=>(w.cell? ⟨b,o,none⟩).isSome
theorem Ke2 {fuel : Nat} {t : TypeId} {k : IntKind} {cs : List Value} {x : DataW D × List MemPlace} (ht : P.underlying t = some (.int k)) (h : DataW.trod enc P w base spare held fuel t cs = some x) :
  ∃ n,cs=[.int k n]∧(Lit.int k n).wf=true∧x.1=.lit (.int k n):=by
 cases fuel with
 | zero=>cases h
 | succ fuel =>
  match cs,h with
  | [],h=>simp[DataW.trod,ht] at h
  | [v],h =>
   cases v with
   | int k' n =>
    simp only[DataW.trod,ht] at h
    split at h
    ·rename_i hk
     obtain⟨rfl,hw⟩:=hk
     injection h with h;subst h
     exact⟨n,rfl,hw,rfl⟩
    ·cases h
   | _=>simp[DataW.trod,ht] at h
  | a::b::r,h=>simp[DataW.trod,ht] at h
theorem we3 {fuel : Nat} {t : TypeId} {cs : List Value} {x : DataW D × List MemPlace} (ht : P.underlying t = some .bool) (h : DataW.trod enc P w base spare held fuel t cs = some x) :
  ∃ n,cs=[.bool n]∧x.1=.lit (.bool n):=by
 cases fuel with
 | zero=>cases h
 | succ fuel =>
  match cs,h with
  | [],h=>simp[DataW.trod,ht] at h
  | [v],h =>
   cases v with
   | bool n =>
    simp only[DataW.trod,ht] at h
    injection h with h;subst h
    exact⟨n,rfl,rfl⟩
   | _=>simp[DataW.trod,ht] at h
  | a::b::r,h=>simp[DataW.trod,ht] at h
theorem he3 {fuel : Nat} {t e : TypeId} {n : Nat} {cs : List Value} {x : DataW D × List MemPlace} (ht : P.underlying t = some (.array n e)) (h : DataW.trod enc P w base spare held fuel t cs = some x) :
  cs.length=P.cellsOf t∧∃ (fuel':Nat) (xs:List (DataW D×List MemPlace)),xs.length=n∧x.1=.agg (xs.map (·.1))∧∀ (j:Nat) y,xs[j]?=some y→DataW.trod enc P w base spare held fuel' e ((cs.drop (j*P.cellsOf e)).take (P.cellsOf e))=some y:=by
 cases fuel with
 | zero=>cases h
 | succ fuel =>
  unfold DataW.trod at h
  rw[ht] at h
  simp only at h
  split at h
  ·rename_i hl
   obtain⟨xs,h1,h2⟩:=Option.map_eq_some_iff.1 h
   have hx:=zb1 h1
   exact⟨hl,fuel,xs,by simpa using hx.1,by rw[← h2],fun j y hy=>by
    obtain⟨a,ha,hb⟩:=hx.2 j y hy
    have:j < n:=by
     have:=(List.getElem?_eq_some_iff.1 hy).1
     rw[hx.1] at this;simpa using this
    rw[List.getElem?_range this] at ha
    injection ha with ha
    subst ha
    exact hb⟩
  ·cases h
theorem Pd9 {fuel : Nat} {t : TypeId} {fs : Array Field} {cs : List Value} {x : DataW D × List MemPlace} (ht : P.underlying t = some (.struct fs)) (h : DataW.trod enc P w base spare held fuel t cs = some x) :
  cs.length=P.cellsOf t∧∃ (fuel':Nat) (xs:List (DataW D×List MemPlace)),xs.length=fs.size∧x.1=.agg (xs.map (·.1))∧∀ (j:Nat) f,fs[j]?=some f→∃ y,xs[j]?=some y∧DataW.trod enc P w base spare held fuel' f.type ((cs.drop f.offset).take (P.cellsOf f.type))=some y:=by
 cases fuel with
 | zero=>cases h
 | succ fuel =>
  unfold DataW.trod at h
  rw[ht] at h
  simp only at h
  split at h
  ·rename_i hl
   obtain⟨xs,h1,h2⟩:=Option.map_eq_some_iff.1 h
   have hx:=zb1 h1
   refine⟨hl,fuel,xs,by simpa using hx.1,by rw[← h2],fun j f hf=>?_⟩
   have hj:j < xs.length:=by
    rw[hx.1];simpa using (Array.getElem?_eq_some_iff.1 hf).1
   obtain⟨a,ha,hb⟩:=hx.2 j _ (List.getElem?_eq_getElem hj)
   have:a=f:=by
    have:fs.toList[j]?=some f:=by simpa using hf
    exact Option.some.inj (ha.symm.trans this)
   subst this
   exact⟨_,List.getElem?_eq_getElem hj,hb⟩
  ·cases h
theorem he4 {fuel : Nat} {t e : TypeId} {cs : List Value} {x : DataW D × List MemPlace} (ht : P.underlying t = some (.slice e)) (h : DataW.trod enc P w base spare held fuel t cs = some x) :
  cs=[.slice none 0 0]∨∃ (a:Addr) (n cap fuel':Nat),cs=[.slice (some a) n cap]∧n≤cap∧cap≤maxLen∧∀ j,j < n→∃ row y,w.cells? base (a.add (j*P.cellsOf e)) (P.cellsOf e)=some row∧DataW.trod enc P w base spare held fuel' e row=some y:=by
 cases fuel with
 | zero=>cases h
 | succ fuel =>
  match cs,h with
  | [],h=>simp[DataW.trod,ht] at h
  | [v],h =>
   cases v with
   | slice a len cap =>
    cases a with
    | none =>
     simp only[DataW.trod,ht] at h
     split at h<;>first | (rename_i e1;cases e1;done) | skip
     all_goals first | exact .inl rfl | (simp_all;done) | skip
    | some a =>
     refine .inr ?_
     simp only[DataW.trod,ht] at h
     split at h
     ·rename_i hc
      obtain⟨elems,h1,h2⟩:=Option.bind_eq_some_iff.1 h
      have hx:=zb1 h1
      refine⟨a,len,cap,fuel,rfl,hc.2.1,hc.2.2,fun j hj=>?_⟩
      have hj':j < elems.length:=by rw[hx.1];simpa using hj
      obtain⟨i,hi,hb⟩:=hx.2 j _ (List.getElem?_eq_getElem hj')
      rw[List.getElem?_range hj] at hi
      injection hi with hi
      subst hi
      obtain⟨row,r1,r2⟩:=Option.bind_eq_some_iff.1 hb
      exact⟨row,_,r1,r2⟩
     ·cases h
   | _=>simp[DataW.trod,ht] at h
  | a::b::r,h=>simp[DataW.trod,ht] at h
theorem Hd8:∀ (d:Nat) (t:TypeId) (l:List (Nat×CK)),T4 P d t=some l→∀ (fuel:Nat) (cs:List Value) (x:DataW D×List MemPlace),DataW.trod enc P w base spare held fuel t cs=some x→∀ p∈l,sa0 cs.toArray p
 | 0,_,_,h,_,_,_,_=>by cases h
 | d+1,t,l,h,fuel,cs,x,hx=>by
  have hpart:∀ {off n:Nat} {e:TypeId} {l':List (Nat×CK)} {fuel':Nat} {y:DataW D×List MemPlace},sb8 off n (T4 P d e)=some l'→DataW.trod enc P w base spare held fuel' e ((cs.drop off).take n)=some y→∀ p∈l',sa0 cs.toArray p:=fun {off n e l' fuel' y} h1 h2 p hp=>by
   obtain⟨l2,g1,g2,rfl⟩:=za3 h1
   obtain⟨q,hq,rfl⟩:=List.mem_map.1 hp
   have:=Hd8 d e l2 g1 fuel' _ y h2 q hq
   have hlt:=g2 q hq
   unfold sa0 at this ⊢
   simp only[List.getElem?_toArray,List.getElem?_take,hlt,if_true,List.getElem?_drop] at this ⊢
   exact this
  have hcat:∀ {α:Type} (f:α→Option (List (Nat×CK))) (xs:List α) (l:List (Nat×CK)),ha0 (xs.map f)=some l→∀ p∈l,∃ a∈xs,∃ l',f a=some l'∧p∈l':=fun {α} f xs=>by
   induction xs with
   | nil=>intro l h;simp only[List.map_nil,ha0] at h;injection h with h;subst h;simp
   | cons a xs ih =>
    intro l h p hp
    simp only[List.map_cons,ha0] at h
    cases h1:f a with
    | none=>simp[h1] at h
    | some l1 =>
    cases h2:ha0 (xs.map f) with
    | none=>simp[h1,h2] at h
    | some l2 =>
    simp only[h1,h2] at h
    injection h with h;subst h
    rcases List.mem_append.1 hp with hp | hp
    ·exact⟨a,by simp,l1,h1,hp⟩
    ·obtain⟨b,hb,r⟩:=ih l2 h2 p hp
     exact⟨b,by simp[hb],r⟩
  unfold T4 at h
  cases hu:P.underlying t with
  | none=>simp[hu] at h
  | some u =>
  cases u with
  | int k =>
   simp only[hu] at h;injection h with h;subst h
   obtain⟨n,rfl,_,_⟩:=Ke2 hu hx
   intro p hp;simp at hp;subst hp;exact⟨n,rfl⟩
  | bool =>
   simp only[hu] at h;injection h with h;subst h
   obtain⟨n,rfl,_⟩:=we3 hu hx
   intro p hp;simp at hp;subst hp;exact⟨n,rfl⟩
  | struct fs =>
   simp only[hu] at h
   split at h
   ·cases h
   obtain⟨_,fuel',xs,_,_,hxs⟩:=Pd9 hu hx
   intro p hp
   obtain⟨f,hf,l',h1,h2⟩:=hcat _ _ _ h p hp
   split at h1
   ·cases h1
   obtain⟨j,hj⟩:=List.getElem?_of_mem hf
   obtain⟨y,_,hy⟩:=hxs j f (by simpa using hj)
   have hc:P.cellsOf f.type=szT P f.type:=by
    unfold Program.cellsOf szT
    cases P.info? f.type<;>rfl
   rw[hc] at hy
   exact hpart h1 hy p h2
  | array n e =>
   simp only[hu] at h
   split at h
   case isFalse=>cases h
   obtain⟨_,fuel',xs,hn,_,hxs⟩:=he3 hu hx
   intro p hp
   obtain⟨j,hj,l',h1,h2⟩:=hcat _ _ _ h p hp
   have hj':j < xs.length:=by rw[hn];simpa using hj
   have hy:=hxs j _ (List.getElem?_eq_getElem hj')
   have hc:P.cellsOf e=szT P e:=by
    unfold Program.cellsOf szT
    cases P.info? e<;>rfl
   rw[hc] at hy
   exact hpart h1 hy p h2
  | _=>simp[hu] at h
def ca6 (k:IntKind) (es:Nat) (g:Nat→Int):List b7:=(List.range es).map fun c=>.v (.int k (g c))
def ya5 (k:IntKind) (es:Nat):List (Nat×CK):=(List.range es).map fun c=>(c,.int k)
theorem Hd9 {d : Nat} {t : TypeId} {k : IntKind} {es : Nat} (hf : T4 P d t = some (ya5 k es)) {fuel : Nat} {cs : List Value} {x : DataW D × List MemPlace} (hx : DataW.trod enc P w base spare held fuel t cs = some x) (hl : cs.length = es) :
  ∃ g:Nat→Int,∀ c,c < es→cs[c]?=some (.int k (g c)):=by
 have h:=Hd8 d t _ hf fuel cs x hx
 have h':∀ c,∃ n:Int,c < es→cs[c]?=some (.int k n):=fun c=>by
  by_cases hc:c < es
  ·have:=h (c,.int k) (List.mem_map.2 ⟨c,by simpa using hc,rfl⟩)
   obtain⟨n,hn⟩:=this
   exact⟨n,fun _=>by simpa using hn⟩
  ·exact⟨0,fun h=>absurd h hc⟩
 exact⟨fun c=>Classical.choose (h' c),fun c hc=>Classical.choose_spec (h' c) hc⟩
theorem he5 {F:Fz} {w:World} (k:IntKind) (n:Int):W9 F w (.v (.int k n)) (.int k n):=.v _ rfl
theorem Fc1 {k:IntKind} {es:Nat} {g:Nat→Int} {c:Nat} {x:b7} (h:(ca6 k es g)[c]?=some x):c < es∧x=.v (.int k (g c)):=by
 unfold ca6 at h
 obtain⟨h1,h2⟩:=Aa9 h
 exact⟨h1,h2.symm⟩
theorem Mc7 {t e : TypeId} {k : IntKind} {es d : Nat} (ht : P.underlying t = some (.slice e)) (hf : T4 P d e = some (ya5 k es)) (hes : P.cellsOf e = es) (h0 : 0 < es) {fuel : Nat} {cs : List Value} {x : DataW D × List MemPlace} (hx : DataW.trod enc P w 0 spare held fuel t cs = some x) :
  ∃ (v:Value) (n:Nat) (g:Nat→Nat→Int),cs=[v]∧n≤maxLen∧W9 (qd5 w) w (.tree es n fun j=>ca6 k es (g j)) v:=by
 rcases he4 ht hx with rfl | ⟨a,n,cap,fuel',rfl,hn,hc,hel⟩
 ·exact⟨_,0,fun _ _=>0,rfl,Nat.zero_le _,.nil _ _⟩
 ·rw[hes] at hel
  have hcell:∀ j,j < n→∃ g:Nat→Int,∀ c,c < es→w.cell? ((a.add (j*es)).add c)=some (.int k (g c)):=fun j hj=>by
   obtain⟨row,y,h1,h2⟩:=hel j hj
   unfold World.cells? at h1
   split at h1
   ·obtain⟨l1,l2⟩:=zb1 h1
    have hl:row.length=es:=by simpa using l1
    obtain⟨g,hg⟩:=Hd9 hf h2 hl
    refine⟨g,fun c hc=>?_⟩
    obtain⟨i,hi,hi2⟩:=l2 c _ (hg c hc)
    rw[List.getElem?_range hc] at hi
    injection hi with hi
    subst hi
    exact hi2
   ·cases h1
  have hg:∀ j,∃ g:Nat→Int,j < n→∀ c,c < es→w.cell? ((a.add (j*es)).add c)=some (.int k (g c)):=fun j=>by
   by_cases hj:j < n
   ·obtain⟨g,hg⟩:=hcell j hj
    exact⟨g,fun _=>hg⟩
   ·exact⟨fun _=>0,fun h=>absurd h hj⟩
  obtain⟨g,hg⟩:=Classical.axiomOfChoice hg
  have hspot:0 < n→a.spot=none:=fun hn=>by
   have:=hg 0 hn 0 h0
   simpa [Addr.add] using World.cell?_spot this
  have hw:∀ j c,j < n→c < es→w.cell? ⟨a.block,a.off+(j*es+c),none⟩=some (.int k (g j c)):=fun j c hj hc=>by
   have:=hg j hj c hc
   rw[T5 (hspot (by omega)),T5 rfl] at this
   simpa [Nat.add_assoc] using this
  refine⟨_,n,g,rfl,Nat.le_trans hn hc,.tree es n _ a cap (fun j c=>.int k (g j c)) hspot hn (fun i hi=>by simp[ca6]) (fun i c hi hc=>?_) hw fun i c hi hc=>?_⟩
  ·unfold qd5
   rw[hw i c hi hc]
   rfl
  ·have:=(Fc1 (List.getElem?_eq_getElem hc)).2
   rw[this]
   exact he5 _ _
theorem Qd0 (w:World):v7 (fun k=>w.heap.size≤k) (fun _=>⟨0,0,0⟩) [] (qd5 w) w :=
 ⟨fun id b h=>by simp at h,fun id id' b b' h=>by simp at h,fun _ _ h=>h,fun _ h=>h⟩
theorem Qd1 {G : Nat → List Value} {f : FuncId} {S : Sum} (hS : i4 P G f S) {aargs : List b7} {args : List Value} (hrun : ∃ out, (S aargs []).run = some (b true, out)) (hl : aargs.length = args.length)
  (ha:∀ (i:Nat) x x',aargs[i]?=some x→args[i]?=some x'→Y0 (fun _=>⟨0,0,0⟩) [] (qd5 w) w x x') (hG:∀ g (c:Nat) x,(G g)[c]?=some x→x.oneCell'=true∧w.cell? ⟨g,c,none⟩=some x) :
  Calls P f args.toArray w fun e w'=>e=.returned (.bool true)∧Fc0 w w':=by
 obtain⟨out,hrun⟩:=hrun
 obtain⟨_,hc⟩:=hS aargs [] (b true) out hrun (fun k=>w.heap.size≤k) (fun _=>⟨0,0,0⟩) (qd5 w) w args (Qd0 w) hl (fun i x x' h1 h2=>.val (ha i x x' h1 h2)) (fun g c x hx=>by
  obtain⟨h1,h2⟩:=hG g c x hx
  exact⟨h1,by unfold qd5;rw[h2];rfl,h2⟩)
 refine hc.mono fun e w' ⟨r',he,ρ',F',hA,hH,hW⟩=>?_
 have:=Z8 hW
 subst this
 exact⟨he,hA.ext.os,hA.ext.output,hA.ext.size,fun k hk=>hA.ext.block k hk (by omega)⟩
theorem we4 {ρ : Rho} {H : List b9} {F : Fz} {t : TypeId} {k : IntKind} {es d : Nat} {v : Value} {dd : DataW D} {pp : List MemPlace} {bs : Nat} {r : Reach} (hag : agT P t = true) (hf : T4 P d t = some (ya5 k es)) (hes : P.cellsOf t = es)
  (hok:Value.okWide P w r bs t v) (h:DataW.Trod enc P w base spare held t v dd pp):∃ g:Nat→Int,Y0 ρ H F w (.agg (ca6 k es g)) v:=by
 have hv:∃ cs:Array Value,v=.agg cs∧cs.size=P.cellsOf t:=by
  unfold agT at hag
  unfold Value.okWide at hok
  split at hag
  ·rename_i fs hu;rw[hu] at hok;obtain⟨cs,h1,h2,_⟩:=hok;exact⟨cs,h1,h2⟩
  ·rename_i n e hu;rw[hu] at hok;obtain⟨cs,h1,h2,_⟩:=hok;exact⟨cs,h1,h2⟩
  ·cases hag
 obtain⟨cs,rfl,hsz⟩:=hv
 obtain⟨fuel,hx⟩:=h
 have hx:DataW.trod enc P w base spare held fuel t cs.toList=some (dd,pp):=hx
 obtain⟨g,hg⟩:=Hd9 hf hx (by simpa [hes] using hsz)
 refine⟨g,.agg _ _ (by simp[ca6,hsz,hes]) fun c x x' h1 h2=>?_⟩
 obtain⟨hc,rfl⟩:=Fc1 h1
 have:=hg c hc
 have h3:some x'=some (.int k (g c)):=by rw[← h2];simpa using this
 injection h3 with h3
 subst h3
 exact .v _
theorem Tc6 {ρ : Rho} {H : List b9} {t e : TypeId} {k : IntKind} {es d : Nat} {v : Value} {dd : DataW D} {pp : List MemPlace} {bs : Nat} {r : Reach} (ht : P.underlying t = some (.slice e)) (hf : T4 P d e = some (ya5 k es)) (hes : P.cellsOf e = es) (h0 : 0 < es)
  (hok:Value.okWide P w r bs t v) (h:DataW.Trod enc P w 0 spare held t v dd pp):∃ (n:Nat) (g:Nat→Nat→Int),n≤maxLen∧Y0 ρ H (qd5 w) w (.tree es n fun j=>ca6 k es (g j)) v:=by
 obtain⟨fuel,hx⟩:=h
 obtain⟨v',n,g,h1,h2,h3⟩:=Mc7 ht hf hes h0 hx
 have hv:v.cells=#[v]:=by
  unfold Value.okWide at hok
  rw[ht] at hok
  cases v with
  | agg cs=>exfalso;simp[Cell.okWide,Cell.ok,ht] at hok
  | _=>rfl
 rw[hv] at h1
 have:v=v':=by simpa using h1
 subst this
 exact⟨n,g,h2,.cell (.mem h3)⟩
end
end Go.Ev
namespace Go.Ev.L
open Go Go.Ev
theorem he6 {α : Type} (t : Ty α) (n : Nat) (g : Nat → Nat → Int) (f : (Nat → Int) → α) (h : ∀ j, ca6 .i64 t.es (g j) = t.row (f (g j))) :
  ∃ l,(ta7 t).dec (.tree t.es n fun j=>ca6 .i64 t.es (g j))=some l∧(ta7 t).grd (.tree t.es n fun j=>ca6 .i64 t.es (g j))=true:=by
 refine⟨lsL t n fun j=>ca6 .i64 t.es (g j),?_,Ta9 t (f:=fun k=>f (g k)) fun k _=>h k⟩
 show Bool.rec (motive:=fun _=>Option (List α)) none (some (lsL t n fun j=>ca6 .i64 t.es (g j))) (Nat.beq t.es t.es)=_
 rw[Nat.beq_refl]
end Go.Ev.L
namespace Go.Ev.L
open Go Go.Ev
def Rdg {α:Type} (c:Cod α) (x:b7) (a:α):Prop:=c.dec x=some a∧c.grd x=true
theorem he7 {α:Type} (t:Ty α) (n:Nat) (g:Nat→Nat→Int) (f:(Nat→Int)→α) (h:∀ j,ca6 .i64 t.es (g j)=t.row (f (g j))):∃ l,Rdg (ta7 t) (.tree t.es n fun j=>ca6 .i64 t.es (g j)) l:=he6 t n g f h
theorem he8 (n:Nat) (g:Nat→Nat→Int):∃ l,Rdg (ta7 tI) (.tree 1 n fun j=>ca6 .i64 1 (g j)) l:=he7 tI n g (fun g=>g 0) fun _=>rfl
section
variable {α β γ δ ε:Type} {c:Cod α} {d:Cod β} {e:Cod γ} {f:Cod δ} {c5:Cod ε} {x y z w v:b7} {a:α} {b':β} {g:γ} {j:δ} {m:ε} {r:b7×List b9}
theorem df2 {k:α→β→γ→DT (b7×List b9)} (h1:Rdg c x a) (h2:Rdg d y b') (h3:Rdg e z g) (h:(k a b' g).run=some r):(jc4 c d e k [x,y,z] []).run=some r:=by
 unfold jc4
 simp only[h1.1,h1.2,h2.1,h2.2,h3.1,h3.2]
 exact h
end
theorem Ke3 {g p:Bool} (hg:g=true) (hp:p=true):(DT.guard g (.ret ((one r1B).enc p,([]:List b9)))).run=some (b true,([]:List b9)):=by subst hg;subst hp;rfl
end Go.Ev.L
namespace Go.Ev.Ce
open Go Go.Ev Go.Ev.L Go.Proofs
structure B3 where
 b0:Int
 b1:Int
 b2:Int
def okB:List b7→Bool
 | [.v (.int .u8 _),.v (.int .u8 _),.v (.int .u8 _)]=>true
 | _=>false
def rdB:List b7→B3
 | [.v (.int .u8 x),.v (.int .u8 y),.v (.int .u8 z)]=>⟨x,y,z⟩
 | _=>⟨0,0,0⟩
noncomputable def tW:Ty B3 where
 es:=3
 row x:=[.v (.int .u8 x.b0),.v (.int .u8 x.b1),.v (.int .u8 x.b2)]
 rd:=rdB
 ok:=okB
 cks:=List.replicate 3 (.int .u8)
 d:=⟨0,0,0⟩
 h0 _:=rfl
 h1 _:=rfl
 h2 _:=rfl
 h3 r h:=by
  unfold okB at h
  split at h
  ·exact .refl _
  ·cases h
 h4 _:=rfl
 h5 _:=rfl
structure B2 where
 d0:Int
 d1:Int
structure LL where
 u:List Int
 v:List Int
end Go.Ev.Ce
namespace Go.Ev.Ce
open Go Go.Ev Go.Ev.L Go.Proofs
noncomputable def T2 (x:List Int):V3×List V3:=match d9 x with
 | []=>(⟨0,0,0⟩,[])
 | a::l=>(a,l)
noncomputable def Hb4:Sum:=Y1 (ta7 tI) fun x=>.guard (Qa1 x) (.guard (Nat.ble 1 (List.length (d9 x))) (.ret (eL tV ((T2 x).1::(T2 x).2),[])))
theorem he9 {α:Type} {c:Cod α} {k k':α→DT (b7×List b9)} (h:∀ a r,(k a).run=some r→(k' a).run=some r) {args:List b7} {blks:List b9} {r:b7×List b9} (hr:(Y1 c k args blks).run=some r):(Y1 c k' args blks).run=some r:=by
 unfold Y1 at hr ⊢
 split at hr
 ·rename_i x
  cases hd:c.dec x with
  | none=>rw[hd] at hr;cases hr
  | some a =>
   rw[hd] at hr
   obtain⟨h1,h2⟩:=DT.run_guard_some (show (DT.guard (c.grd x) (k a)).run=some r from hr)
   show (DT.guard (c.grd x) (k' a)).run=some r
   rw[h1]
   exact h a r h2
 ·cases hr
theorem Fc2:i4 prog G 25 Hb4:=fun args blks r out he=>Kc2 args blks r out (he9 (fun x r hr=>by
 obtain⟨h1,hr⟩:=DT.run_guard_some hr
 obtain⟨h2,hr⟩:=DT.run_guard_some hr
 rw[h1]
 have e:(T2 x).1::(T2 x).2=d9 x:=by
  unfold T2
  cases h:d9 x with
  | nil=>rw[h] at h2;cases h2
  | cons a l=>rfl
 rw[e] at hr
 exact hr) he)
end Go.Ev.Ce
section
namespace Go.Ev.Ce
open Go Go.Ev Go.Ev.L Go.Proofs
set_option maxRecDepth 100000
noncomputable def Fc3:List (Nat×Sum):=[]
theorem oc9:j9 prog G Fc3:=trivial
noncomputable def gb3  : Option (b7×List b9):=(some ((.sl 0 0 4 0),[⟨27,3,[[(i 0),(i 0),(i 0)],[(i 1),(i 0),(i 0)],[(i 0),(i 1),(i 0)],[(i 0),(i 0),(i 1)]],true,false,0⟩]))
noncomputable def Ka2  : List V3:=U2 (one (r1L tV)) gb3
noncomputable def na5  : Bool:=okO (one (r1L tV)) gb3
noncomputable def Hb5:Sum:=hd9  (.guard na5 (.ret ((one (r1L tV)).enc Ka2,[])))
theorem Fc4:i4 prog G 67 Hb5:=Ne2 (bd b67 oc9) (one (r1L tV)) (o:=gb3) (A0 (by kernel_rfl))
noncomputable def pc0:List (Nat×Sum):=[]
theorem fc1:j9 prog G pc0:=trivial
noncomputable def ra3 (x:List V3) (y:Int):Option (b7×List b9):=(sl (inB (if y < (↑(List.length x):Int) then y else (↑(List.length x):Int)) ((List.length x)+1)) (some ((.tree 3 ((if y < (↑(List.length x):Int) then y else (↑(List.length x):Int)).toNat - 0) (fun k=>(fun k=>(tV).row (gL tV x k)) (0+k))),[])) none)
noncomputable def ra4 (x:List V3) (y:Int):List V3:=U2 (one (r1L tV)) (ra3 x y)
noncomputable def ra5 (x:List V3) (y:Int):Bool:=okO (one (r1L tV)) (ra3 x y)
noncomputable def zb2:Sum:=na9 (ta7 tV) cI (fun x y=>.guard (ra5 x y) (.ret ((one (r1L tV)).enc (ra4 x y),[])))
theorem pc1:i4 prog G 24 zb2:=mb5 (bd b24 fc1) (one (r1L tV)) (o:=ra3) fun x y=>A0 (by kernel_rfl)
structure Td4 where
 Fa1:List Pln
 is8:Int
 c9:Int
 c7:Int
 d7:Int
structure Td5 where
 is9:Int
noncomputable def pc2:List (Nat×Sum):=[(19,Bc5),(21,Sb7),(23,yc8),(67,Hb5),(28,ec7),(30,Za4),(31,gb0)]
theorem fc2:j9 prog G pc2:=⟨md9,Lc9,md5,Fc4,Ec5,rb2,zb0,trivial⟩
noncomputable def ra6  : Option (b7×List b9):=let t1:=(Ha4 [(⟨(⟨1,1,1⟩:V3),3⟩:Pln),(⟨(⟨(-1),0,0⟩:V3),0⟩:Pln)] (⟨1,0,2⟩:V3));let t2:=(Ea0 [(⟨(⟨1,1,1⟩:V3),3⟩:Pln),(⟨(⟨(-1),0,0⟩:V3),0⟩:Pln)] (⟨1,0,2⟩:V3));let t3:=(Va8 (rt tP t1.1) [(⟨(⟨1,1,1⟩:V3),6⟩:Pln),(⟨(⟨(-1),0,0⟩:V3),1⟩:Pln)]);let t4:=(Va8 (rt tP t2.1) [(⟨(⟨1,1,1⟩:V3),0⟩:Pln),(⟨(⟨(-1),0,0⟩:V3),(-1)⟩:Pln)]);let t5:=(Ha4 [(⟨(⟨1,1,1⟩:V3),3⟩:Pln),(⟨(⟨(-1),0,0⟩:V3),0⟩:Pln)] (⟨13,0,0⟩:V3));let t6:=(Ea0 [(⟨(⟨1,1,1⟩:V3),3⟩:Pln),(⟨(⟨(-1),0,0⟩:V3),0⟩:Pln)] (⟨0,(-1),0⟩:V3));let t7:=(Ha4 [(⟨(⟨1,0,0⟩:V3),2097152⟩:Pln)] (⟨1,0,0⟩:V3));let t8:=Ka2;let t9:=(ea7 (rt tV t8) [(⟨0,0,0⟩:V3),(⟨2,0,0⟩:V3)]);let t10:=(O6 (rt tV t9.1) [(⟨0,0,0⟩:V3),(⟨0,0,1⟩:V3),(⟨0,1,0⟩:V3),(⟨2,0,1⟩:V3),(⟨2,1,0⟩:V3),(⟨3,0,0⟩:V3)]);let t11:=(ea7 (rt tV t8) []);let t12:=(ea7 (rt tV t8) [(⟨24,0,0⟩:V3)]);let t13:=(M7 (rt tV t8) (⟨3,(-1),2⟩:V3));let t14:=(M7 [] (⟨3,0,0⟩:V3));(sl (Ha5 [(⟨(⟨1,1,1⟩:V3),3⟩:Pln),(⟨(⟨(-1),0,0⟩:V3),0⟩:Pln)] (⟨1,0,2⟩:V3)) (sl (Ea1 [(⟨(⟨1,1,1⟩:V3),3⟩:Pln),(⟨(⟨(-1),0,0⟩:V3),0⟩:Pln)] (⟨1,0,2⟩:V3)) (sl (!t1.2) (some ((b false),[])) (sl (!t2.2) (some ((b false),[])) (sl (okE tP t1.1) (sl (Va9 (rt tP t1.1) [(⟨(⟨1,1,1⟩:V3),6⟩:Pln),(⟨(⟨(-1),0,0⟩:V3),1⟩:Pln)]) (sl (!t3) (some ((b false),[])) (sl (okE tP t2.1) (sl (Va9 (rt tP t2.1) [(⟨(⟨1,1,1⟩:V3),0⟩:Pln),(⟨(⟨(-1),0,0⟩:V3),(-1)⟩:Pln)]) (sl (!t4) (some ((b false),[])) (sl (Ha5 [(⟨(⟨1,1,1⟩:V3),3⟩:Pln),(⟨(⟨(-1),0,0⟩:V3),0⟩:Pln)] (⟨13,0,0⟩:V3)) (sl (Ea1 [(⟨(⟨1,1,1⟩:V3),3⟩:Pln),(⟨(⟨(-1),0,0⟩:V3),0⟩:Pln)] (⟨0,(-1),0⟩:V3)) (sl (Ha5 [(⟨(⟨1,0,0⟩:V3),2097152⟩:Pln)] (⟨1,0,0⟩:V3)) (sl na5 (sl (okE tV t8) (sl (z6 (rt tV t8) [(⟨0,0,0⟩:V3),(⟨2,0,0⟩:V3)]) (sl t5.2 (some ((b false),[])) (sl t6.2 (some ((b false),[])) (sl t7.2 (some ((b false),[])) (sl (t9.2 != 0) (some ((b false),[])) (sl (okE tV t9.1) (sl (G8 (rt tV t9.1) [(⟨0,0,0⟩:V3),(⟨0,0,1⟩:V3),(⟨0,1,0⟩:V3),(⟨2,0,1⟩:V3),(⟨2,1,0⟩:V3),(⟨3,0,0⟩:V3)]) (sl (!t10) (some ((b false),[])) (sl na5 (sl (okE tV t8) (sl (z6 (rt tV t8) []) (sl na5 (sl (okE tV t8) (sl (z6 (rt tV t8) [(⟨24,0,0⟩:V3)]) (sl na5 (sl (okE tV t8) (sl (k9 (rt tV t8) (⟨3,(-1),2⟩:V3)) (sl (k9 [] (⟨3,0,0⟩:V3)) (sl (t11.2==11) (sl (t12.2==3) (sl (t13.1==3) (sl t13.2 (some ((b (!t14.2)),[])) (some ((b false),[]))) (some ((b false),[]))) (some ((b false),[]))) (some ((b false),[]))) none) none) none) none) none) none) none) none) none) none)) none) none))))) none) none) none) none) none) none)) none) none)) none) none))) none) none)
noncomputable def Ea7  : Bool:=U2 (one r1B) ra6
noncomputable def Ea8  : Bool:=okO (one r1B) ra6
noncomputable def zb3:Sum:=hd9  (.guard Ea8 (.ret ((one r1B).enc Ea7,[])))
theorem pc3:i4 prog G 15 zb3:=Ne2 (bd b15 fc2) (one r1B) (o:=ra6) (A0 (by kernel_rfl))
end Go.Ev.Ce
end
namespace Go.Ev.Ce
open Go Go.Ev Go.Ev.L Go.Proofs
noncomputable def cd5 (v:V3):List b7:=[i v.x,i v.y,i v.z,b true]
noncomputable def Za5 (l:List V3):List (List b7):=l.map cd5
@[reducible] noncomputable def flV:List (Nat×CK):=[(0,(.int .i64)),(1,(.int .i64)),(2,(.int .i64))]
def cd6 (l:List V3) (x:V3):Bool:=l.any fun q=>eqV q x
theorem ie0 (l:List V3) (x:V3):cd6 l x=true↔x∈l:=by
 unfold cd6
 rw[List.any_eq_true]
 exact⟨fun⟨q,hq,e⟩=>(Ub4 q x).1 e ▸ hq,fun h=>⟨x,h,(Ub4 x x).2 rfl⟩⟩
theorem Tc7 (x q:V3):kb7 flV [i x.x,i x.y,i x.z] (cd5 q)=eqV q x:=by
 show Bool.and (decide (x.x=q.x)) (Bool.and (decide (x.y=q.y)) (Bool.and (decide (x.z=q.z)) true))=_
 unfold eqV
 have h:∀ a c:Int,decide (a=c)=(c==a):=fun a c=>by rw[Bool.eq_iff_iff,decide_eq_true_eq,beq_iff_eq];exact eq_comm
 rw[h,h,h]
theorem ie1 (x:V3):∀ l,za2 3 [(0,(.int .i64)),(1,(.int .i64)),(2,(.int .i64))] [i x.x,i x.y,i x.z] (Za5 l)=cd6 l x
 | []=>rfl
 | q::l=>by
  have ih:=ie1 x l
  unfold za2 at ih ⊢
  show Option.rec (motive:=fun _=>Bool) false (fun r=>toB (hdA (g8 r 3))) (Bool.rec (motive:=fun _=>Option (List b7)) (Mb6 flV [i x.x,i x.y,i x.z] (Za5 l)) (some (cd5 q)) (kb7 flV [i x.x,i x.y,i x.z] (cd5 q)))=cd6 (q::l) x
  rw[Tc7]
  unfold cd6 at ih ⊢
  rw[List.any_cons]
  cases eqV q x with
  | true=>rfl
  | false=>exact ih
theorem Ke4 (x:V3):∀ l,cd6 l x=false→T3 [(0,(.int .i64)),(1,(.int .i64)),(2,(.int .i64))] [i x.x,i x.y,i x.z] [i x.x,i x.y,i x.z,b true] (Za5 l)=Za5 (l++[x])
 | [],_=>rfl
 | q::l,h=>by
  unfold cd6 at h
  rw[List.any_cons,Bool.or_eq_false_iff] at h
  show Bool.rec (motive:=fun _=>List (List b7)) (cd5 q::T3 flV [i x.x,i x.y,i x.z] (cd5 x) (Za5 l)) (cd5 x::Za5 l) (kb7 flV [i x.x,i x.y,i x.z] (cd5 q))=_
  rw[Tc7,h.1,show T3 flV [i x.x,i x.y,i x.z] (cd5 x) (Za5 l)=_ from Ke4 x l h.2]
  rfl
def fc3 (s:List V3) (v:V3):List V3:=if cd6 s v then s else s++[v]
noncomputable def Vb5 (x:V3) (s:List V3) (y:V3):List V3:=fc3 s (f7 x y)
noncomputable def Oa9 (l:List V3) (s:List V3) (x:V3):List V3:=l.foldl (Vb5 x) s
noncomputable def da8 (a l:List V3):List V3:=a.foldl (Oa9 l) []
theorem cd7 (s:List V3) (v:V3):fc3 s v≠[]:=by
 unfold fc3
 split
 ·rename_i h
  intro e
  rw[e] at h
  cases h
 ·simp
theorem qd6 (s:List V3) (v:V3):(fc3 s v).length≤s.length+1:=by
 unfold fc3
 split
 ·omega
 ·simp
theorem ie2 (s:List V3) (v w:V3):w∈fc3 s v↔w∈s∨w=v:=by
 unfold fc3
 split
 ·rename_i h
  rw[ie0] at h
  exact⟨.inl,fun h'=>h'.elim id fun e=>e ▸ h⟩
 ·rw[List.mem_append,List.mem_singleton]
theorem qd7 (x w:V3):∀ (l s:List V3),w∈Oa9 l s x↔w∈s∨∃ y∈l,w=f7 x y
 | [],s=>by simp[Oa9]
 | y::l,s=>by
  have ih:=qd7 x w l (Vb5 x s y)
  show w∈Oa9 l (Vb5 x s y) x↔_
  rw[ih]
  unfold Vb5
  rw[ie2]
  simp only[List.mem_cons,exists_eq_or_imp,or_assoc]
theorem Tc8 (w:V3) (l:List V3):∀ (a s:List V3),w∈a.foldl (Oa9 l) s↔w∈s∨∃ x∈a,∃ y∈l,w=f7 x y
 | [],s=>by simp
 | x::a,s=>by
  rw[List.foldl_cons,Tc8 w l a (Oa9 l s x),qd7]
  simp only[List.mem_cons,exists_eq_or_imp,or_assoc]
theorem Fc5 (a l:List V3) (w:V3):w∈da8 a l↔∃ x∈a,∃ y∈l,w=f7 x y:=by
 unfold da8
 rw[Tc8]
 simp
theorem qd8 (x:V3):∀ (l s:List V3),(Oa9 l s x).length≤s.length+l.length
 | [],s=>by simp[Oa9]
 | y::l,s=>by
  have h1:=qd8 x l (Vb5 x s y)
  have h2:=qd6 s (f7 x y)
  unfold Vb5 at h1
  show (Oa9 l (fc3 s (f7 x y)) x).length≤_
  simp only[List.length_cons]
  omega
theorem fc4 (l:List V3):∀ (a s:List V3),(a.foldl (Oa9 l) s).length≤s.length+a.length*l.length
 | [],s=>by simp
 | x::a,s=>by
  have h1:=fc4 l a (Oa9 l s x)
  have h2:=qd8 x l s
  rw[List.foldl_cons,List.length_cons,Nat.succ_mul]
  omega
theorem Fc6 (a l:List V3):(da8 a l).length≤a.length*l.length:=by
 have:=fc4 l a []
 simp only[List.length_nil,Nat.zero_add] at this
 exact this
noncomputable def rb6 (x:V3) (j:Nat) (o:List V3):n9:=match o with
 | []=>⟨0,(j:Int),0,[],[],0,0,0⟩
 | q::o=>⟨1,(j:Int),(q::o).length,bL tV (q::o),Za5 (q::o),x.x,x.y,x.z⟩
theorem Id0 {x:V3} {j:Nat} {o:List V3} (h:o≠[]):rb6 x j o=⟨1,(j:Int),o.length,bL tV o,Za5 o,x.x,x.y,x.z⟩:=by
 cases o with
 | nil=>exact absurd rfl h
 | cons q o=>rfl
theorem Ke5 (O:List V3) (v:V3):app (bL tV O) [[i v.x,i v.y,i v.z]]=bL tV (O++[v]):=Ua1 tV O [v]
theorem ie3 (x : V3) (l : List V3) (P : B6) (h1 : P.pb5 = l) (h2 : P.dd8 = (l.length : Int)) (hl : l.length ≤ 48) (o : List V3) (ho : o.length ≤ 1000000) (hP : o = [] → P.C9 = x.x ∧ P.D0 = x.y ∧ P.D1 = x.z) :
  ∃ t s,lp (G7 P) (rb6 x 0 o)=(t,s)∧(t=phV (Oa9 l o x)+1∧∃ j,s=rb6 x j (Oa9 l o x)):=by
 refine T1 (step:=G7 P) (mk:=rb6 x) l.length (fun j s=>j≤l.length∧s=(l.take j).foldl (Vb5 x) o∧s.length≤o.length+j∧(s=[]→P.C9=x.x∧P.D0=x.y∧P.D1=x.z)) (fun t s=>t=phV (Oa9 l o x)+1∧∃ j,s=rb6 x j (Oa9 l o x)) (by omega)
  (fun j s hj hi=>?_) (fun j s hj hi=>?_) 0 o ⟨Nat.zero_le _,by simp,by omega,hP⟩
 ·obtain⟨_,hi,hlen,hz⟩:=hi
  have hn:=y7 hj (show l.length≤4611686018427387904 by omega)
  have hb:inB (j:Int) l.length=true:=i5 hj
  have hT:(l.take (j+1)).foldl (Vb5 x) o=fc3 s (f7 x (gL tV l j)):=by
   rw[Ea3 tV hj,List.foldl_append,← hi]
   rfl
  have hnext:∀ {s':n9},s'=rb6 x (j+1) (fc3 s (f7 x (gL tV l j)))→Nx (.next s') (fun t=>t=phV (Oa9 l o x)+1∧∃ j',rb6 x j s=rb6 x j' (Oa9 l o x)) (fun s'=>∃ o',s'=rb6 x (j+1) o'∧(j+1≤l.length∧o'=(l.take (j+1)).foldl (Vb5 x) o∧o'.length≤o.length+(j+1)∧(o'=[]→P.C9=x.x∧P.D0=x.y∧P.D1=x.z))):=fun {s'} hs=>.nx ⟨_,hs,by omega,hT.symm,by have:=qd6 s (f7 x (gL tV l j));omega,fun h=>absurd h (cd7 _ _)⟩
  clear hi
  cases s with
  | nil =>
   obtain⟨z1,z2,z3⟩:=hz rfl
   have hu:∀ v:V3,T3 [(0,(.int .i64)),(1,(.int .i64)),(2,(.int .i64))] [i v.x,i v.y,i v.z] [i v.x,i v.y,i v.z,b true] []=Za5 [v]:=fun v=>Ke4 v [] rfl
   have hv:∀ v:V3,za2 3 [(0,(.int .i64)),(1,(.int .i64)),(2,(.int .i64))] [i v.x,i v.y,i v.z] []=false:=fun v=>ie1 v []
   have hs:fc3 [] (f7 x (gL tV l j))=[f7 x (gL tV l j)]:=rfl
   have e:G7 P (rb6 x j [])=.next ⟨1,((j+1:Nat):Int),1,[[i (f7 x (gL tV l j)).x,i (f7 x (gL tV l j)).y,i (f7 x (gL tV l j)).z]],Za5 [f7 x (gL tV l j)],x.x,x.y,x.z⟩:=by
    show J0 Stp.next Stp.exit Stp.fail P (rb6 x j [])=_
    simp only[J0,rb6,h1,h2,z1,z2,z3,Int.toNat_natCast,hn,hb,hv,hu,Bool.not_false,y9]
    rw[btD (l5 hj)]
   rw[e]
   exact hnext (by rw[hs];rfl)
  | cons q s =>
   have rr:(Nat.beq (q::s).length (len (bL tV (q::s)))&&Nat.ble (((q::s).length+1)*24) room)=true:=nd8 rfl (by omega)
   show Nx (J1 Stp.next Stp.exit Stp.fail P (rb6 x j (q::s))) _ _
   simp only[J1,rb6,h1,h2,Int.toNat_natCast,hn,hb,ie1,rr,Ke5]
   rw[btD (l5 hj)]
   cases hh:cd6 (q::s) (f7 x (gL tV l j)) with
   | true =>
    refine hnext ?_
    rw[Id0 (cd7 _ _)]
    unfold fc3
    rw[hh]
    rfl
   | false =>
    refine hnext ?_
    rw[Id0 (cd7 _ _)]
    unfold fc3
    rw[hh,Ke4 _ _ hh]
    show (⟨1,_,(q::s).length+1,_,_,_,_,_⟩:n9)=⟨1,_,(q::s++[_]).length,_,_,_,_,_⟩
    rw[List.length_append]
    rfl
 ·obtain⟨hje,hi,hlen,hz⟩:=hi
  have hje:j=l.length:=by omega
  subst hje
  have hO:s=Oa9 l o x:=by rw[hi,List.take_length];rfl
  rw[← hO]
  cases s with
  | nil =>
   refine⟨1,?_,rfl,_,rfl⟩
   show J0 Stp.next Stp.exit Stp.fail P (rb6 x l.length [])=_
   simp only[J0,rb6,h2]
   rw[bfD (p5 (Nat.lt_irrefl _))]
  | cons q s =>
   refine⟨2,?_,rfl,_,rfl⟩
   show J1 Stp.next Stp.exit Stp.fail P (rb6 x l.length (q::s))=_
   simp only[J1,rb6,h2]
   rw[bfD (p5 (Nat.lt_irrefl _))]
noncomputable def cd8 (a l:List V3) (j:Nat) (o:List V3):q9:=match o with
 | []=>⟨0,l,a,(j:Int),0,[],[]⟩
 | q::o=>⟨1,l,a,(j:Int),(q::o).length,bL tV (q::o),Za5 (q::o)⟩
theorem Ke6 (a l:List V3) (ha:a.length≤48) (hl:l.length≤48):∃ t s,lp (ca3 ⟨(a.length:Int)⟩) (cd8 a l 0 [])=(t,s)∧(t=phV (da8 a l)+1∧∃ j,s=cd8 a l j (da8 a l)):=by
 refine T1 (step:=ca3 ⟨(a.length:Int)⟩) (mk:=cd8 a l) a.length (fun j s=>j≤a.length∧s=(a.take j).foldl (Oa9 l) []) (fun t s=>t=phV (da8 a l)+1∧∃ j,s=cd8 a l j (da8 a l)) (by omega)
  (fun j s hj hi=>?_) (fun j s hj hi=>?_) 0 [] ⟨Nat.zero_le _,by simp⟩
 ·obtain⟨_,hi⟩:=hi
  have hlen:s.length≤1000000:=by
   have h1:=fc4 l (a.take j) []
   rw[← hi] at h1
   have h2:=List.length_take_le j a
   have h3:(a.take j).length*l.length≤48*48:=Nat.mul_le_mul (by omega) hl
   simp only[List.length_nil] at h1
   omega
  have hn:=y7 hj (show a.length≤4611686018427387904 by omega)
  have hb:inB (j:Int) a.length=true:=i5 hj
  have hT:(a.take (j+1)).foldl (Oa9 l) []=Oa9 l s (gL tV a j):=by
   rw[Ea3 tV hj,List.foldl_append,← hi]
   rfl
  have hnext:∀ {s':q9},s'=cd8 a l (j+1) (Oa9 l s (gL tV a j))→Nx (.next s') (fun t=>t=phV (da8 a l)+1∧∃ j',cd8 a l j s=cd8 a l j' (da8 a l)) (fun s'=>∃ o',s'=cd8 a l (j+1) o'∧(j+1≤a.length∧o'=(a.take (j+1)).foldl (Oa9 l) [])):=fun {s'} hs=>.nx ⟨_,hs,by omega,hT.symm⟩
  clear hi
  cases s with
  | nil =>
   obtain⟨t,s',k1,rfl,j',rfl⟩:=ie3 (gL tV a j) l ⟨l,a,(a.length:Int),(j:Int),l,(l.length:Int),(gL tV a j).x,(gL tV a j).y,(gL tV a j).z⟩ rfl rfl hl [] (by simp) (fun _=>⟨rfl,rfl,rfl⟩)
   have k1:lp (G7 ⟨l,a,(a.length:Int),(j:Int),l,(l.length:Int),(gL tV a j).x,(gL tV a j).y,(gL tV a j).z⟩) ⟨0,0,0,[],[],0,0,0⟩=_:=k1
   show Nx (J2 Stp.next Stp.exit Stp.fail ⟨(a.length:Int)⟩ ⟨0,l,a,(j:Int),0,[],[]⟩) _ _
   simp only[J2,p9,l7,Int.toNat_natCast,hn,hb,k1]
   rw[btD (l5 hj)]
   cases hr:Oa9 l [] (gL tV a j) with
   | nil=>exact hnext (by rw[hr];rfl)
   | cons q o=>exact hnext (by rw[hr];rfl)
  | cons q s =>
   obtain⟨t,s',k1,rfl,j',rfl⟩:=ie3 (gL tV a j) l ⟨l,a,(a.length:Int),(j:Int),l,(l.length:Int),0,0,0⟩ rfl rfl hl (q::s) hlen (fun h=>by cases h)
   have k1:lp (G7 ⟨l,a,(a.length:Int),(j:Int),l,(l.length:Int),0,0,0⟩) ⟨1,0,(q::s).length,bL tV (q::s),Za5 (q::s),(gL tV a j).x,(gL tV a j).y,(gL tV a j).z⟩=_:=k1
   show Nx (J3 Stp.next Stp.exit Stp.fail ⟨(a.length:Int)⟩ ⟨1,l,a,(j:Int),(q::s).length,bL tV (q::s),Za5 (q::s)⟩) _ _
   simp only[J3,p9,l7,Int.toNat_natCast,hn,hb,k1]
   rw[btD (l5 hj)]
   cases hr:Oa9 l (q::s) (gL tV a j) with
   | nil=>exact hnext (by rw[hr];rfl)
   | cons q' o=>exact hnext (by rw[hr];rfl)
 ·obtain⟨hje,hi⟩:=hi
  have hje:j=a.length:=by omega
  subst hje
  have hO:s=da8 a l:=by rw[hi,List.take_length];rfl
  rw[← hO]
  cases s with
  | nil =>
   refine⟨1,?_,rfl,_,rfl⟩
   show J2 Stp.next Stp.exit Stp.fail ⟨(a.length:Int)⟩ ⟨0,l,a,(a.length:Int),0,[],[]⟩=_
   simp only[J2]
   rw[bfD (p5 (Nat.lt_irrefl _))]
  | cons q s =>
   refine⟨2,?_,rfl,_,rfl⟩
   show J3 Stp.next Stp.exit Stp.fail ⟨(a.length:Int)⟩ ⟨1,l,a,(a.length:Int),(q::s).length,bL tV (q::s),Za5 (q::s)⟩=_
   simp only[J3]
   rw[bfD (p5 (Nat.lt_irrefl _))]
noncomputable def Lb7 (a l:List V3):List V3×Int:=if 48 < a.length∨48 < l.length then ([],2) else Db8 (da8 a l)
theorem ie4 (l:List V3) (n:Int):(two (r1L tV) r1I).rd (.tup [eL tV l,i n],[])=some (l,n):=by
 have h:(r1L tV).rd [] (eL tV l)=some l:=Se5 tV l
 simp only[two,h]
 rfl
theorem Te9 (m n:Nat):decide ((if (n:Int) > (m:Int) then (n:Int) else (m:Int)) > 48)=decide (48 < m∨48 < n):=by
 rw[decide_eq_decide]
 split<;>omega
theorem Ce3 (a l:List V3):∃ x,kb0 a l=some x∧(two (r1L tV) r1I).rd x=some (Lb7 a l):=by
 unfold kb0 Lb7
 rw[Te9]
 by_cases h:48 < a.length∨48 < l.length
 ·rw[decide_eq_true h,if_pos h]
  exact⟨_,rfl,rfl⟩
 ·rw[decide_eq_false h,if_neg h]
  obtain⟨t,s,k1,rfl,j,rfl⟩:=Ke6 a l (by omega) (by omega)
  have k1:lp (ca3 ⟨(a.length:Int)⟩) ⟨0,l,a,0,0,[],[]⟩=_:=k1
  unfold Oa4 ea6
  simp only[p9,l7,k1,Te8.1,Te8.2]
  have hlen:(da8 a l).length≤900000:=by
   have h1:=Fc6 a l
   have h3:a.length*l.length≤48*48:=Nat.mul_le_mul (by omega) (by omega)
   omega
  cases hr:da8 a l with
  | nil=>exact⟨_,rfl,ie4 _ _⟩
  | cons q o =>
   rw[hr] at hlen
   have hg:P5 (q::o)=true:=decide_eq_true ⟨by simp,hlen⟩
   have e1:slR tV (bL tV (q::o)) 0 (q::o).length=q::o:=db6 tV _
   have e2:okS tV (bL tV (q::o)) 0 (q::o).length=true:=mb4 tV _
   simp only[cd8,phV]
   refine⟨(.tup [eL tV (Db8 (q::o)).1,i (Db8 (q::o)).2],[]),?_,ie4 _ _⟩
   show sl (okS tV (bL tV (q::o)) 0 (q::o).length) (sl (P5 (slR tV (bL tV (q::o)) 0 (q::o).length)) (some (b7.tup [eL tV (P4 (slR tV (bL tV (q::o)) 0 (q::o).length)).1,i (P4 (slR tV (bL tV (q::o)) 0 (q::o).length)).2],[])) none) none=_
   rw[e1,e2,hg]
   rfl
theorem ie5 (a l:List V3):ea7 a l=Lb7 a l:=by obtain⟨x,h,k⟩:=Ce3 a l;unfold ea7;rw[h];exact Ha6 _ k
theorem ie6 (a l:List V3):z6 a l=true:=by obtain⟨x,h,k⟩:=Ce3 a l;unfold z6;rw[h];exact Ya7 _ k
end Go.Ev.Ce
namespace Go.Ev.Ce
open Go Go.Ev Go.Ev.L Go.Proofs
def rch (n e:V3):Int:=(n.x.natAbs:Int)*e.x+(n.y.natAbs:Int)*e.y+(n.z.natAbs:Int)*e.z
def Hb6 (e:V3):Bool:=(decide (0≤e.x)&&decide (e.x≤12))&&((decide (0≤e.y)&&decide (e.y≤12))&&(decide (0≤e.z)&&decide (e.z≤12)))
def pq (e:V3) (s:Int) (p:Pln):Pln:=⟨p.n,p.b+s*rch p.n e⟩
def okq (e:V3) (s:Int) (p:Pln):Bool:=okp p&&smb 2097152 (p.b+s*rch p.n e)
def zb4 (c:List Pln) (e:V3) (s:Int):List Pln×Bool:=if (Hb6 e&&c.all (okq e s))=true then (c.map (pq e s),true) else ([],false)
structure B12 (e:V3):Prop where
 x1:0≤e.x
 x2:e.x≤12
 y1:0≤e.y
 y2:e.y≤12
 z1:0≤e.z
 z2:e.z≤12
theorem Tc9 (e:V3):Hb6 e=true↔B12 e:=by
 unfold Hb6
 simp only[Bool.and_eq_true,decide_eq_true_eq]
 exact⟨fun⟨⟨a,b⟩,⟨c,d⟩,f,g⟩=>⟨a,b,c,d,f,g⟩,fun⟨a,b,c,d,f,g⟩=>⟨⟨a,b⟩,⟨c,d⟩,f,g⟩⟩
theorem Uc0 {n e:Int} (hn:Sm 4608 n) (h0:0≤e) (h1:e≤12):0≤(n.natAbs:Int)*e∧(n.natAbs:Int)*e≤55296:=by
 have a:(n.natAbs:Int)≤4608:=by have:=hn.1;have:=hn.2;omega
 refine⟨Int.mul_nonneg (by omega) h0,?_⟩
 have:=Int.mul_le_mul a h1 h0 (by omega)
 omega
theorem ie7 {p:Pln} (hp:okp p=true) {e:V3} (he:B12 e):0≤rch p.n e∧rch p.n e≤165888:=by
 have hb:=fb7 hp
 have h1:=Uc0 ⟨hb.x1,hb.x2⟩ he.x1 he.x2
 have h2:=Uc0 ⟨hb.y1,hb.y2⟩ he.y1 he.y2
 have h3:=Uc0 ⟨hb.z1,hb.z2⟩ he.z1 he.z2
 unfold rch
 omega
theorem smL {n x:Int} (h1:-n≤x) (h2:x≤n) (hn:n≤1000000000000000000):Sm 1000000000000000000 x:=⟨by omega,by omega⟩
theorem qd9 {p:Pln} (hp:okp p=true) {e:V3} (he:B12 e):va8 p.n e=rch p.n e:=by
 have hb:=fb7 hp
 have h1:=Uc0 ⟨hb.x1,hb.x2⟩ he.x1 he.x2
 have h2:=Uc0 ⟨hb.y1,hb.y2⟩ he.y1 he.y2
 have h3:=Uc0 ⟨hb.z1,hb.z2⟩ he.z1 he.z2
 unfold va8
 rw[cb5 (smL hb.x1 hb.x2 (by omega)),cb5 (smL hb.y1 hb.y2 (by omega)),cb5 (smL hb.z1 hb.z2 (by omega))]
 simp only
 rw[U3 (n:=(p.n.x.natAbs:Int)*e.x) (by omega) (by omega),U3 (n:=(p.n.y.natAbs:Int)*e.y) (by omega) (by omega),U3 (n:=(p.n.z.natAbs:Int)*e.z) (by omega) (by omega),
  U3 (n:=(p.n.x.natAbs:Int)*e.x+(p.n.y.natAbs:Int)*e.y) (by omega) (by omega),U3 (by omega) (by omega)]
 rfl
noncomputable def Bd2 (p:Pln) (y:Int):Pln×Bool:=if (okp p&&(smb 4194304 y&&smb 2097152 (W (p.b+y))))=true then (⟨p.n,W (p.b+y)⟩,true) else (⟨⟨0,0,0⟩,0⟩,false)
theorem ie8 (p:Pln) (y:Int):∃ x,Da7 p y=some x∧(two r1P r1B).rd x=some (Bd2 p y):=by
 have e1:K2 4194304 [y]=smb 4194304 y:=by rw[jb3 _ _ (by omega) (by simp)];simp
 have e2:K3 4194304 [y]=true:=jb4 _ _ (by omega) (by simp)
 have e3:K2 2097152 [W (p.b+y)]=smb 2097152 (W (p.b+y)):=by rw[jb3 _ _ (by omega) (by simp)];simp
 have e4:K3 2097152 [W (p.b+y)]=true:=jb4 _ _ (by omega) (by simp)
 unfold Da7 Bd2
 simp only[Fd9,Gd0,e1,e2,e3,e4]
 cases okp p
 ·exact⟨_,rfl,rfl⟩
 ·cases smb 4194304 y
  ·exact⟨_,rfl,rfl⟩
  ·cases smb 2097152 (W (p.b+y))<;>exact⟨_,rfl,rfl⟩
theorem cd9 (p:Pln) (y:Int):ka7 p y=Bd2 p y:=by
 obtain⟨x,h,k⟩:=ie8 p y
 unfold ka7;rw[h];exact Ha6 _ k
theorem dd0 (p:Pln) (y:Int):ka8 p y=true:=by
 obtain⟨x,h,k⟩:=ie8 p y
 unfold ka8;rw[h];exact Ya7 _ k
theorem ie9 {e:V3} (he:B12 e) {s y:Int} (hs:s=1∨s=-1) {p:Pln} (hy:okp p=true→y=s*rch p.n e):Bd2 p y=if okq e s p=true then (pq e s p,true) else (⟨⟨0,0,0⟩,0⟩,false):=by
 unfold Bd2 okq pq
 cases hp:okp p
 ·rfl
 ·have hr:=ie7 hp he
  have hb:=fb7 hp
  have e1:=hy hp
  subst e1
  have hm:-165888≤s*rch p.n e∧s*rch p.n e≤165888:=by
   rcases hs with rfl | rfl<;>omega
  have h1:smb 4194304 (s*rch p.n e)=true:=(Ra6 _ _).2 ⟨by omega,by omega⟩
  have hb1:=hb.b1;have hb2:=hb.b2
  rw[h1,U3 (by omega) (by omega)]
  rfl
theorem rd0 (e:V3):ga0 e=some (b (Hb6 e),[]):=by
 have hs:lp (G6 ⟨e.x,e.y,e.z⟩) ⟨0⟩=(if Hb6 e then 2 else 1,(lp (G6 ⟨e.x,e.y,e.z⟩) ⟨0⟩).2):=by
  refine Prod.ext ?_ rfl
  have h:=ac6 (step:=G6 ⟨e.x,e.y,e.z⟩) (mk:=fun j=>(⟨(j:Int)⟩:A2)) (c:=fun n=>decide (n < 0)||decide (n > 12)) (u:=1) (fin:=2) tI [e.x,e.y,e.z] (by simp)
   (fun j hj=>by
    have hj:j < 3:=hj
    have hc:j=0∨j=1∨j=2:=by omega
    have hw:W ((j:Int)+1)=((j+1:Nat):Int):=y7 hj (by omega)
    simp only[G6,Q7,Int.toNat_natCast,hw]
    rw[btD (show (j:Int) < 3 by omega),bt (i5 hj)]
    rcases hc with rfl | rfl | rfl
    ·show sl true (sl (decide (e.x < 0)) _ (sl (decide (e.x > 12)) _ _)) _=sl (decide (e.x < 0)||decide (e.x > 12)) _ _
     cases decide (e.x < 0)<;>cases decide (e.x > 12)<;>rfl
    ·show sl true (sl (decide (e.y < 0)) _ (sl (decide (e.y > 12)) _ _)) _=sl (decide (e.y < 0)||decide (e.y > 12)) _ _
     cases decide (e.y < 0)<;>cases decide (e.y > 12)<;>rfl
    ·show sl true (sl (decide (e.z < 0)) _ (sl (decide (e.z > 12)) _ _)) _=sl (decide (e.z < 0)||decide (e.z > 12)) _ _
     cases decide (e.z < 0)<;>cases decide (e.z > 12)<;>rfl)
   (by simp only[G6,Q7];rw[bfD (by show ¬ ((3:Nat):Int) < 3;omega)]) 0 (Nat.zero_le _)
  rw[List.drop_zero] at h
  rw[show (⟨0⟩:A2)=⟨((0:Nat):Int)⟩ from rfl,h]
  have hq:∀ n:Int,(decide (n < 0)||decide (n > 12))=!(decide (0≤n)&&decide (n≤12)):=fun n=>by
   by_cases h1:n < 0<;>by_cases h2:n > 12<;>simp[h1,h2]<;>omega
  simp only[List.any_cons,List.any_nil,Bool.or_false,hq]
  unfold Hb6
  cases (decide (0≤e.x)&&decide (e.x≤12))<;>cases (decide (0≤e.y)&&decide (e.y≤12))<;>cases (decide (0≤e.z)&&decide (e.z≤12))<;>rfl
 unfold ga0
 rw[hs]
 cases Hb6 e<;>rfl
theorem rd1 (e:V3):ga1 e=Hb6 e:=by unfold ga1;rw[rd0];rfl
theorem rd2 (e:V3):ga2 e=true:=by unfold ga2;rw[rd0];rfl
end Go.Ev.Ce
namespace Go.Ev.Ce
open Go Go.Ev Go.Ev.L Go.Proofs
theorem je0 {α:Type} (t:Ty α) {l:List α} {j:Nat} {c:α→Bool} (h:j < l.length):(l.take (j+1)).all c=((l.take j).all c&&c (gL t l j)):=by
 rw[Ea3 t h,List.all_append,List.all_cons,List.all_nil,Bool.and_true]
theorem Ke7 {α:Type} (t:Ty α) {l:List α} {j:Nat} {c:α→Bool} (h:j < l.length) (hc:c (gL t l j)=false):l.all c=false:=by
 rw[List.all_eq_false]
 exact⟨_,eb9 t h,by rw[hc];simp⟩
section
variable (c:List Pln) (e:V3) (s:Int)
structure PI (j:Nat) (o:List Pln):Prop where
 le:j≤c.length
 o:o=(c.take j).map (pq e s)
 a:(c.take j).all (okq e s)=true
def PE {σ:Type} (mk:Nat→List Pln→σ) (t:Nat) (st:σ):Prop:=(t=1∧c.all (okq e s)=false)∨(c.all (okq e s)=true∧t=phP (c.map (pq e s))+2∧∃ j,st=mk j (c.map (pq e s)))
theorem Uc1 {σ : Type} {step : σ → Stp σ} {mk : Nat → List Pln → σ} (hc : c.length ≤ 1000000)
  (h:∀ j o,j < c.length→o.length≤1000000→step (mk j o)=if okq e s (gL tP c j)=true then .next (mk (j+1) (o++[pq e s (gL tP c j)])) else .exit 1)
  (hf:∀ o,step (mk c.length o)=.exit (phP o+2)):∃ t st,lp step (mk 0 [])=(t,st)∧PE c e s mk t st :=
 T1 (step:=step) (mk:=mk) c.length (PI c e s) (PE c e s mk) (by omega)
  (fun j o hj hi=>by
   have hlen:o.length≤1000000:=by
    rw[hi.o,List.length_map]
    have:=List.length_take_le j c
    omega
   rw[h j o hj hlen]
   cases hk:okq e s (gL tP c j) with
   | true=>exact .nx ⟨_,rfl,by omega,by rw[Ea3 tP hj,List.map_append,← hi.o];rfl,by rw[je0 tP hj,hi.a,hk];rfl⟩
   | false=>exact .ex (.inl ⟨rfl,Ke7 tP hj hk⟩))
  (fun j o hj hi=>by
   have hje:j=c.length:=by have:=hi.le;omega
   subst hje
   have ho:=hi.o
   have ha:=hi.a
   rw[List.take_length] at ho ha
   subst ho
   exact⟨_,hf _,.inr ⟨ha,rfl,_,rfl⟩⟩) 0 [] ⟨Nat.zero_le _,by simp,by simp⟩
end
theorem Ue0 (O:List Pln) (p:Pln):app (bL tP O) [[i p.n.x,i p.n.y,i p.n.z,i p.b]]=bL tP (O++[p]):=Ua1 tP O [p]
theorem dd1 {σ : Type} {e : V3} {s : Int} {p : Pln} (k : Pln → Stp σ) :
  sl (!(if okq e s p=true then (pq e s p,true) else ((⟨⟨0,0,0⟩,0⟩:Pln),false)).2) (.exit 1) (k (if okq e s p=true then (pq e s p,true) else ((⟨⟨0,0,0⟩,0⟩:Pln),false)).1)=if okq e s p=true then k (pq e s p) else .exit 1:=by
 cases okq e s p<;>rfl
theorem dd2 (c:List Pln) {e:V3} (he:B12 e) (hc:c.length≤1000000):∃ t st,lp (ta0 ⟨e.x,e.y,e.z,c,(c.length:Int)⟩) ⟨0,0,0,[]⟩=(t,st)∧PE c e 1 (fun j o=>(⟨phP o,(j:Int),o.length,bL tP o⟩:o2)) t st:=by
 refine Uc1 c e 1 (step:=ta0 ⟨e.x,e.y,e.z,c,(c.length:Int)⟩) (mk:=fun j o=>(⟨phP o,(j:Int),o.length,bL tP o⟩:o2)) hc (fun j o hj ho=>?_) (fun o=>?_)
 ·have hn:=y7 hj (show c.length≤4611686018427387904 by omega)
  have hb:=i5 hj
  have hp:Bd2 (gL tP c j) (ma2 ⟨e.x,e.y,e.z⟩ (gL tP c j))=if okq e 1 (gL tP c j)=true then (pq e 1 (gL tP c j),true) else (⟨⟨0,0,0⟩,0⟩,false):=ie9 he (.inl rfl) fun hp=>by
   rw[Int.one_mul];exact qd9 hp he
  cases o with
  | nil =>
   show O2 Stp.next Stp.exit Stp.fail _ _=_
   simp only[O2,Int.toNat_natCast,cd9,dd0,hp,hn,hb]
   rw[btD (l5 hj)]
   exact dd1 (fun p=>Stp.next (⟨1,((j+1:Nat):Int),1,[[i p.n.x,i p.n.y,i p.n.z,i p.b]]⟩:o2))
  | cons q o =>
   have rr:(Nat.beq (q::o).length (len (bL tP (q::o)))&&Nat.ble (((q::o).length+1)*32) room)=true:=jb7 rfl (by omega)
   show O3 Stp.next Stp.exit Stp.fail _ _=_
   simp only[O3,Int.toNat_natCast,cd9,dd0,hp,hn,hb,rr,Ue0]
   rw[btD (l5 hj)]
   refine (dd1 (fun p=>Stp.next (⟨1,((j+1:Nat):Int),(q::o).length+1,bL tP (q::o++[p])⟩:o2))).trans ?_
   cases okq e 1 (gL tP c j)
   ·rfl
   ·show Stp.next (⟨1,_,(q::o).length+1,_⟩:o2)=Stp.next (⟨1,_,(q::o++[_]).length,_⟩:o2)
    rw[List.length_append]
    rfl
 ·cases o with
  | nil =>
   show O2 Stp.next Stp.exit Stp.fail _ _=_
   simp only[O2]
   rw[bfD (p5 (Nat.lt_irrefl _))]
   rfl
  | cons q o =>
   show O3 Stp.next Stp.exit Stp.fail _ _=_
   simp only[O3]
   rw[bfD (p5 (Nat.lt_irrefl _))]
   rfl
theorem dd3 (c:List Pln) {e:V3} (he:B12 e) (hc:c.length≤1000000):∃ t st,lp (ta1 ⟨e.x,e.y,e.z,c,(c.length:Int)⟩) ⟨0,0,0,[]⟩=(t,st)∧PE c e (-1) (fun j o=>(⟨phP o,(j:Int),o.length,bL tP o⟩:o3)) t st:=by
 refine Uc1 c e (-1) (step:=ta1 ⟨e.x,e.y,e.z,c,(c.length:Int)⟩) (mk:=fun j o=>(⟨phP o,(j:Int),o.length,bL tP o⟩:o3)) hc (fun j o hj ho=>?_) (fun o=>?_)
 ·have hn:=y7 hj (show c.length≤4611686018427387904 by omega)
  have hb:=i5 hj
  have hp:Bd2 (gL tP c j) (Da8 ⟨e.x,e.y,e.z⟩ (gL tP c j))=if okq e (-1) (gL tP c j)=true then (pq e (-1) (gL tP c j),true) else (⟨⟨0,0,0⟩,0⟩,false):=ie9 he (.inr rfl) fun hp=>by
   show W (0 - va8 (gL tP c j).n e)=_
   have:=ie7 hp he
   rw[qd9 hp he,U3 (by omega) (by omega)]
   omega
  cases o with
  | nil =>
   show O4 Stp.next Stp.exit Stp.fail _ _=_
   simp only[O4,Int.toNat_natCast,cd9,dd0,hp,hn,hb]
   rw[btD (l5 hj)]
   exact dd1 (fun p=>Stp.next (⟨1,((j+1:Nat):Int),1,[[i p.n.x,i p.n.y,i p.n.z,i p.b]]⟩:o3))
  | cons q o =>
   have rr:(Nat.beq (q::o).length (len (bL tP (q::o)))&&Nat.ble (((q::o).length+1)*32) room)=true:=jb7 rfl (by omega)
   show O5 Stp.next Stp.exit Stp.fail _ _=_
   simp only[O5,Int.toNat_natCast,cd9,dd0,hp,hn,hb,rr,Ue0]
   rw[btD (l5 hj)]
   refine (dd1 (fun p=>Stp.next (⟨1,((j+1:Nat):Int),(q::o).length+1,bL tP (q::o++[p])⟩:o3))).trans ?_
   cases okq e (-1) (gL tP c j)
   ·rfl
   ·show Stp.next (⟨1,_,(q::o).length+1,_⟩:o3)=Stp.next (⟨1,_,(q::o++[_]).length,_⟩:o3)
    rw[List.length_append]
    rfl
 ·cases o with
  | nil =>
   show O4 Stp.next Stp.exit Stp.fail _ _=_
   simp only[O4]
   rw[bfD (p5 (Nat.lt_irrefl _))]
   rfl
  | cons q o =>
   show O5 Stp.next Stp.exit Stp.fail _ _=_
   simp only[O5]
   rw[bfD (p5 (Nat.lt_irrefl _))]
   rfl
theorem Id1 (l:List Pln):(two (r1L tP) r1B).rd (.tup [.sl 0 0 l.length 0,b true],[⟨73,4,bL tP l,true,false,0⟩])=some (l,true):=by
 have h:(r1L tP).rd [⟨73,4,bL tP l,true,false,0⟩] (.sl 0 0 l.length 0)=some l:=by
  show Bool.rec (motive:=fun _=>Option (List Pln)) none (some (slR tP (bL tP l) 0 l.length)) (Bool.and true (okS tP (bL tP l) 0 l.length))=_
  rw[db6,mb4]
  rfl
 simp only[two,h]
 rfl
theorem je1 (c:List Pln) (e:V3) (hc:c.length≤1000000):∃ x,Ya5 c e=some x∧(two (r1L tP) r1B).rd x=some (zb4 c e 1):=by
 unfold Ya5 fb5 na3 zb4
 simp only[p9,l7,rd1,rd2]
 cases hb:Hb6 e with
 | false=>exact⟨_,rfl,rfl⟩
 | true =>
  obtain⟨t,st,h,hE⟩:=dd2 c ((Tc9 e).1 hb) hc
  rw[h]
  rcases hE with⟨rfl,ha⟩ | ⟨ha,rfl,j,rfl⟩
  ·rw[ha]
   exact⟨_,rfl,rfl⟩
  ·rw[ha]
   cases hm:c.map (pq e 1) with
   | nil=>exact⟨_,rfl,rfl⟩
   | cons q o=>exact⟨_,rfl,Id1 (q::o)⟩
theorem rd3 (c:List Pln) (e:V3) (hc:c.length≤1000000):∃ x,Da9 c e=some x∧(two (r1L tP) r1B).rd x=some (zb4 c e (-1)):=by
 unfold Da9 fb6 na4 zb4
 simp only[p9,l7,rd1,rd2]
 cases hb:Hb6 e with
 | false=>exact⟨_,rfl,rfl⟩
 | true =>
  obtain⟨t,st,h,hE⟩:=dd3 c ((Tc9 e).1 hb) hc
  rw[h]
  rcases hE with⟨rfl,ha⟩ | ⟨ha,rfl,j,rfl⟩
  ·rw[ha]
   exact⟨_,rfl,rfl⟩
  ·rw[ha]
   cases hm:c.map (pq e (-1)) with
   | nil=>exact⟨_,rfl,rfl⟩
   | cons q o=>exact⟨_,rfl,Id1 (q::o)⟩
section
variable (c:List Pln) (e:V3) (hc:c.length≤1000000)
include hc
theorem Bd3:Ha4 c e=zb4 c e 1:=by obtain⟨x,h,k⟩:=je1 c e hc;unfold Ha4;rw[h];exact Ha6 _ k
theorem Bd4:Ha5 c e=true:=by obtain⟨x,h,k⟩:=je1 c e hc;unfold Ha5;rw[h];exact Ya7 _ k
theorem rd4:Ea0 c e=zb4 c e (-1):=by obtain⟨x,h,k⟩:=rd3 c e hc;unfold Ea0;rw[h];exact Ha6 _ k
theorem rd5:Ea1 c e=true:=by obtain⟨x,h,k⟩:=rd3 c e hc;unfold Ea1;rw[h];exact Ya7 _ k
end
end Go.Ev.Ce
namespace Go.Ev.Ce
open Go Go.Ev Go.Ev.L Go.Proofs
noncomputable def mxS (n:V3) (m:Int) (v:V3):Int:=if j7 v n > m then j7 v n else m
noncomputable def mxL (n:V3):List V3→Int
 | []=>0
 | v::l=>l.foldl (mxS n) (j7 v n)
noncomputable def ob4 (l:List V3) (n:V3):Int×Bool:=(mxL n l,decide (0 < l.length))
theorem we5 (n v:V3):∀ l,l≠[]→mxL n (l++[v])=mxS n (mxL n l) v
 | [],h=>absurd rfl h
 | w::l,_=>by
  show (l++[v]).foldl (mxS n) (j7 w n)=_
  rw[List.foldl_append]
  rfl
theorem je2 {n:V3} {l:List V3} {j:Nat} (hj:j < l.length):mxL n (l.take (j+1))=if j=0 then j7 (gL tV l j) n else mxS n (mxL n (l.take j)) (gL tV l j):=by
 rw[Ea3 tV hj]
 split
 ·rename_i h
  subst h
  rfl
 ·rename_i h
  refine we5 _ _ _ fun e=>?_
  have:=congrArg List.length e
  rw[List.length_take,List.length_nil] at this
  omega
theorem Uc2 (l:List V3) (n:V3) (hl:l.length≤1000000):va9 l n=some (.tup [i (ob4 l n).1,b (ob4 l n).2],[]):=by
 obtain⟨t,s,h,rfl,k,rfl⟩:=T1 (step:=ba1 ⟨l,l,(l.length:Int),n.x,n.y,n.z⟩) (mk:=fun j (m:Int)=>(⟨m,(j:Int)⟩:P6)) l.length (fun j m=>j≤l.length∧m=mxL n (l.take j)) (fun t s=>t=1∧∃ k:Int,s=⟨mxL n l,k⟩) (by omega)
  (fun j m hj hi=>by
   obtain⟨_,hi⟩:=hi
   have hn:=y7 hj (show l.length≤4611686018427387904 by omega)
   have hT:=je2 (n:=n) hj
   simp only[ba1,ga5,Int.toNat_natCast,hn]
   rw[btD (l5 hj),bt (i5 hj)]
   by_cases h0:j=0
   ·subst h0
    exact .nx ⟨_,rfl,by omega,by rw[hT];rfl⟩
   ·rw[if_neg h0,← hi] at hT
    rw[bf (by rw[beq_eq_false_iff_ne];omega)]
    unfold mxS at hT
    split at hT
    ·rename_i h;rw[btD h];exact .nx ⟨_,rfl,by omega,hT.symm⟩
    ·rename_i h;rw[bfD h];exact .nx ⟨_,rfl,by omega,hT.symm⟩)
  (fun j m hj hi=>by
   obtain⟨hje,hi⟩:=hi
   have hje:j=l.length:=by omega
   subst hje
   rw[List.take_length] at hi
   subst hi
   refine⟨1,?_,rfl,_,rfl⟩
   simp only[ba1,ga5]
   rw[bfD (p5 (Nat.lt_irrefl _))]) 0 0 ⟨Nat.zero_le _,by simp[mxL]⟩
 have h:lp (ba1 ⟨l,l,(l.length:Int),n.x,n.y,n.z⟩) ⟨0,0⟩=_:=h
 unfold va9 ob4
 simp only[p9,l7,h]
 have e:decide ((l.length:Int) > 0)=decide (0 < l.length):=by rw[decide_eq_decide];omega
 rw[e]
 rfl
theorem Aa2 (l:List V3) (n:V3) (hl:l.length≤1000000):M7 l n=ob4 l n:=by unfold M7;rw[Uc2 l n hl];rfl
theorem Aa3 (l:List V3) (n:V3) (hl:l.length≤1000000):k9 l n=true:=by unfold k9;rw[Uc2 l n hl];rfl
theorem Id2 (l:List V3) (hl:l.length≤1000000000):ra2 l l=some (b true,[]):=by
 have he:∀ v:V3,(v.x==v.x&&(v.y==v.y&&(v.z==v.z&&true)))=true:=fun v=>by simp
 have h:=ac6 (step:=ga6 ⟨l,l⟩) (mk:=fun j=>(⟨(j:Int)⟩:I0)) (c:=fun _=>false) (u:=1) (fin:=2) tV l hl
  (fun j hj=>by
   simp only[ga6,ca5,Int.toNat_natCast,y7 hj (by omega),he]
   rw[btD (l5 hj),bt (i5 hj),bt (i5 hj)]
   rfl)
  (by simp only[ga6,ca5];rw[bfD (p5 (Nat.lt_irrefl _))]) 0 (Nat.zero_le _)
 rw[List.drop_zero,show (l.any fun _=>false)=false by simp] at h
 unfold ra2
 simp only[p9,l7]
 rw[show (⟨0⟩:I0)=⟨((0:Nat):Int)⟩ from rfl,h,bf (by simp)]
 rfl
theorem Vb6 (l:List V3) (hl:l.length≤1000000000):O6 l l=true:=by unfold O6;rw[Id2 l hl];rfl
theorem Vb7 (l:List V3) (hl:l.length≤1000000000):G8 l l=true:=by unfold G8;rw[Id2 l hl];rfl
theorem we6:Ka2=[⟨0,0,0⟩,⟨1,0,0⟩,⟨0,1,0⟩,⟨0,0,1⟩]:=rfl
theorem we7:na5=true:=rfl
theorem Fc7 (l:List V3) (m:Nat):∃ x,ra3 l (m:Int)=some x∧(one (r1L tV)).rd x=some (l.take m):=by
 have hwl:((if (m:Int) < (↑(List.length l):Int) then (m:Int) else (↑(List.length l):Int)).toNat - 0)=(l.take m).length:=by
  rw[List.length_take];split<;>omega
 have hin:inB (if (m:Int) < (↑(List.length l):Int) then (m:Int) else (↑(List.length l):Int)) (l.length+1)=true:=by
  split
  ·exact i5 (by omega)
  ·exact i5 (by omega)
 have hg:∀ k,k < (l.take m).length→(fun k=>(fun k=>tV.row (gL tV l k)) (0+k)) k=tV.row (gL tV (l.take m) k):=fun k hk=>by
  show tV.row (gL tV l (0+k))=_
  have hk8:k < m:=by rw[List.length_take] at hk;omega
  rw[Nat.zero_add,Dc8 tV l hk8]
 unfold ra3
 rw[hin,hwl]
 refine⟨_,rfl,?_⟩
 show Bool.rec (motive:=fun _=>Option (List V3)) none (some (lsL tV (l.take m).length (fun k=>(fun k=>tV.row (gL tV l k)) (0+k)))) (Bool.and true (okL tV (l.take m).length (fun k=>(fun k=>tV.row (gL tV l k)) (0+k))))=_
 rw[Xb3 tV rfl hg,Ta9 tV (f:=fun k=>gL tV (l.take m) k) hg]
 rfl
theorem Bd5 (l:List V3) (m:Nat):ra4 l (m:Int)=l.take m:=by obtain⟨x,h,k⟩:=Fc7 l m;unfold ra4;rw[h];exact Ha6 _ k
theorem Bd6 (l:List V3) (m:Nat):ra5 l (m:Int)=true:=by obtain⟨x,h,k⟩:=Fc7 l m;unfold ra5;rw[h];exact Ya7 _ k
theorem cb7:∀ (l r:List V3),l.Pairwise LtV→r.Pairwise LtV→(∀ v,v∈l↔v∈r)→l=r
 | [],[],_,_,_=>rfl
 | [],y::r,_,_,h=>absurd ((h y).2 (List.mem_cons_self ..)) (by simp)
 | x::l,[],_,_,h=>absurd ((h x).1 (List.mem_cons_self ..)) (by simp)
 | x::l,y::r,h1,h2,h=>by
  obtain⟨a1,a2⟩:=List.pairwise_cons.1 h1
  obtain⟨b1,b2⟩:=List.pairwise_cons.1 h2
  have e:x=y:=by
   rcases List.mem_cons.1 ((h x).1 (List.mem_cons_self ..)) with e | hx
   ·exact e
   ·rcases List.mem_cons.1 ((h y).2 (List.mem_cons_self ..)) with e | hy
    ·exact e.symm
    ·exact absurd (ec1 (b1 x hx) (a1 y hy)) (Ub5 y)
  subst e
  have:l=r:=cb7 l r a2 b2 fun v=>by
   have hv:=h v
   simp only[List.mem_cons] at hv
   constructor
   ·intro hm
    rcases hv.1 (.inr hm) with e | h'
    ·subst e;exact absurd (a1 v hm) (Ub5 v)
    ·exact h'
   ·intro hm
    rcases hv.2 (.inr hm) with e | h'
    ·subst e;exact absurd (b1 v hm) (Ub5 v)
    ·exact h'
  rw[this]
end Go.Ev.Ce
namespace Go.Ev.Ce
open Go Go.Ev Go.Ev.L Go.Proofs
def N46 (n:V3):Prop:=Sm 4608 n.x∧Sm 4608 n.y∧Sm 4608 n.z
section
variable (N:List V3) (hN:∀ n∈N,N46 n) (hl:N.length≤1000000)
include hN hl
end
end Go.Ev.Ce
namespace Go.Ev.Ce
open Go Go.Ev Go.Ev.L Go.Proofs
theorem we8 {l:List V3} (hl:l.all inV=true):∀ p∈ws,∀ v∈l,dot p.n v≤p.b:=fun p hp v hv=>by
 have:=Ie8 (List.all_eq_true.1 hl v hv) p hp
 simp only[rmZ,ipt,dot] at this ⊢
 omega
section
variable {l:List V3} (hl:l.all inV=true) (h4:Sol l)
include hl
theorem ob5 (v:V3):v∈ga4 (F0 l) l↔v∈l∧Spn (F0 l) v:=by
 unfold ga4
 rw[List.mem_filter,Cb4]
 exact⟨fun h=>⟨h.1,(fe5 hl h.1).1 h.2⟩,fun h=>⟨h.1,(fe5 hl h.1).2 h.2⟩⟩
include h4
theorem ob6 {n:V3} {b:Int} (hv:∀ v∈ga4 (F0 l) l,dot n v≤b):∀ x∈l,dot n x≤b:=by
 have hfacs:=Hd2 hl fun p hp=>(xa7 hl p).2 hp
 have hall:∀ p∈F0 l++ws,∀ v∈l,dot p.n v≤p.b:=fun p hp=>by
  rcases List.mem_append.1 hp with hp | hp
  ·exact ((xa7 hl p).1 hp).hd
  ·exact we8 hl p hp
 intro x hx
 have hz:∀ (a:Pln) (v:V3),rmZ a ⟨v.x,v.y,v.z,1⟩=a.b - dot a.n v:=fun a v=>by simp only[rmZ,dot];omega
 have hI:Inr (F0 l++ws) ⟨x.x,x.y,x.z,1⟩:=⟨by show (0:Int) < 1;omega,fun p hp=>by rw[hz];have:=hall p hp x hx;omega⟩
 have key:=ma3 (de0 (F0 l)) (h:=⟨n,b⟩) (fun y hy=>by
  obtain⟨v,hvl,he,hs⟩:=ue1 h4 hfacs hall hy
  have h1:=hv v ((ob5 hl v).2 ⟨hvl,hs⟩)
  have h2:=he.rm ⟨n,b⟩
  rw[hz] at h2
  have hw:=hy.w
  have h3:0≤(b - dot n v)*y.pw:=Int.mul_nonneg (by omega) (by omega)
  have h4:rmZ ⟨n,b⟩ y*1=(b - dot n v)*y.pw:=h2
  omega) hI
 rw[hz] at key
 have key:0≤b - dot n x:=key
 omega
theorem Ea9 {v:V3} (hv:v∈ga4 (F0 l) l):v∈l:=((ob5 hl v).1 hv).1
theorem je3:∃ v,v∈ga4 (F0 l) l:=by
 apply Classical.byContradiction
 intro hno
 obtain⟨x,hx⟩:=h4.ne
 have:=ob6 hl h4 (n:=⟨0,0,0⟩) (b:=-1) (fun v hv=>absurd ⟨v,hv⟩ hno) x hx
 simp[dot] at this
theorem we9:Sol (ga4 (F0 l) l):=by
 obtain⟨a,ha⟩:=je3 hl h4
 rcases ad9 ((ga4 (F0 l) l).map fun v=>A3 v a) with⟨x,y,z,hx,hy,hz,hw⟩ | ⟨d,hd,h⟩
 ·obtain⟨u,hu,rfl⟩:=List.mem_map.1 hx
  obtain⟨v,hv,rfl⟩:=List.mem_map.1 hy
  obtain⟨w,hw',rfl⟩:=List.mem_map.1 hz
  exact⟨a,v,w,u,ha,hv,hw',hu,fun e=>hw (by rw[← e];simp only[dot,d8,N3];grind)⟩
 ·exfalso
  have e:∀ v∈ga4 (F0 l) l,dot d v=dot d a:=fun v hv=>by
   have:=h _ (List.mem_map.2 ⟨v,hv,rfl⟩)
   simp only[dot,A3] at this ⊢
   grind
  obtain⟨v,hv,hne⟩:=h4.off hd (dot d a)
  have h1:=ob6 hl h4 (n:=d) (b:=dot d a) (fun w hw=>by rw[e w hw];exact Int.le_refl _) v hv
  have h2:=ob6 hl h4 (n:=neg d) (b:=-dot d a) (fun w hw=>by
   have:=e w hw
   have h3:dot (neg d) w=-dot d w:=by simp only[dot,neg];grind
   omega) v hv
  have h3:dot (neg d) v=-dot d v:=by simp only[dot,neg];grind
  omega
theorem Id3:(ga4 (F0 l) l).all inV=true:=List.all_eq_true.2 fun v hv=>List.all_eq_true.1 hl v (Ea9 hl h4 hv)
theorem xe0 {p:Pln} (hp:oc4 l p):oc4 (ga4 (F0 l) l) p:=by
 refine⟨⟨fun v hv=>hp.hd v (Ea9 hl h4 hv),?_⟩,hp.ok⟩
 obtain⟨u,w,x,hu,hw,hx,h3,t1,t2,t3⟩:=hp.on
 -- a zd7 on the plane
 obtain⟨a,ha,ta⟩:∃ a∈ga4 (F0 l) l,dot p.n a=p.b:=by
  apply Classical.byContradiction
  intro hno
  have:=ob6 hl h4 (n:=p.n) (b:=p.b - 1) (fun v hv=>by
   have h1:=hp.hd v (Ea9 hl h4 hv)
   have h2:dot p.n v≠p.b:=fun e=>hno ⟨v,hv,e⟩
   omega) u hu
  omega
 rcases ad9 (p.n::(((ga4 (F0 l) l).filter fun v=>dot p.n v==p.b).map fun v=>A3 v a)) with⟨n1,n2,n3,k1,k2,k3,hne⟩ | ⟨d,hd,hz⟩
 ·have on : ∀ {n}, n ∈ p.n :: (((ga4 (F0 l) l).filter fun v => dot p.n v == p.b).map fun v => A3 v a) → n = p.n ∨ ∃ v ∈ ga4 (F0 l) l, dot p.n v = p.b ∧ n = A3 v a := fun {n} hn => by
   rcases List.mem_cons.1 hn with e | hn
   ·exact .inl e
   ·obtain⟨v,hv,rfl⟩:=List.mem_map.1 hn
    obtain⟨h1,h2⟩:=List.mem_filter.1 hv
    exact .inr ⟨v,h1,beq_iff_eq.1 h2,rfl⟩
  have fin:∀ {v1 v2:V3},v1∈ga4 (F0 l) l→v2∈ga4 (F0 l) l→dot p.n v1=p.b→dot p.n v2=p.b→dot p.n (d8 (A3 v1 a) (A3 v2 a))≠0→∃ u w x,u∈ga4 (F0 l) l∧w∈ga4 (F0 l) l∧x∈ga4 (F0 l) l∧N3 u w x≠⟨0,0,0⟩∧dot p.n u=p.b∧dot p.n w=p.b∧dot p.n x=p.b:=fun {v1 v2} hv1 hv2 e1 e2 h=>⟨a,v1,v2,ha,hv1,hv2,Sc6 h,ta,e1,e2⟩
  rcases on k1 with rfl | ⟨v1,m1,e1,rfl⟩<;>rcases on k2 with rfl | ⟨v2,m2,e2,rfl⟩<;>rcases on k3 with rfl | ⟨v3,m3,e3,rfl⟩
  ·exact absurd (by simp only[dot,d8];grind) hne
  ·exact absurd (by simp only[dot,d8];grind) hne
  ·exact absurd (by simp only[dot,d8];grind) hne
  ·exact fin m2 m3 e2 e3 hne
  ·exact absurd (by simp only[dot,d8];grind) hne
  ·exact fin m3 m1 e3 e1 fun e=>hne (by rw[← e];simp only[dot,d8];grind)
  ·exact fin m1 m2 e1 e2 fun e=>hne (by rw[← e];simp only[dot,d8];grind)
  ·exfalso
   have q:∀ v:V3,dot p.n v=p.b→dot p.n (A3 v a)=0:=fun v e=>by
    have:dot p.n (A3 v a)=dot p.n v - dot p.n a:=by simp only[dot,A3];grind
    omega
   have r1:=q v1 e1;have r2:=q v2 e2;have r3:=q v3 e3
   have hw:mw ⟨A3 v1 a,0⟩ ⟨A3 v2 a,0⟩ ⟨A3 v3 a,0⟩≠0:=hne
   refine Sc5 hp.ok (Ub3 hw ?_ ?_ ?_)
   ·rw[← r1];simp only[dot];grind
   ·rw[← r2];simp only[dot];grind
   ·rw[← r3];simp only[dot];grind
 ·exfalso
  have hdn:dot p.n d=0:=hz _ List.mem_cons_self
  have hdv:∀ v∈ga4 (F0 l) l,dot p.n v=p.b→dot d v=dot d a:=fun v hv e=>by
   have:=hz _ (List.mem_cons_of_mem _ (List.mem_map.2 ⟨v,List.mem_filter.2 ⟨hv,beq_iff_eq.2 e⟩,rfl⟩))
   simp only[dot,A3] at this ⊢
   grind
  -- one of the Ne1 points is off the line
  have hoff:¬ (dot d u=dot d a∧dot d w=dot d a∧dot d x=dot d a):=fun⟨g1,g2,g3⟩=>by
   have ht:=(pa1 (Za0 (List.all_eq_true.1 hl u hu) (List.all_eq_true.1 hl w hw) (List.all_eq_true.1 hl x hx) h3)).2
   have hm:mw p ⟨A3 w u,0⟩ ⟨A3 x u,0⟩≠0:=by
    have hN:mw p ⟨A3 w u,0⟩ ⟨A3 x u,0⟩=dot p.n (N3 u w x):=rfl
    rw[hN]
    intro e
    obtain⟨_,⟨g,hg,f1,f2,f3⟩,_⟩:=ht
    have f1:g*(C8 u w x).1.n.x=(N3 u w x).x:=f1
    have f2:g*(C8 u w x).1.n.y=(N3 u w x).y:=f2
    have f3:g*(C8 u w x).1.n.z=(N3 u w x).z:=f3
    have e2:g*dot p.n (C8 u w x).1.n=0:=by rw[← e];simp only[dot];rw[← f1,← f2,← f3];grind
    have e3:=(Int.mul_eq_zero.1 e2).resolve_left (by omega)
    have hpn:=Sc5 hp.ok
    have hpos:=Hd1 hpn
    rcases Dc4 ((pa1 (Za0 (List.all_eq_true.1 hl u hu) (List.all_eq_true.1 hl w hw) (List.all_eq_true.1 hl x hx) h3)).2) hp.ok t1 t2 t3 with hq | hq
    ·rw[← hq] at e3;omega
    ·have : dot p.n (C8 u w x).1.n = -dot p.n p.n := by
      have h5:p.n=⟨-(C8 u w x).1.n.x,-(C8 u w x).1.n.y,-(C8 u w x).1.n.z⟩:=congrArg Pln.n hq
      have h6:(C8 u w x).1.n=⟨-p.n.x,-p.n.y,-p.n.z⟩:=by
       rw[h5]
       simp
      rw[h6]
      simp only[dot]
      grind
     omega
   refine hd (Ub3 hm hdn ?_ ?_)
   ·show dot (A3 w u) d=0
    have:dot (A3 w u) d=dot d w - dot d u:=by simp only[dot,A3];grind
    omega
   ·show dot (A3 x u) d=0
    have:dot (A3 x u) d=dot d x - dot d u:=by simp only[dot,A3];grind
    omega
  -- so a plane that is turned a little would Te4 it out
  have main:∀ (e:V3) (t:V3),t∈l→dot p.n t=p.b→(∀ v∈ga4 (F0 l) l,dot p.n v=p.b→dot e v=dot e a)→dot e t≤dot e a:=fun e t ht hte hev=>by
   obtain⟨N,hN,hbig⟩:=big e ((ga4 (F0 l) l).map fun v=>⟨A3 v a,0⟩)
   have:=ob6 hl h4 (n:=⟨e.x+N*p.n.x,e.y+N*p.n.y,e.z+N*p.n.z⟩) (b:=dot e a+N*p.b) (fun v hv=>by
    have h1:dot ⟨e.x+N*p.n.x,e.y+N*p.n.y,e.z+N*p.n.z⟩ v=dot e v+N*dot p.n v:=by simp only[dot];grind
    rw[h1]
    by_cases hvp:dot p.n v=p.b
    ·rw[hvp,hev v hv hvp];exact Int.le_refl _
    ·have h2:=hp.hd v (Ea9 hl h4 hv)
     have h3:=(hbig _ (List.mem_map.2 ⟨v,hv,rfl⟩)).1
     have h4:dot (A3 v a) e=dot e v - dot e a:=by simp only[dot,A3];grind
     have h3:dot (A3 v a) e≤N:=h3
     have h5:N*dot p.n v≤N*(p.b - 1):=Int.mul_le_mul_of_nonneg_left (by omega) (by omega)
     rw[Int.mul_sub,Int.mul_one] at h5
     omega) t ht
   have h1:dot ⟨e.x+N*p.n.x,e.y+N*p.n.y,e.z+N*p.n.z⟩ t=dot e t+N*dot p.n t:=by simp only[dot];grind
   rw[h1,hte] at this
   omega
  have both:∀ t,t∈l→dot p.n t=p.b→dot d t=dot d a:=fun t ht hte=>by
   have g1:=main d t ht hte hdv
   have g2:=main (neg d) t ht hte (fun v hv e=>by
    have:=hdv v hv e
    have q1:∀ z:V3,dot (neg d) z=-dot d z:=fun z=>by simp only[dot,neg];grind
    rw[q1,q1];omega)
   have q1:∀ z:V3,dot (neg d) z=-dot d z:=fun z=>by simp only[dot,neg];grind
   rw[q1,q1] at g2
   omega
  exact hoff ⟨both u hu t1,both w hw t2,both x hx t3⟩
theorem Ke8:F0 (ga4 (F0 l) l)=F0 l:=by
 refine Cb1 (Dc2 _) (Dc2 _) fun p=>?_
 rw[xa7 (Id3 hl h4),xa7 hl]
 refine⟨fun h=>⟨⟨ob6 hl h4 h.hd,?_⟩,h.ok⟩,fun h=>xe0 hl h4 h⟩
 obtain⟨u,w,x,hu,hw,hx,hr⟩:=h.on
 exact⟨u,w,x,Ea9 hl h4 hu,Ea9 hl h4 hw,Ea9 hl h4 hx,hr⟩
theorem xe1 (h48:l.length≤48):Ha7 (ga4 (F0 l) l)=0:=by
 refine jb8 ?_ (Id3 hl h4) (we9 hl h4)
 have h1:=sc3 l
 have h2:(ga4 (F0 l) l).length≤(dis l).length:=List.length_filter_le _ _
 omega
end
end Go.Ev.Ce
namespace Go.Ev.Ce
open Go Go.Ev Go.Ev.L Go.Proofs
theorem xe2 (p:Pln) (v:V3):Sa0 ⟨p.n.x,p.n.y,p.n.z,p.b,v.x,v.y,v.z⟩=⟨1,decide (U4 p v > 0)⟩:=by
 unfold Sa0 ta2
 simp only[Ub7,Ub8]
 rfl
theorem xe3 (l : List Pln) (v : V3) (hl : l.length ≤ 1000000000) :
  Q5 ⟨l,v.x,v.y,v.z⟩=⟨1,if l.any (fun p=>decide (U4 p v > 0)) then ((l.findIdx (fun p=>decide (U4 p v > 0)):Nat):Int) else -1⟩:=by
 have h:=Ra2 (step:=D4 ⟨l,(l.length:Int),v.x,v.y,v.z⟩) (mk:=fun j=>(⟨(j:Int)⟩:m9)) (c:=fun p=>decide (U4 p v > 0)) (u:=1) (fin:=2) tP l hl
  (fun j hj=>by
   simp only[D4,C4,Int.toNat_natCast,xe2,y7 hj (show l.length≤4611686018427387904 by omega)]
   rw[btD (l5 hj),bt (i5 hj)]
   rfl)
  (by simp only[D4,C4];rw[bfD (p5 (Nat.lt_irrefl _))]) 0 (Nat.zero_le _)
 rw[List.drop_zero] at h
 unfold Q5 C6
 simp only[p9,l7]
 rw[show (⟨0⟩:m9)=⟨((0:Nat):Int)⟩ from rfl,h]
 split
 ·simp only[Nat.zero_add];rfl
 ·rfl
theorem xe4 (l:List Pln) (v:V3) (hl:l.length≤1000000000):L5 ⟨l,v.x,v.y,v.z⟩=⟨1,l.any fun p=>decide (U4 p v > 0)⟩:=by
 unfold L5 w8
 simp only[p9,l7,xe3 l v hl]
 split
 ·rename_i h
  rw[h,show decide (((l.findIdx (fun p=>decide (U4 p v > 0)):Nat):Int)≥0)=true from decide_eq_true (by omega)];rfl
 ·rename_i h
  rw[Bool.not_eq_true] at h
  rw[h];rfl
theorem je4 {l:List V3} (hc:Ha7 l=0) {v:V3} (hv:inV v=true) (hf:∀ p∈F0 l,dot p.n v≤p.b):Za3 l v=some (b true,[]):=by
 obtain⟨h48,hl,h4⟩:=ec4 hc
 have hne:1≤l.length:=by
  obtain⟨a,ha⟩:=h4.ne
  exact List.length_pos_of_mem ha
 have hg:fb9 l=true:=decide_eq_true ⟨hne,by omega⟩
 have hp:Ka1 l=(F0 l,0):=by unfold Ka1 Za1;rw[if_pos hc]
 have hF:=qd1 h48 hl
 have hany:(F0 l).any (fun p=>decide (U4 p v > 0))=false:=by
  rw[List.any_eq_false]
  intro p hp' hs
  have:=(Cc8 ((xa7 hl p).1 hp').ok hv).1 (of_decide_eq_true hs)
  have:=hf p hp'
  omega
 unfold Za3
 simp only[p9,Ua0,l7,hg,hp,(yb4 v).1,(yb4 v).2,hv,xe4 (F0 l) v (by omega),hany]
 rfl
theorem je5 {l:List V3} (hc:Ha7 l=0) {v:V3} (hv:inV v=true) (hf:∀ p∈F0 l,dot p.n v≤p.b):ra0 l v=true:=by unfold ra0;rw[je4 hc hv hf];rfl
theorem je6 {l:List V3} (hc:Ha7 l=0) {v:V3} (hv:inV v=true) (hf:∀ p∈F0 l,dot p.n v≤p.b):ra1 l v=true:=by unfold ra1;rw[je4 hc hv hf];rfl
end Go.Ev.Ce
namespace Go.Ev.Ce
open Go Go.Ev Go.Ev.L Go.Proofs
def oa4 (a c:V3):V3:=⟨a.x+c.x,a.y+c.y,a.z+c.z⟩
theorem dd4 {a c:V3} (ha:Sm 1000 a.x∧Sm 1000 a.y∧Sm 1000 a.z) (hc:Sm 1000 c.x∧Sm 1000 c.y∧Sm 1000 c.z):f7 a c=oa4 a c:=by
 obtain⟨⟨a1,a2⟩,⟨a3,a4⟩,a5,a6⟩:=ha
 obtain⟨⟨c1,c2⟩,⟨c3,c4⟩,c5,c6⟩:=hc
 unfold f7 oa4
 rw[U3 (by omega) (by omega),U3 (by omega) (by omega),U3 (by omega) (by omega)]
theorem cb8 (n a c:V3):dot n (oa4 a c)=dot n a+dot n c:=by simp only[dot,oa4];grind
structure Sx (A B:List V3):Prop where
 a:Sol A
 b:∃ y,y∈B
 sa:∀ x∈A,Sm 1000 x.x∧Sm 1000 x.y∧Sm 1000 x.z
 sb:∀ y∈B,Sm 1000 y.x∧Sm 1000 y.y∧Sm 1000 y.z
 i:∀ x∈A,∀ y∈B,inV (oa4 x y)=true
 la:A.length≤48
 lb:B.length≤48
 l:(da8 A B).length≤48
section
variable {A B:List V3} (h:Sx A B)
include h
theorem Sx.mem (w:V3):w∈da8 A B↔∃ x∈A,∃ y∈B,w=oa4 x y:=by
 rw[Fc5]
 constructor
 ·rintro⟨x,hx,y,hy,rfl⟩;exact⟨x,hx,y,hy,dd4 (h.sa x hx) (h.sb y hy)⟩
 ·rintro⟨x,hx,y,hy,rfl⟩;exact⟨x,hx,y,hy,(dd4 (h.sa x hx) (h.sb y hy)).symm⟩
theorem Sx.inV:(da8 A B).all Ce.inV=true:=List.all_eq_true.2 fun w hw=>by
 obtain⟨x,hx,y,hy,rfl⟩:=(h.mem w).1 hw
 exact h.i x hx y hy
theorem Sx.sol:Sol (da8 A B):=by
 obtain⟨a,c,k,v,ha,hc,hk,hv,hne⟩:=h.a
 obtain⟨y,hy⟩:=h.b
 exact⟨oa4 a y,oa4 c y,oa4 k y,oa4 v y,(h.mem _).2 ⟨a,ha,y,hy,rfl⟩,(h.mem _).2 ⟨c,hc,y,hy,rfl⟩,(h.mem _).2 ⟨k,hk,y,hy,rfl⟩,(h.mem _).2 ⟨v,hv,y,hy,rfl⟩,fun e=>hne (by
  rw[← e];simp only[dot,N3,d8,A3,oa4];grind)⟩
theorem Sx.chk:Ha7 (da8 A B)=0:=jb8 h.l h.inV h.sol
theorem Sx.sum:Lb7 A B=(ga4 (F0 (da8 A B)) (da8 A B),0):=by
 unfold Lb7 Db8
 have:=h.la;have:=h.lb
 rw[if_neg (by omega),if_pos h.chk]
theorem Sx.has {w : V3} (hw : Ce.inV w = true) (hf : ∀ (n : V3) (b : Int), (∀ x ∈ A, ∀ y ∈ B, dot n x + dot n y ≤ b) → dot n w ≤ b) :
  ra0 (ga4 (F0 (da8 A B)) (da8 A B)) w=true∧ra1 (ga4 (F0 (da8 A B)) (da8 A B)) w=true:=by
 have hc:=xe1 h.inV h.sol h.l
 have hk:∀ p∈F0 (ga4 (F0 (da8 A B)) (da8 A B)),dot p.n w≤p.b:=fun p hp=>by
  rw[Ke8 h.inV h.sol] at hp
  have hd:=((xa7 h.inV p).1 hp).hd
  refine hf p.n p.b fun x hx y hy=>?_
  have:=hd _ ((h.mem _).2 ⟨x,hx,y,hy,rfl⟩)
  rwa [cb8] at this
 exact⟨je5 hc hw hk,je6 hc hw hk⟩
end
theorem Bd7 (l:List V3) (v:V3) (hl:l.length≤1000000):∃ t s,lp (Ea6 ⟨l,v.x,v.y,v.z⟩) ⟨0,0,0,[]⟩=(t,s)∧(t=phV (l.map fun x=>f7 x v)+1∧∃ j:Int,s=⟨phV (l.map fun x=>f7 x v),j,(l.map fun x=>f7 x v).length,bL tV (l.map fun x=>f7 x v)⟩):=by
 refine T1 (step:=Ea6 ⟨l,v.x,v.y,v.z⟩) (mk:=fun j (o:List V3)=>(⟨phV o,(j:Int),o.length,bL tV o⟩:y8)) l.length (fun j o=>j≤l.length∧o=(l.take j).map fun x=>f7 x v) (fun t s=>t=phV (l.map fun x=>f7 x v)+1∧∃ j:Int,s=⟨phV (l.map fun x=>f7 x v),j,(l.map fun x=>f7 x v).length,bL tV (l.map fun x=>f7 x v)⟩) (by omega)
  (fun j o hj hi=>?_) (fun j o hj hi=>?_) 0 [] ⟨Nat.zero_le _,by simp⟩
 ·obtain⟨_,hi⟩:=hi
  have hlen:o.length≤1000000:=by
   rw[hi,List.length_map]
   have:=List.length_take_le j l
   omega
  have hn:=y7 hj (show l.length≤4611686018427387904 by omega)
  have hb:=i5 hj
  have hT:(l.take (j+1)).map (fun x=>f7 x v)=o++[f7 (gL tV l j) v]:=by
   rw[Ea3 tV hj,List.map_append,← hi];rfl
  have hA:Bb5 (gL tV l j) ⟨v.x,v.y,v.z⟩=f7 (gL tV l j) v:=rfl
  have hnext : ∀ {s : y8}, s = ⟨1, ((j + 1 : Nat) : Int), o.length + 1, bL tV (o ++ [f7 (gL tV l j) v])⟩ → Nx (.next s) (fun t => t = phV (l.map fun x => f7 x v) + 1 ∧ ∃ j' : Int, (⟨phV o, (j : Int), o.length, bL tV o⟩ : y8) = ⟨phV (l.map fun x => f7 x v), j', (l.map fun x => f7 x v).length, bL tV (l.map fun x => f7 x v)⟩)
    (fun s=>∃ o',s=(⟨phV o',((j+1:Nat):Int),o'.length,bL tV o'⟩:y8)∧(j+1≤l.length∧o'=(l.take (j+1)).map fun x=>f7 x v)):=fun {s} hs=>.nx ⟨o++[f7 (gL tV l j) v],by rw[hs,rc9,List.length_append];rfl,by omega,hT.symm⟩
  clear hi
  cases o with
  | nil =>
   show Nx (X6 Stp.next Stp.exit Stp.fail _ _) _ _
   simp only[X6,Int.toNat_natCast,hA,hn,hb]
   rw[btD (l5 hj)]
   exact hnext rfl
  | cons q o =>
   have rr:(Nat.beq (q::o).length (len (bL tV (q::o)))&&Nat.ble (((q::o).length+1)*24) room)=true:=nd8 rfl (by omega)
   show Nx (X7 Stp.next Stp.exit Stp.fail _ _) _ _
   simp only[X7,Int.toNat_natCast,hA,hn,hb,rr,Ke5]
   rw[btD (l5 hj)]
   exact hnext rfl
 ·obtain⟨h1,hi⟩:=hi
  have e:j=l.length:=by omega
  subst e
  have hO:o=l.map fun x=>f7 x v:=by rw[hi,List.take_length]
  rw[← hO]
  cases o with
  | nil =>
   refine⟨1,?_,rfl,_,rfl⟩
   show X6 Stp.next Stp.exit Stp.fail _ _=_
   simp only[X6]
   rw[bfD (p5 (Nat.lt_irrefl _))]
  | cons q o =>
   refine⟨2,?_,rfl,_,rfl⟩
   show X7 Stp.next Stp.exit Stp.fail _ _=_
   simp only[X7]
   rw[bfD (p5 (Nat.lt_irrefl _))]
theorem Id4 (l:List V3) (v:V3) (hl:l.length≤1000000):∃ x,La6 l v=some x∧(one (r1L tV)).rd x=some (l.map fun x=>f7 x v):=by
 obtain⟨t,s,h,rfl,j,rfl⟩:=Bd7 l v hl
 unfold La6
 simp only[p9,l7,h]
 cases l.map fun x=>f7 x v with
 | nil=>exact⟨_,rfl,rfl⟩
 | cons q o=>exact⟨_,rfl,He8 tV 27 (q::o)⟩
theorem Id5 (l:List V3) (v:V3) (hl:l.length≤1000000):La7 l v=l.map fun x=>f7 x v:=by obtain⟨x,h,k⟩:=Id4 l v hl;unfold La7;rw[h];exact Ha6 _ k
theorem Id6 (l:List V3) (v:V3) (hl:l.length≤1000000):ga7 l v=true:=by obtain⟨x,h,k⟩:=Id4 l v hl;unfold ga7;rw[h];exact Ya7 _ k
end Go.Ev.Ce
namespace Go.Ev.Ce
open Go Go.Ev Go.Ev.L Go.Proofs
theorem xe5 {l r:List V3} (hl:l.all inV=true) (h:∀ v,v∈l↔v∈r):F0 l=F0 r:=by
 have hr:r.all inV=true:=List.all_eq_true.2 fun v hv=>List.all_eq_true.1 hl v ((h v).2 hv)
 refine Cb1 (Dc2 _) (Dc2 _) fun p=>?_
 rw[xa7 hl,xa7 hr]
 exact⟨Cb6 fun v=>(h v).symm,Cb6 h⟩
theorem je7 {l r:List V3} (hl:l.all inV=true) (h:∀ v,v∈l↔v∈r):ga4 (F0 l) l=ga4 (F0 r) r:=by
 have hr:r.all inV=true:=List.all_eq_true.2 fun v hv=>List.all_eq_true.1 hl v ((h v).2 hv)
 refine cb7 _ _ ((ec2 l).filter _) ((ec2 r).filter _) fun v=>?_
 rw[ob5 hl,ob5 hr,h,xe5 hl h]
theorem Ke9 (n:V3) (m:Int) (v:V3):m≤mxS n m v∧j7 v n≤mxS n m v∧(mxS n m v=m∨mxS n m v=j7 v n):=by
 unfold mxS
 split<;>omega
theorem Id7 (n:V3):∀ (l:List V3) (m:Int),m≤l.foldl (mxS n) m∧(∀ v∈l,j7 v n≤l.foldl (mxS n) m)∧(l.foldl (mxS n) m=m∨∃ v∈l,l.foldl (mxS n) m=j7 v n)
 | [],m=>⟨Int.le_refl _,fun v hv=>(by cases hv),.inl rfl⟩
 | w::l,m=>by
  obtain⟨h1,h2,h3⟩:=Id7 n l (mxS n m w)
  obtain⟨k1,k2,k3⟩:=Ke9 n m w
  rw[List.foldl_cons]
  refine⟨by omega,fun v hv=>?_,?_⟩
  ·rcases List.mem_cons.1 hv with rfl | hv
   ·omega
   ·exact h2 v hv
  ·rcases h3 with h3 | ⟨v,hv,h3⟩
   ·rcases k3 with k3 | k3
    ·exact .inl (by rw[h3,k3])
    ·exact .inr ⟨w,List.mem_cons_self,by rw[h3,k3]⟩
   ·exact .inr ⟨v,List.mem_cons_of_mem _ hv,h3⟩
theorem dd5 (n:V3) {l:List V3} (hl:l≠[]):(∀ v∈l,j7 v n≤mxL n l)∧∃ v∈l,mxL n l=j7 v n:=by
 cases l with
 | nil=>exact absurd rfl hl
 | cons w l =>
  obtain⟨h1,h2,h3⟩:=Id7 n l (j7 w n)
  refine⟨fun v hv=>?_,?_⟩
  ·rcases List.mem_cons.1 hv with rfl | hv
   ·exact h1
   ·exact h2 v hv
  ·rcases h3 with h3 | ⟨v,hv,h3⟩
   ·exact⟨w,List.mem_cons_self,h3⟩
   ·exact⟨v,List.mem_cons_of_mem _ hv,h3⟩
theorem dd6 {v n:V3} (hv:Sm 1000 v.x∧Sm 1000 v.y∧Sm 1000 v.z) (hn:Sm 1000 n.x∧Sm 1000 n.y∧Sm 1000 n.z):j7 v n=dot n v∧Sm 3000000 (dot n v):=by
 obtain⟨⟨a1,a2⟩,⟨a3,a4⟩,a5,a6⟩:=hv
 obtain⟨⟨c1,c2⟩,⟨c3,c4⟩,c5,c6⟩:=hn
 have r1:=mb a1 a2 c1 c2;have r2:=mb a3 a4 c3 c4;have r3:=mb a5 a6 c5 c6
 have e1:=Int.mul_comm n.x v.x;have e2:=Int.mul_comm n.y v.y;have e3:=Int.mul_comm n.z v.z
 unfold j7 dot
 simp only[Kb7,ac4]
 rw[U3 (by omega) (by omega)]
 exact⟨by omega,by omega,by omega⟩
theorem Id8 {l:List V3} (hl:l.all inV=true) (h4:Sol l):ga4 (F0 l) l≠[]:=fun e=>by
 obtain⟨v,hv⟩:=je3 hl h4
 rw[e] at hv;cases hv
theorem Sx.mx {A B : List V3} (h : Sx A B) {n : V3} (hn : Sm 1000 n.x ∧ Sm 1000 n.y ∧ Sm 1000 n.z) :
  mxL n (ga4 (F0 (da8 A B)) (da8 A B))=W (mxL n A+mxL n B):=by
 have hA:A≠[]:=fun e=>by obtain⟨v,hv⟩:=h.a.ne;rw[e] at hv;cases hv
 have hB:B≠[]:=fun e=>by obtain⟨v,hv⟩:=h.b;rw[e] at hv;cases hv
 obtain⟨a1,a,ha,ea⟩:=dd5 n hA
 obtain⟨b1,b,hb,eb⟩:=dd5 n hB
 obtain⟨v1,v,hv,ev⟩:=dd5 n (Id8 h.inV h.sol)
 have sv:∀ {w},w∈da8 A B→j7 w n=dot n w:=fun {w} hw=>by
  obtain⟨c1,c2,c3⟩:=(Ea2 w).1 (List.all_eq_true.1 h.inV w hw)
  exact (dd6 ⟨c1.mono (by omega),c2.mono (by omega),c3.mono (by omega)⟩ hn).1
 have sA:∀ {x},x∈A→j7 x n=dot n x∧Sm 3000000 (dot n x):=fun {x} hx=>dd6 (h.sa x hx) hn
 have sB:∀ {x},x∈B→j7 x n=dot n x∧Sm 3000000 (dot n x):=fun {x} hx=>dd6 (h.sb x hx) hn
 have k1:=(sA ha).2;have k2:=(sB hb).2
 rw[U3 (by rw[ea,eb,(sA ha).1,(sB hb).1];have:=k1.1;have:=k2.1;omega) (by rw[ea,eb,(sA ha).1,(sB hb).1];have:=k1.2;have:=k2.2;omega)]
 -- not less
 have up:=ob6 h.inV h.sol (n:=n) (b:=mxL n (ga4 (F0 (da8 A B)) (da8 A B))) (fun w hw=>by
  have:=v1 w hw
  rw[sv (Ea9 h.inV h.sol hw)] at this
  exact this) (oa4 a b) ((h.mem _).2 ⟨a,ha,b,hb,rfl⟩)
 rw[cb8] at up
 -- not more
 obtain⟨x,hx,y,hy,exy⟩:=(h.mem v).1 (Ea9 h.inV h.sol hv)
 have lo1:=a1 x hx;have lo2:=b1 y hy
 rw[(sA hx).1] at lo1
 rw[(sB hy).1] at lo2
 have e1:mxL n (ga4 (F0 (da8 A B)) (da8 A B))=dot n x+dot n y:=by
  rw[ev,sv (Ea9 h.inV h.sol hv),exy,cb8]
 rw[(sA ha).1] at ea
 rw[(sB hb).1] at eb
 omega
theorem Ue1 (u w x c:V3):N3 (oa4 u c) (oa4 w c) (oa4 x c)=N3 u w x:=by
 simp only[N3,d8,A3,oa4,V3.mk.injEq]
 refine⟨by grind,by grind,by grind⟩
theorem Le0 {A S:List V3} {c:V3} (hS:S.all inV=true) (hm:∀ w,w∈S↔∃ v∈A,w=oa4 v c) {p:Pln} (hp:oc4 A p):oc4 S ⟨p.n,p.b+dot p.n c⟩:=by
 obtain⟨u,w,x,hu,hw,hx,h3,t1,t2,t3⟩:=hp.on
 have mu:=(hm _).2 ⟨u,hu,rfl⟩;have mw':=(hm _).2 ⟨w,hw,rfl⟩;have mx:=(hm _).2 ⟨x,hx,rfl⟩
 have hq:∀ v,dot p.n (oa4 v c)=dot p.n v+dot p.n c:=fun v=>cb8 _ _ _
 refine⟨⟨fun v hv=>?_,_,_,_,mu,mw',mx,by rw[Ue1];exact h3,?_,?_,?_⟩,?_⟩
 ·obtain⟨z,hz,rfl⟩:=(hm v).1 hv
  have:=hp.hd z hz
  show dot p.n (oa4 z c)≤p.b+dot p.n c
  rw[hq];omega
 ·show dot p.n _=p.b+dot p.n c
  rw[hq,t1]
 ·show dot p.n _=p.b+dot p.n c
  rw[hq,t2]
 ·show dot p.n _=p.b+dot p.n c
  rw[hq,t3]
 ·have hb:=zd8 (fb7 hp.ok) (List.all_eq_true.1 hS _ mu)
  rw[hq,t1] at hb
  have e:okp ⟨p.n,p.b+dot p.n c⟩=smb 2097152 (p.b+dot p.n c):=by
   have hp':=hp.ok
   unfold okp at hp' ⊢
   rw[Bool.and_eq_true,Bool.and_eq_true] at hp'
   rw[hp'.1,hp'.2.1]
   simp
  rw[e,Ra6]
  exact hb.mono (by omega)
theorem dd7 (v c:V3):oa4 (oa4 v c) (neg c)=v:=by
 cases v
 simp only[oa4,neg,V3.mk.injEq]
 omega
theorem je8 {A S:List V3} {c:V3} (hA:A.all inV=true) (hS:S.all inV=true) (hm:∀ w,w∈S↔∃ v∈A,w=oa4 v c) {v:V3} (h:Spn (F0 A) v):Spn (F0 S) (oa4 v c):=by
 obtain⟨p,q,s,hp,hq,hs,hw,e1,e2,e3⟩:=h
 have tr:∀ {p},p∈F0 A→(⟨p.n,p.b+dot p.n c⟩:Pln)∈F0 S:=fun {p} hp=>(xa7 hS _).2 (Le0 hS hm ((xa7 hA _).1 hp))
 exact⟨_,_,_,tr hp,tr hq,tr hs,hw,by show dot p.n (oa4 v c)=_;rw[cb8,e1],by show dot q.n (oa4 v c)=_;rw[cb8,e2],by show dot s.n (oa4 v c)=_;rw[cb8,e3]⟩
theorem Le1 {A S:List V3} {c:V3} (hA:A.all inV=true) (hS:S.all inV=true) (hm:∀ w,w∈S↔∃ v∈A,w=oa4 v c):ga4 (F0 S) S=(ga4 (F0 A) A).map fun v=>oa4 v c:=by
 have hm':∀ v,v∈A↔∃ w∈S,v=oa4 w (neg c):=fun v=>by
  constructor
  ·intro hv
   exact⟨_,(hm _).2 ⟨v,hv,rfl⟩,(dd7 v c).symm⟩
  ·rintro⟨w,hw,rfl⟩
   obtain⟨z,hz,rfl⟩:=(hm w).1 hw
   rw[dd7];exact hz
 refine cb7 _ _ ((ec2 S).filter _) ?_ fun w=>?_
 ·refine List.Pairwise.map _ (fun a d h=>?_) ((ec2 A).filter _)
  unfold LtV at *
  simp only[oa4]
  omega
 ·rw[ob5 hS,List.mem_map]
  constructor
  ·rintro⟨hw,hs⟩
   obtain⟨v,hv,rfl⟩:=(hm w).1 hw
   refine⟨v,(ob5 hA v).2 ⟨hv,?_⟩,rfl⟩
   have:=je8 hS hA hm' hs
   rwa [dd7] at this
  ·rintro⟨v,hv,rfl⟩
   obtain⟨h1,h2⟩:=(ob5 hA v).1 hv
   exact⟨(hm _).2 ⟨v,h1,rfl⟩,je8 hA hS hm h2⟩
end Go.Ev.Ce
namespace Go.Ev.Ce
open Go Go.Ev Go.Ev.L Go.Proofs
noncomputable def tet:List V3:=[⟨0,0,0⟩,⟨1,0,0⟩,⟨0,1,0⟩,⟨0,0,1⟩]
noncomputable def je9:List V3:=[⟨0,0,0⟩,⟨2,0,0⟩,⟨1,0,0⟩,⟨3,0,0⟩,⟨0,1,0⟩,⟨2,1,0⟩,⟨0,0,1⟩,⟨2,0,1⟩]
noncomputable def xe6:List V3:=[⟨0,0,0⟩,⟨0,0,1⟩,⟨0,1,0⟩,⟨1,0,0⟩,⟨2,0,0⟩,⟨2,0,1⟩,⟨2,1,0⟩,⟨3,0,0⟩]
noncomputable def rd6:List V3:=[⟨0,0,0⟩,⟨0,0,1⟩,⟨0,1,0⟩,⟨2,0,1⟩,⟨2,1,0⟩,⟨3,0,0⟩]
theorem xe7:da8 tet [⟨0,0,0⟩,⟨2,0,0⟩]=je9:=by kernel_rfl
theorem xe8:Ha7 je9=0:=by kernel_rfl
theorem xe9:dis je9=xe6:=by
 refine cb7 _ _ (ec2 _) ?_ fun v=>?_
 ·simp[xe6,LtV]
 ·rw[Cb4]
  unfold je9 xe6
  simp only[List.mem_cons,List.not_mem_nil,or_false]
  constructor<;>rintro (h | h | h | h | h | h | h | h)<;>simp[h]
theorem ye0:xe6.filter (kv (F0 je9))=rd6:=by kernel_rfl
theorem ye1:Lb7 tet [⟨0,0,0⟩,⟨2,0,0⟩]=(rd6,0):=by
 unfold Lb7
 rw[if_neg (by simp[tet]),xe7]
 unfold Db8 ga4
 rw[if_pos xe8,xe9,ye0]
theorem ke0:Lb7 tet []=([],11):=by
 unfold Lb7
 rw[if_neg (by simp[tet])]
 have h:da8 tet []=[]:=by kernel_rfl
 rw[h]
 unfold Db8
 rw[yb8,if_neg (by omega)]
theorem ye2:Lb7 tet [⟨24,0,0⟩]=([],3):=by
 unfold Lb7
 rw[if_neg (by simp[tet])]
 have h:Ha7 (da8 tet [⟨24,0,0⟩])=3:=by kernel_rfl
 unfold Db8
 rw[h,if_neg (by omega)]
theorem ye3:ob4 tet ⟨3,-1,2⟩=(3,true):=by kernel_rfl
theorem df3:zb4 [⟨⟨1,1,1⟩,3⟩,⟨⟨-1,0,0⟩,0⟩] ⟨1,0,2⟩ 1=([⟨⟨1,1,1⟩,6⟩,⟨⟨-1,0,0⟩,1⟩],true):=by kernel_rfl
theorem df4:zb4 [⟨⟨1,1,1⟩,3⟩,⟨⟨-1,0,0⟩,0⟩] ⟨1,0,2⟩ (-1)=([⟨⟨1,1,1⟩,0⟩,⟨⟨-1,0,0⟩,-1⟩],true):=by kernel_rfl
theorem df5:zb4 [⟨⟨1,1,1⟩,3⟩,⟨⟨-1,0,0⟩,0⟩] ⟨13,0,0⟩ 1=([],false):=by kernel_rfl
theorem df6:zb4 [⟨⟨1,1,1⟩,3⟩,⟨⟨-1,0,0⟩,0⟩] ⟨0,-1,0⟩ (-1)=([],false):=by kernel_rfl
theorem df7:zb4 [⟨⟨1,0,0⟩,2097152⟩] ⟨1,0,0⟩ 1=([],false):=by kernel_rfl
theorem rd7:ra6=some (b true,[]):=by
 have ht:Ka2=tet:=we6
 have lt:tet.length≤1000000:=by simp[tet]
 unfold ra6
 simp only[ht,we7,p9,Ua0,ie5,ie6,ye1,ke0,ye2,Aa2 tet _ lt,Aa3 tet _ lt,ye3,Aa2 [] _ (by simp),Aa3 [] _ (by simp)]
 rw[Bd3 _ _ (by simp),Bd4 _ _ (by simp),rd4 _ _ (by simp),rd5 _ _ (by simp),Bd3 _ ⟨13,0,0⟩ (by simp),Bd4 _ ⟨13,0,0⟩ (by simp),rd4 _ ⟨0,-1,0⟩ (by simp),rd5 _ ⟨0,-1,0⟩ (by simp),Bd3 [⟨⟨1,0,0⟩,2097152⟩] _ (by simp),Bd4 [⟨⟨1,0,0⟩,2097152⟩] _ (by simp),df3,df4,df5,df6,df7]
 simp only[be1 _ (show [(⟨⟨1,1,1⟩,6⟩:Pln),⟨⟨-1,0,0⟩,1⟩].length≤1000000000 by simp),be2 _ (show [(⟨⟨1,1,1⟩,6⟩:Pln),⟨⟨-1,0,0⟩,1⟩].length≤1000000000 by simp),be1 _ (show [(⟨⟨1,1,1⟩,0⟩:Pln),⟨⟨-1,0,0⟩,-1⟩].length≤1000000000 by simp),be2 _ (show [(⟨⟨1,1,1⟩,0⟩:Pln),⟨⟨-1,0,0⟩,-1⟩].length≤1000000000 by simp)]
 have e1:O6 rd6 [⟨0,0,0⟩,⟨0,0,1⟩,⟨0,1,0⟩,⟨2,0,1⟩,⟨2,1,0⟩,⟨3,0,0⟩]=true:=Vb6 rd6 (by simp[rd6])
 have e2:G8 rd6 [⟨0,0,0⟩,⟨0,0,1⟩,⟨0,1,0⟩,⟨2,0,1⟩,⟨2,1,0⟩,⟨3,0,0⟩]=true:=Vb7 rd6 (by simp[rd6])
 rw[e1,e2]
 rfl
theorem Bd8:Ea7=true:=by unfold Ea7;rw[rd7];rfl
theorem Bd9:Ea8=true:=by unfold Ea8;rw[rd7];rfl
end Go.Ev.Ce
section
namespace Go.Ev.Ce
open Go Go.Ev Go.Ev.L Go.Proofs
set_option maxRecDepth 100000
structure sd2 where
 bs7:Bool
 ef5:Int
 c9:Int
 c7:Int
 d7:Int
 e7:List V3
 Qd6:List V3
 Qd7:List V3
 Qd8:List V3
 Qd9:List V3
 Rd0:List V3
 Rd1:List V3
 Rd2:List V3
 Rd3:List V3
 ze0:Nat
 We0:Nat→List b7
 We1:Nat
 We2:Nat→List b7
structure sd3 where
 ff8:Int
structure sd4 where
 bs7:Bool
 c9:Int
 c7:Int
 d7:Int
structure sd5 where
 ef5:Int
 e7:List V3
 Qd6:List V3
 Qd7:List V3
 Qd8:List V3
 Qd9:List V3
 Rd0:List V3
 Rd1:List V3
 Rd2:List V3
 Rd3:List V3
end Go.Ev.Ce
end
namespace Go.Ev.Ce
open Go Go.Ev Go.Ev.L Go.Proofs
theorem Ue2 (x:List Int):(T2 x).1::(T2 x).2=d9 x:=by
 have h:=Cc2 x
 unfold T2
 cases hL:d9 x with
 | nil=>rw[hL] at h;simp at h
 | cons a l=>rfl
end Go.Ev.Ce
section
namespace Go.Ev.Ce
open Go Go.Ev Go.Ev.L Go.Proofs
set_option maxRecDepth 100000
structure ke1 where
 f9:List V3
 c9:Int
 c7:Int
 d7:Int
structure ke2 where
 ph:Nat
 is6:Int
 ns5:Nat
 eh1:List (List b7)
structure ye4 where
 alt:Nat
 ns0:Nat
 eh0:List (List b7)
structure sd6 where
 is3:Int
 bs9:Bool
 Lb8:List V3
 c9:Int
 c7:Int
 d7:Int
 C9:Int
 D0:Int
 D1:Int
structure sd7 where
 ff9:Nat
 gf0:Int
 eh2:List (List b7)
structure sd8 where
 bs9:Bool
 Lb8:List V3
 Le8:List V3
 ef6:Nat
 Ue6:Int
 Ue7:Int
 We3:List V3
 ff0:Int
 c9:Int
 c7:Int
 d7:Int
 C9:Int
 D0:Int
 D1:Int
 ya0:Int
 ya1:Int
 ya2:Int
 eh3:List (List b7)
structure sd9 where
 ff1:Int
structure td0 where
 bs9:Bool
 ef6:Nat
 Ue6:Int
 c9:Int
 c7:Int
 d7:Int
 C9:Int
 D0:Int
 D1:Int
 eh2:List (List b7)
structure td1 where
 Lb8:List V3
 Le8:List V3
 Ue7:Int
structure td2 where
 bs9:Bool
 ze1:List V3
 Ue8:Int
 Ue9:Int
 ff2:Int
 c9:Int
 c7:Int
 d7:Int
 ef7:Nat
 ff3:Nat
 eh0:List (List b7)
 C9:Int
 D0:Int
 D1:Int
structure td3 where
 ph:Nat
 gf1:Bool
 ff4:Int
structure td4 where
 bs9:Bool
 Ue8:Int
structure td5 where
 ph:Nat
 ze1:List V3
 Ue9:Int
 ef7:Nat
 eh0:List (List b7)
end Go.Ev.Ce
end
namespace Go.Ev.Ce
open Go Go.Ev Go.Ev.L Go.Proofs
structure Sm4 (v:V3) (n:Int):Prop where
 x:Sm n v.x
 y:Sm n v.y
 z:Sm n v.z
end Go.Ev.Ce
namespace Go.Ev.Ce
open Go Go.Ev Go.Ev.L Go.Proofs
theorem Le2 (x:List Int):d9 x≠[]:=fun e=>by have:=Cc2 x;rw[e] at this;simp at this
theorem fc5 {S:List V3} (h:S.length≤48):(ga4 (F0 S) S).length≤48:=by
 have h1:=sc3 S
 have h2:(ga4 (F0 S) S).length≤(dis S).length:=List.length_filter_le _ _
 omega
end Go.Ev.Ce
section
namespace Go.Ev.Ce
open Go Go.Ev Go.Ev.L Go.Proofs
set_option maxRecDepth 100000
noncomputable def ga8:List (Nat×Sum):=[(15,zb3),(25,Hb4),(24,zb2),(28,ec7),(30,Za4),(31,gb0),(34,wb1),(33,Ec7),(35,Oa3),(36,ic5)]
theorem rb7:j9 prog G ga8:=⟨pc3,Fc2,pc1,Ec5,rb2,zb0,Pb9,qd4,jb9,cd4,trivial⟩
structure A1 where
 aa6:List B3
 bs7:Bool
 L6:List V3
 c9:Int
 c7:Int
 d7:Int
structure j5 where
 ph:Nat
 k8:Int
 ns9:Nat
 eh1:List (List b7)
noncomputable def kb1 (p:A1) (s:j5):St:=⟨(.unk::((eL tW p.aa6)::(ra 3 ((.ptr 0 0 0 0)::(.unk::((b p.bs7)::((eL tV p.L6)::((.v (.slice none 0 0))::((i s.k8)::(ra 191 [])))))))))),[⟨0,3,[[(.v (.int .u8 p.c9)),(.v (.int .u8 p.c7)),(.v (.int .u8 p.d7))]],true,false,0⟩]⟩
noncomputable def kb2 (p:A1) (s:j5):St:=⟨(.unk::((eL tW p.aa6)::(ra 3 ((.ptr 0 0 0 0)::(.unk::((b p.bs7)::((eL tV p.L6)::((.sl 1 0 s.ns9 0)::((i s.k8)::(ra 191 [])))))))))),[⟨0,3,[[(.v (.int .u8 p.c9)),(.v (.int .u8 p.c7)),(.v (.int .u8 p.d7))]],true,false,0⟩,⟨27,3,s.eh1,true,false,0⟩]⟩
noncomputable def ob7 (p:A1) (s:j5):St:=(sel (Nat.beq s.ph 1) (kb2 p s) (kb1 p s))
noncomputable def B1 {α:Type} (k:j5→α) (e:Nat→α) (z:α) (p:A1) (s:j5):α:=(sl (decide (s.k8 < (↑(List.length p.aa6):Int))) (sl (decide (s.k8 < 3)) (sl (inB s.k8 (List.length p.aa6)) (sl (inB s.k8 (List.length p.aa6)) (sl (inB s.k8 (List.length p.aa6)) (k ⟨1,(W (s.k8+1)),1,[[(i (W ((W (Int.tmod (gL tW p.aa6 s.k8.toNat).b0 9)) - 4))),(i (W ((W (Int.tmod (gL tW p.aa6 s.k8.toNat).b1 9)) - 4))),(i (W ((W (Int.tmod (gL tW p.aa6 s.k8.toNat).b2 9)) - 4)))]]⟩) z) z) z) (e 1)) (e 2))
noncomputable def o4 {α:Type} (k:j5→α) (e:Nat→α) (z:α) (p:A1) (s:j5):α:=(sl (decide (s.k8 < (↑(List.length p.aa6):Int))) (sl (decide (s.k8 < 3)) (sl (inB s.k8 (List.length p.aa6)) (sl (inB s.k8 (List.length p.aa6)) (sl (inB s.k8 (List.length p.aa6)) (sl (Nat.beq s.ns9 (len s.eh1)&&Nat.ble ((s.ns9+1)*24) room) (k ⟨1,(W (s.k8+1)),(s.ns9+1),(app s.eh1 [[(i (W ((W (Int.tmod (gL tW p.aa6 s.k8.toNat).b0 9)) - 4))),(i (W ((W (Int.tmod (gL tW p.aa6 s.k8.toNat).b1 9)) - 4))),(i (W ((W (Int.tmod (gL tW p.aa6 s.k8.toNat).b2 9)) - 4)))]])⟩) z) z) z) z) (e 3)) (e 4))
noncomputable def Z7 (p:A1) (s:j5):Stp j5:=(sel (Nat.beq s.ph 1) (o4 .next .exit .fail p s) (B1 .next .exit .fail p s))
noncomputable def oa5:Lo A1 j5:=⟨En ga8,0,pf5,[1,1,1,1,0,1,4,4],[1,5,7,8,9,10],.p,[⟨((.s (.o .unk))::((.s (.c 3 (nL tW)))::(ru2 3 ((.s (.o (.ptr 0 0 0 0)))::((.s (.o .unk))::((.s (.o .bool))::((.s (.c 3 (nL tV)))::((.s (.o .nil))::((.s (.o (.int .i64)))::(ru2 191 [])))))))))),[⟨0,3,true,(some [[(.o (.int .u8)),(.o (.int .u8)),(.o (.int .u8))]])⟩],fun a H=>(⟨(rL tW (slT a 1)),(toB (slT a 7)),(rL tV (slT a 8)),(toI (slT (rwT (elT H 0) 0) 0)),(toI (slT (rwT (elT H 0) 0) 1)),(toI (slT (rwT (elT H 0) 0) 2))⟩,⟨0,(toI (slT a 10)),0,[]⟩)⟩,⟨((.s (.o .unk))::((.s (.c 3 (nL tW)))::(ru2 3 ((.s (.o (.ptr 0 0 0 0)))::((.s (.o .unk))::((.s (.o .bool))::((.s (.c 3 (nL tV)))::((.s (.o (.sl 1 0 (some 0) none)))::((.s (.o (.int .i64)))::(ru2 191 [])))))))))),[⟨0,3,true,(some [[(.o (.int .u8)),(.o (.int .u8)),(.o (.int .u8))]])⟩,⟨27,3,true,none⟩],fun a H=>(⟨(rL tW (slT a 1)),(toB (slT a 7)),(rL tV (slT a 8)),(toI (slT (rwT (elT H 0) 0) 0)),(toI (slT (rwT (elT H 0) 0) 1)),(toI (slT (rwT (elT H 0) 0) 2))⟩,⟨1,(toI (slT a 10)),(slN (slT a 9)),(elT H 1)⟩)⟩],Z7,[(some 0,fun p s=>⟨(.unk::((eL tW p.aa6)::(ra 3 ((.ptr 0 0 0 0)::(.unk::((b p.bs7)::((eL tV p.L6)::((.v (.slice none 0 0))::((i s.k8)::(ra 23 ((i s.k8)::((eL tW p.aa6)::((i (↑(List.length p.aa6):Int))::((b (decide (s.k8 < (↑(List.length p.aa6):Int))))::((b true)::((i s.k8)::((b (decide (s.k8 < 3)))::((b (decide (s.k8 < 3)))::(ra 160 []))))))))))))))))))),[⟨0,3,[[(.v (.int .u8 p.c9)),(.v (.int .u8 p.c7)),(.v (.int .u8 p.d7))]],true,false,0⟩]⟩),(some 0,fun p s=>⟨(.unk::((eL tW p.aa6)::(ra 3 ((.ptr 0 0 0 0)::(.unk::((b p.bs7)::((eL tV p.L6)::((.v (.slice none 0 0))::((i s.k8)::(ra 23 ((i s.k8)::((eL tW p.aa6)::((i (↑(List.length p.aa6):Int))::((b (decide (s.k8 < (↑(List.length p.aa6):Int))))::((b false)::(u::(u::((b false)::(ra 160 []))))))))))))))))))),[⟨0,3,[[(.v (.int .u8 p.c9)),(.v (.int .u8 p.c7)),(.v (.int .u8 p.d7))]],true,false,0⟩]⟩),(some 0,fun p s=>⟨(.unk::((eL tW p.aa6)::(ra 3 ((.ptr 0 0 0 0)::(.unk::((b p.bs7)::((eL tV p.L6)::((.sl 1 0 s.ns9 0)::((i s.k8)::(ra 23 ((i s.k8)::((eL tW p.aa6)::((i (↑(List.length p.aa6):Int))::((b (decide (s.k8 < (↑(List.length p.aa6):Int))))::((b true)::((i s.k8)::((b (decide (s.k8 < 3)))::((b (decide (s.k8 < 3)))::(ra 160 []))))))))))))))))))),[⟨0,3,[[(.v (.int .u8 p.c9)),(.v (.int .u8 p.c7)),(.v (.int .u8 p.d7))]],true,false,0⟩,⟨27,3,s.eh1,true,false,0⟩]⟩),(some 0,fun p s=>⟨(.unk::((eL tW p.aa6)::(ra 3 ((.ptr 0 0 0 0)::(.unk::((b p.bs7)::((eL tV p.L6)::((.sl 1 0 s.ns9 0)::((i s.k8)::(ra 23 ((i s.k8)::((eL tW p.aa6)::((i (↑(List.length p.aa6):Int))::((b (decide (s.k8 < (↑(List.length p.aa6):Int))))::((b false)::(u::(u::((b false)::(ra 160 []))))))))))))))))))),[⟨0,3,[[(.v (.int .u8 p.c9)),(.v (.int .u8 p.c7)),(.v (.int .u8 p.d7))]],true,false,0⟩,⟨27,3,s.eh1,true,false,0⟩]⟩)],ob7⟩
theorem ob8:oa5.Ok:=Lo.ok [] (by kernel_rfl) .nil rfl (.cons (fun a H=>by kernel_rfl) (.cons (fun a H=>by kernel_rfl) .nil)) fun p s=>(.sel (Nat.beq s.ph 1) (.of @o4 (fun F _ _ _ _ _=>by unfold o4;(repeat' apply o9 (f:=F))<;>rfl) (by kernel_rfl)) (.of @B1 (fun F _ _ _ _ _=>by unfold B1;(repeat' apply o9 (f:=F))<;>rfl) (by kernel_rfl)))
structure J8 where
 bs7:Bool
 L6:List V3
 ns9:Nat
 Pa0:List V3
 ya3:List V3
 ic7:Int
 kb5:Int
 Jd0:Nat
 sd1:Int
 eh0:List (List b7)
 C9:Int
 D0:Int
 D1:Int
structure s9 where
 ic8:Int
noncomputable def ob9 (p:J8) (s:s9):St:=⟨(ra 7 ((b p.bs7)::((eL tV p.L6)::((.sl 0 0 p.ns9 0)::(.unk::(.unk::((eL tV p.Pa0)::(ra 10 ((.ptr 1 0 0 0)::(ra 128 ((eL tV p.ya3)::((i p.ic7)::((i p.kb5)::(ra 3 ((.sl 0 0 p.Jd0 0)::((i p.sd1)::((i s.ic8)::(ra 41 [])))))))))))))))))),[⟨27,3,p.eh0,false,false,0⟩,⟨0,3,[[(i p.C9),(i p.D0),(i p.D1)]],true,false,0⟩]⟩
noncomputable def M2 {α:Type} (k:s9→α) (e:Nat→α) (z:α) (p:J8) (s:s9):α:=let t1:=(f7 (⟨p.C9,p.D0,p.D1⟩:V3) (rdR tV p.eh0 (0+s.ic8.toNat)));let t2:=(ra0 (rt tV p.Pa0) t1);(sl (decide (s.ic8 < p.sd1)) (sl (inB s.ic8 p.Jd0) (sl (ldR tV p.eh0 (0+s.ic8.toNat)) (sl (okE tV p.Pa0) (sl (ra1 (rt tV p.Pa0) t1) (sl (!t2) (e 1) (k ⟨(W (s.ic8+1))⟩)) z) z) z) z) (e 2))
noncomputable def I1 (p:J8) (s:s9):Stp s9:=M2 .next .exit .fail p s
noncomputable def oa6:Lo J8 s9:=⟨En ga8,0,pf5,[1,1,1,1,1,1,1,1,1,1,1,1,1,1,0,1,4,4,1,1,0,4,1,1,4,4],[7,8,9,12,23,152,153,154,158,159,160],.p,[⟨(ru2 7 ((.s (.o .bool))::((.s (.c 3 (nL tV)))::((.s (.o (.sl 0 0 (some 0) none)))::((.s (.o .unk))::((.s (.o .unk))::((.s (.c 3 (nL tV)))::(ru2 10 ((.s (.o (.ptr 1 0 0 0)))::(ru2 128 ((.s (.c 3 (nL tV)))::((.s (.o (.int .i64)))::((.s (.o (.int .i64)))::(ru2 3 ((.s (.o (.sl 0 0 (some 0) none)))::((.s (.o (.int .i64)))::((.s (.o (.int .i64)))::(ru2 41 [])))))))))))))))))),[⟨27,3,false,none⟩,⟨0,3,true,(some [[(.o (.int .i64)),(.o (.int .i64)),(.o (.int .i64))]])⟩],fun a H=>(⟨(toB (slT a 7)),(rL tV (slT a 8)),(slN (slT a 9)),(rL tV (slT a 12)),(rL tV (slT a 152)),(toI (slT a 153)),(toI (slT a 154)),(slN (slT a 158)),(toI (slT a 159)),(elT H 0),(toI (slT (rwT (elT H 1) 0) 0)),(toI (slT (rwT (elT H 1) 0) 1)),(toI (slT (rwT (elT H 1) 0) 2))⟩,⟨(toI (slT a 160))⟩)⟩],I1,[(none,fun p s=>⟨[(b false)],[]⟩),(some 4,fun p s=>⟨(ra 7 ((b p.bs7)::((eL tV p.L6)::((.sl 0 0 p.ns9 0)::(.unk::(.unk::((eL tV p.Pa0)::(ra 10 ((.ptr 1 0 0 0)::(ra 128 ((eL tV p.ya3)::((i p.ic7)::((i p.kb5)::(ra 3 ((.sl 0 0 p.Jd0 0)::((i p.sd1)::((i s.ic8)::((b (decide (s.ic8 < p.sd1)))::(ra 40 []))))))))))))))))))),[⟨27,3,p.eh0,false,false,0⟩,⟨0,3,[[(i p.C9),(i p.D0),(i p.D1)]],true,false,0⟩]⟩)],ob9⟩
theorem pb0:oa6.Ok:=Lo.ok [] (by kernel_rfl) .nil rfl (.cons (fun a H=>by kernel_rfl) .nil) fun p s=>(.of @M2 (fun F _ _ _ _ _=>by unfold M2;(repeat' apply o9 (f:=F))<;>rfl) (by kernel_rfl))
structure J9 where
 bs7:Bool
 ns9:Nat
 ic7:Int
 eh0:List (List b7)
structure u7 where
 L6:List V3
 Pa0:List V3
 ya3:List V3
 kb5:Int
noncomputable def pb1 (p:J9) (s:u7):St:=⟨(ra 7 ((b p.bs7)::((eL tV s.L6)::((.sl 0 0 p.ns9 0)::(.unk::(.unk::((eL tV s.Pa0)::(ra 139 ((eL tV s.ya3)::((i p.ic7)::((i s.kb5)::(ra 47 [])))))))))))),[⟨27,3,p.eh0,false,false,0⟩]⟩
noncomputable def M3 {α:Type} (k:u7→α) (e:Nat→α) (z:α) (p:J9) (s:u7):α:=let t1:=(lp (I1 (⟨p.bs7,(rt tV s.L6),p.ns9,(rt tV s.Pa0),(rt tV s.ya3),p.ic7,s.kb5,p.ns9,(↑p.ns9:Int),p.eh0,(gL tV s.ya3 s.kb5.toNat).x,(gL tV s.ya3 s.kb5.toNat).y,(gL tV s.ya3 s.kb5.toNat).z⟩:J8)) (⟨0⟩:s9));(sl (decide (s.kb5 < p.ic7)) (sl (inB s.kb5 (List.length s.ya3)) (sl ((cnE tV s.L6)&&((cnE tV s.Pa0)&&((cnE tV s.ya3)&&true))) (sl (Nat.beq t1.1 1) (e 1) (sl (Nat.beq t1.1 2) (k ⟨(rt tV s.L6),(rt tV s.Pa0),(rt tV s.ya3),(W (s.kb5+1))⟩) z)) z) z) (e 2))
noncomputable def s6 (p:J9) (s:u7):Stp u7:=M3 .next .exit .fail p s
noncomputable def oa7:Lo J9 u7:=⟨En ga8,0,pf5,[1,1,1,1,1,1,1,1,1,1,1,1,1,1,0,1,4,4],[7,8,9,12,152,153,154],(.s .p (.s .p (.s (.b (.s .p (.s .p (.b (.u oa6.ls))))) .p))),[⟨(ru2 7 ((.s (.o .bool))::((.s (.c 3 (nL tV)))::((.s (.o (.sl 0 0 (some 0) none)))::((.s (.o .unk))::((.s (.o .unk))::((.s (.c 3 (nL tV)))::(ru2 139 ((.s (.c 3 (nL tV)))::((.s (.o (.int .i64)))::((.s (.o (.int .i64)))::(ru2 47 [])))))))))))),[⟨27,3,false,none⟩],fun a H=>(⟨(toB (slT a 7)),(slN (slT a 9)),(toI (slT a 153)),(elT H 0)⟩,⟨(rL tV (slT a 8)),(rL tV (slT a 12)),(rL tV (slT a 152)),(toI (slT a 154))⟩)⟩],s6,[(none,fun p s=>⟨[(b false)],[]⟩),(some 2,fun p s=>⟨(ra 7 ((b p.bs7)::((eL tV s.L6)::((.sl 0 0 p.ns9 0)::(.unk::(.unk::((eL tV s.Pa0)::(ra 139 ((eL tV s.ya3)::((i p.ic7)::((i s.kb5)::((b (decide (s.kb5 < p.ic7)))::(ra 46 []))))))))))))),[⟨27,3,p.eh0,false,false,0⟩]⟩)],pb1⟩
theorem pb2:oa7.Ok:=Lo.ok [oa6.pr] (by kernel_rfl) (.cons pb0 .nil) rfl (.cons (fun a H=>by kernel_rfl) .nil) fun p s=>(.of @M3 (fun F _ _ _ _ _=>by unfold M3;(repeat' apply o9 (f:=F))<;>rfl) (by kernel_rfl))
noncomputable def Y5 (x:List Int) (y:List B3) (z:B3):Option (b7×List b9):=let t1:=Ea7;let t2:=(T2 (rt tI x));let t3:=(ra4 (rt tV (t2.1::t2.2)) 8);let t4:=(lp (Z7 (⟨(rt tW y),t1,(rt tV t3),z.b0,z.b1,z.b2⟩:A1)) (⟨0,0,0,[]⟩:j5));let t5:=(ea7 (rt tV (rt tV t3)) [(⟨1,0,0⟩:V3)]);let t6:=(ea7 [(⟨1,0,0⟩:V3)] (rt tV (rt tV t3)));let t7:=(O6 (rt tV t5.1) (rt tV t6.1));let t8:=(M7 (rt tV (rt tV t3)) (⟨(W ((W (Int.tmod z.b0 19)) - 9)),(W ((W (Int.tmod z.b1 19)) - 9)),(W ((W (Int.tmod z.b2 19)) - 9))⟩:V3));let t9:=(M7 [(⟨1,0,0⟩:V3)] (⟨(W ((W (Int.tmod z.b0 19)) - 9)),(W ((W (Int.tmod z.b1 19)) - 9)),(W ((W (Int.tmod z.b2 19)) - 9))⟩:V3));let t10:=(M7 (rt tV t5.1) (⟨(W ((W (Int.tmod z.b0 19)) - 9)),(W ((W (Int.tmod z.b1 19)) - 9)),(W ((W (Int.tmod z.b2 19)) - 9))⟩:V3));let t11:=(lp (s6 (⟨t1,1,(↑(List.length (rt tV t3)):Int),[[(i 1),(i 0),(i 0)]]⟩:J9)) (⟨(rt tV (rt tV t3)),(rt tV t5.1),(rt tV (rt tV t3)),0⟩:u7));let t12:=(ea7 (rt tV t11.2.L6) (slR tV [[(i 1),(i 0),(i 0)]] 0 1));let t13:=(P4 (rt tV t11.2.L6));let t14:=(La7 (rt tV t13.1) (rdR tV [[(i 1),(i 0),(i 0)]] 0));let t15:=(O6 (rt tV t12.1) (rt tV t14));let a0:=((cnE tV (rt tV t3))&&((cnE tV t5.1)&&((cnE tV (rt tV t3))&&true)));let a1:=(slR tV t4.2.eh1 0 t4.2.ns9);let t16:=(ea7 (rt tV (rt tV t3)) a1);let t17:=(ea7 a1 (rt tV (rt tV t3)));let t18:=(O6 (rt tV t16.1) (rt tV t17.1));let t19:=(M7 a1 (⟨(W ((W (Int.tmod z.b0 19)) - 9)),(W ((W (Int.tmod z.b1 19)) - 9)),(W ((W (Int.tmod z.b2 19)) - 9))⟩:V3));let t20:=(M7 (rt tV t16.1) (⟨(W ((W (Int.tmod z.b0 19)) - 9)),(W ((W (Int.tmod z.b1 19)) - 9)),(W ((W (Int.tmod z.b2 19)) - 9))⟩:V3));let t21:=(lp (s6 (⟨t1,t4.2.ns9,(↑(List.length (rt tV t3)):Int),t4.2.eh1⟩:J9)) (⟨(rt tV (rt tV t3)),(rt tV t16.1),(rt tV (rt tV t3)),0⟩:u7));let t22:=(ea7 (rt tV t21.2.L6) (slR tV t4.2.eh1 0 1));let t23:=(P4 (rt tV t21.2.L6));let t24:=(La7 (rt tV t23.1) (rdR tV t4.2.eh1 0));let t25:=(O6 (rt tV t22.1) (rt tV t24));let a2:=(okS tV t4.2.eh1 0 t4.2.ns9);let a3:=(G8 (rt tV t5.1) (rt tV t6.1));let a4:=(G8 (rt tV t12.1) (rt tV t14));let a5:=(P5 (rt tV t11.2.L6));let a6:=(t10.1 != (W (t8.1+t9.1)));(sl Ea8 (sl (okE tI x) (sl (Qa1 (rt tI x)) (sl (Nat.ble 1 (List.length (d9 (rt tI x)))) (sl (okE tV (t2.1::t2.2)) (sl (ra5 (rt tV (t2.1::t2.2)) 8) (sl ((cnE tW y)&&((cnE tV t3)&&true)) (sl (Nat.beq t4.1 1) (sl (okE tV (rt tV t3)) (sl (z6 (rt tV (rt tV t3)) [(⟨1,0,0⟩:V3)]) (sl (okE tV (rt tV t3)) (sl (z6 [(⟨1,0,0⟩:V3)] (rt tV (rt tV t3))) (sl (t5.2 != 0) (some ((b false),[])) (sl (t6.2 != 0) (some ((b false),[])) (sl (okE tV t5.1) (sl (okE tV t6.1) (sl a3 (sl (!t7) (some ((b false),[])) (sl (okE tV (rt tV t3)) (sl (k9 (rt tV (rt tV t3)) (⟨(W ((W (Int.tmod z.b0 19)) - 9)),(W ((W (Int.tmod z.b1 19)) - 9)),(W ((W (Int.tmod z.b2 19)) - 9))⟩:V3)) (sl (k9 [(⟨1,0,0⟩:V3)] (⟨(W ((W (Int.tmod z.b0 19)) - 9)),(W ((W (Int.tmod z.b1 19)) - 9)),(W ((W (Int.tmod z.b2 19)) - 9))⟩:V3)) (sl (okE tV t5.1) (sl (k9 (rt tV t5.1) (⟨(W ((W (Int.tmod z.b0 19)) - 9)),(W ((W (Int.tmod z.b1 19)) - 9)),(W ((W (Int.tmod z.b2 19)) - 9))⟩:V3)) (sl (!t8.2) (some ((b false),[])) (sl (!t9.2) (some ((b false),[])) (sl (!t10.2) (some ((b false),[])) (sl a6 (some ((b false),[])) (sl a0 (sl (Nat.beq t11.1 1) (some ((b false),[])) (sl (Nat.beq t11.1 2) (sl (okE tV t11.2.L6) (sl (okS tV [[(i 1),(i 0),(i 0)]] 0 1) (sl (z6 (rt tV t11.2.L6) (slR tV [[(i 1),(i 0),(i 0)]] 0 1)) (sl (okE tV t11.2.L6) (sl a5 (sl t1 (sl (t12.2==0) (sl (t13.2==0) (sl (ldR tV [[(i 1),(i 0),(i 0)]] 0) (sl (okE tV t13.1) (sl (ga7 (rt tV t13.1) (rdR tV [[(i 1),(i 0),(i 0)]] 0)) (sl (okE tV t12.1) (sl (okE tV t14) (sl a4 (some ((b t15),[])) none) none) none) none) none) none) (some ((b false),[]))) (some ((b false),[]))) (some ((b false),[]))) none) none) none) none) none) none)) none))))) none) none) none) none) none)) none) none) none))) none) none) none) none) (sl (Nat.beq t4.1 2) (sl (okE tV (rt tV t3)) (sl (z6 (rt tV (rt tV t3)) [(⟨1,0,0⟩:V3)]) (sl (okE tV (rt tV t3)) (sl (z6 [(⟨1,0,0⟩:V3)] (rt tV (rt tV t3))) (sl (t5.2 != 0) (some ((b false),[])) (sl (t6.2 != 0) (some ((b false),[])) (sl (okE tV t5.1) (sl (okE tV t6.1) (sl a3 (sl (!t7) (some ((b false),[])) (sl (okE tV (rt tV t3)) (sl (k9 (rt tV (rt tV t3)) (⟨(W ((W (Int.tmod z.b0 19)) - 9)),(W ((W (Int.tmod z.b1 19)) - 9)),(W ((W (Int.tmod z.b2 19)) - 9))⟩:V3)) (sl (k9 [(⟨1,0,0⟩:V3)] (⟨(W ((W (Int.tmod z.b0 19)) - 9)),(W ((W (Int.tmod z.b1 19)) - 9)),(W ((W (Int.tmod z.b2 19)) - 9))⟩:V3)) (sl (okE tV t5.1) (sl (k9 (rt tV t5.1) (⟨(W ((W (Int.tmod z.b0 19)) - 9)),(W ((W (Int.tmod z.b1 19)) - 9)),(W ((W (Int.tmod z.b2 19)) - 9))⟩:V3)) (sl (!t8.2) (some ((b false),[])) (sl (!t9.2) (some ((b false),[])) (sl (!t10.2) (some ((b false),[])) (sl a6 (some ((b false),[])) (sl a0 (sl (Nat.beq t11.1 1) (some ((b false),[])) (sl (Nat.beq t11.1 2) (sl (okE tV t11.2.L6) (sl (okS tV [[(i 1),(i 0),(i 0)]] 0 1) (sl (z6 (rt tV t11.2.L6) (slR tV [[(i 1),(i 0),(i 0)]] 0 1)) (sl (okE tV t11.2.L6) (sl a5 (sl t1 (sl (t12.2==0) (sl (t13.2==0) (sl (ldR tV [[(i 1),(i 0),(i 0)]] 0) (sl (okE tV t13.1) (sl (ga7 (rt tV t13.1) (rdR tV [[(i 1),(i 0),(i 0)]] 0)) (sl (okE tV t12.1) (sl (okE tV t14) (sl a4 (some ((b t15),[])) none) none) none) none) none) none) (some ((b false),[]))) (some ((b false),[]))) (some ((b false),[]))) none) none) none) none) none) none)) none))))) none) none) none) none) none)) none) none) none))) none) none) none) none) (sl (Nat.beq t4.1 3) (sl ((↑t4.2.ns9:Int)==0) (sl (okE tV (rt tV t3)) (sl (z6 (rt tV (rt tV t3)) [(⟨1,0,0⟩:V3)]) (sl (okE tV (rt tV t3)) (sl (z6 [(⟨1,0,0⟩:V3)] (rt tV (rt tV t3))) (sl (t5.2 != 0) (some ((b false),[])) (sl (t6.2 != 0) (some ((b false),[])) (sl (okE tV t5.1) (sl (okE tV t6.1) (sl a3 (sl (!t7) (some ((b false),[])) (sl (okE tV (rt tV t3)) (sl (k9 (rt tV (rt tV t3)) (⟨(W ((W (Int.tmod z.b0 19)) - 9)),(W ((W (Int.tmod z.b1 19)) - 9)),(W ((W (Int.tmod z.b2 19)) - 9))⟩:V3)) (sl (k9 [(⟨1,0,0⟩:V3)] (⟨(W ((W (Int.tmod z.b0 19)) - 9)),(W ((W (Int.tmod z.b1 19)) - 9)),(W ((W (Int.tmod z.b2 19)) - 9))⟩:V3)) (sl (okE tV t5.1) (sl (k9 (rt tV t5.1) (⟨(W ((W (Int.tmod z.b0 19)) - 9)),(W ((W (Int.tmod z.b1 19)) - 9)),(W ((W (Int.tmod z.b2 19)) - 9))⟩:V3)) (sl (!t8.2) (some ((b false),[])) (sl (!t9.2) (some ((b false),[])) (sl (!t10.2) (some ((b false),[])) (sl a6 (some ((b false),[])) (sl a0 (sl (Nat.beq t11.1 1) (some ((b false),[])) (sl (Nat.beq t11.1 2) (sl (okE tV t11.2.L6) (sl (okS tV [[(i 1),(i 0),(i 0)]] 0 1) (sl (z6 (rt tV t11.2.L6) (slR tV [[(i 1),(i 0),(i 0)]] 0 1)) (sl (okE tV t11.2.L6) (sl a5 (sl t1 (sl (t12.2==0) (sl (t13.2==0) (sl (ldR tV [[(i 1),(i 0),(i 0)]] 0) (sl (okE tV t13.1) (sl (ga7 (rt tV t13.1) (rdR tV [[(i 1),(i 0),(i 0)]] 0)) (sl (okE tV t12.1) (sl (okE tV t14) (sl a4 (some ((b t15),[])) none) none) none) none) none) none) (some ((b false),[]))) (some ((b false),[]))) (some ((b false),[]))) none) none) none) none) none) none)) none))))) none) none) none) none) none)) none) none) none))) none) none) none) none) (sl (okE tV (rt tV t3)) (sl a2 (sl (z6 (rt tV (rt tV t3)) a1) (sl a2 (sl (okE tV (rt tV t3)) (sl (z6 a1 (rt tV (rt tV t3))) (sl (t16.2 != 0) (some ((b false),[])) (sl (t17.2 != 0) (some ((b false),[])) (sl (okE tV t16.1) (sl (okE tV t17.1) (sl (G8 (rt tV t16.1) (rt tV t17.1)) (sl (!t18) (some ((b false),[])) (sl (okE tV (rt tV t3)) (sl (k9 (rt tV (rt tV t3)) (⟨(W ((W (Int.tmod z.b0 19)) - 9)),(W ((W (Int.tmod z.b1 19)) - 9)),(W ((W (Int.tmod z.b2 19)) - 9))⟩:V3)) (sl a2 (sl (k9 a1 (⟨(W ((W (Int.tmod z.b0 19)) - 9)),(W ((W (Int.tmod z.b1 19)) - 9)),(W ((W (Int.tmod z.b2 19)) - 9))⟩:V3)) (sl (okE tV t16.1) (sl (k9 (rt tV t16.1) (⟨(W ((W (Int.tmod z.b0 19)) - 9)),(W ((W (Int.tmod z.b1 19)) - 9)),(W ((W (Int.tmod z.b2 19)) - 9))⟩:V3)) (sl (!t8.2) (some ((b false),[])) (sl (!t19.2) (some ((b false),[])) (sl (!t20.2) (some ((b false),[])) (sl (t20.1 != (W (t8.1+t19.1))) (some ((b false),[])) (sl ((cnE tV (rt tV t3))&&((cnE tV t16.1)&&((cnE tV (rt tV t3))&&true))) (sl (Nat.beq t21.1 1) (some ((b false),[])) (sl (Nat.beq t21.1 2) (sl (inB 1 (t4.2.ns9+1)) (sl (okE tV t21.2.L6) (sl (okS tV t4.2.eh1 0 1) (sl (z6 (rt tV t21.2.L6) (slR tV t4.2.eh1 0 1)) (sl (okE tV t21.2.L6) (sl (P5 (rt tV t21.2.L6)) (sl t1 (sl (t22.2==0) (sl (t23.2==0) (sl (inB 0 t4.2.ns9) (sl (ldR tV t4.2.eh1 0) (sl (okE tV t23.1) (sl (ga7 (rt tV t23.1) (rdR tV t4.2.eh1 0)) (sl (okE tV t22.1) (sl (okE tV t24) (sl (G8 (rt tV t22.1) (rt tV t24)) (some ((b t25),[])) none) none) none) none) none) none) none) (some ((b false),[]))) (some ((b false),[]))) (some ((b false),[]))) none) none) none) none) none) none) none)) none))))) none) none) none) none) none) none)) none) none) none))) none) none) none) none) none) none)) (sl (Nat.beq t4.1 4) (sl ((↑t4.2.ns9:Int)==0) (sl (okE tV (rt tV t3)) (sl (z6 (rt tV (rt tV t3)) [(⟨1,0,0⟩:V3)]) (sl (okE tV (rt tV t3)) (sl (z6 [(⟨1,0,0⟩:V3)] (rt tV (rt tV t3))) (sl (t5.2 != 0) (some ((b false),[])) (sl (t6.2 != 0) (some ((b false),[])) (sl (okE tV t5.1) (sl (okE tV t6.1) (sl a3 (sl (!t7) (some ((b false),[])) (sl (okE tV (rt tV t3)) (sl (k9 (rt tV (rt tV t3)) (⟨(W ((W (Int.tmod z.b0 19)) - 9)),(W ((W (Int.tmod z.b1 19)) - 9)),(W ((W (Int.tmod z.b2 19)) - 9))⟩:V3)) (sl (k9 [(⟨1,0,0⟩:V3)] (⟨(W ((W (Int.tmod z.b0 19)) - 9)),(W ((W (Int.tmod z.b1 19)) - 9)),(W ((W (Int.tmod z.b2 19)) - 9))⟩:V3)) (sl (okE tV t5.1) (sl (k9 (rt tV t5.1) (⟨(W ((W (Int.tmod z.b0 19)) - 9)),(W ((W (Int.tmod z.b1 19)) - 9)),(W ((W (Int.tmod z.b2 19)) - 9))⟩:V3)) (sl (!t8.2) (some ((b false),[])) (sl (!t9.2) (some ((b false),[])) (sl (!t10.2) (some ((b false),[])) (sl a6 (some ((b false),[])) (sl a0 (sl (Nat.beq t11.1 1) (some ((b false),[])) (sl (Nat.beq t11.1 2) (sl (okE tV t11.2.L6) (sl (okS tV [[(i 1),(i 0),(i 0)]] 0 1) (sl (z6 (rt tV t11.2.L6) (slR tV [[(i 1),(i 0),(i 0)]] 0 1)) (sl (okE tV t11.2.L6) (sl a5 (sl t1 (sl (t12.2==0) (sl (t13.2==0) (sl (ldR tV [[(i 1),(i 0),(i 0)]] 0) (sl (okE tV t13.1) (sl (ga7 (rt tV t13.1) (rdR tV [[(i 1),(i 0),(i 0)]] 0)) (sl (okE tV t12.1) (sl (okE tV t14) (sl a4 (some ((b t15),[])) none) none) none) none) none) none) (some ((b false),[]))) (some ((b false),[]))) (some ((b false),[]))) none) none) none) none) none) none)) none))))) none) none) none) none) none)) none) none) none))) none) none) none) none) (sl (okE tV (rt tV t3)) (sl a2 (sl (z6 (rt tV (rt tV t3)) a1) (sl a2 (sl (okE tV (rt tV t3)) (sl (z6 a1 (rt tV (rt tV t3))) (sl (t16.2 != 0) (some ((b false),[])) (sl (t17.2 != 0) (some ((b false),[])) (sl (okE tV t16.1) (sl (okE tV t17.1) (sl (G8 (rt tV t16.1) (rt tV t17.1)) (sl (!t18) (some ((b false),[])) (sl (okE tV (rt tV t3)) (sl (k9 (rt tV (rt tV t3)) (⟨(W ((W (Int.tmod z.b0 19)) - 9)),(W ((W (Int.tmod z.b1 19)) - 9)),(W ((W (Int.tmod z.b2 19)) - 9))⟩:V3)) (sl a2 (sl (k9 a1 (⟨(W ((W (Int.tmod z.b0 19)) - 9)),(W ((W (Int.tmod z.b1 19)) - 9)),(W ((W (Int.tmod z.b2 19)) - 9))⟩:V3)) (sl (okE tV t16.1) (sl (k9 (rt tV t16.1) (⟨(W ((W (Int.tmod z.b0 19)) - 9)),(W ((W (Int.tmod z.b1 19)) - 9)),(W ((W (Int.tmod z.b2 19)) - 9))⟩:V3)) (sl (!t8.2) (some ((b false),[])) (sl (!t19.2) (some ((b false),[])) (sl (!t20.2) (some ((b false),[])) (sl (t20.1 != (W (t8.1+t19.1))) (some ((b false),[])) (sl ((cnE tV (rt tV t3))&&((cnE tV t16.1)&&((cnE tV (rt tV t3))&&true))) (sl (Nat.beq t21.1 1) (some ((b false),[])) (sl (Nat.beq t21.1 2) (sl (inB 1 (t4.2.ns9+1)) (sl (okE tV t21.2.L6) (sl (okS tV t4.2.eh1 0 1) (sl (z6 (rt tV t21.2.L6) (slR tV t4.2.eh1 0 1)) (sl (okE tV t21.2.L6) (sl (P5 (rt tV t21.2.L6)) (sl t1 (sl (t22.2==0) (sl (t23.2==0) (sl (inB 0 t4.2.ns9) (sl (ldR tV t4.2.eh1 0) (sl (okE tV t23.1) (sl (ga7 (rt tV t23.1) (rdR tV t4.2.eh1 0)) (sl (okE tV t22.1) (sl (okE tV t24) (sl (G8 (rt tV t22.1) (rt tV t24)) (some ((b t25),[])) none) none) none) none) none) none) none) (some ((b false),[]))) (some ((b false),[]))) (some ((b false),[]))) none) none) none) none) none) none) none)) none))))) none) none) none) none) none) none)) none) none) none))) none) none) none) none) none) none)) none)))) none) none) none) none) none) none) none)
noncomputable def ia6 (x:List Int) (y:List B3) (z:B3):Bool:=U2 (one r1B) (Y5 x y z)
noncomputable def ia7 (x:List Int) (y:List B3) (z:B3):Bool:=okO (one r1B) (Y5 x y z)
noncomputable def Eb3:Sum:=jc4 (ta7 tI) (ta7 tW) (S9 tW) (fun x y z=>.guard (ia7 x y z) (.ret ((one r1B).enc (ia6 x y z),[])))
theorem zb5:i4 prog G 5 Eb3:=Ee5 (bd b5 rb7) (one r1B) (o:=Y5) fun x y z=>Pa9 (.s .p (.s .p (.s .p (.s .p (.s (.s .p (.b (.u oa5.ls))) (.s .p (.s .p (.s .p (.s .p (.s .p (.s .p (.s .p (.s .p (.s .p (.s (.s .p (.b (.u oa7.ls))) .p))))))))))))))) [oa5.pr,oa7.pr] (by kernel_rfl) (.cons ob8 (.cons pb2 .nil)) (by kernel_rfl)
end Go.Ev.Ce
end
namespace Go.Ev.Ce
open Go Go.Ev Go.Ev.L Go.Proofs
def bpt (q:B3):V3:=⟨W (W (Int.tmod q.b0 9) - 4),W (W (Int.tmod q.b1 9) - 4),W (W (Int.tmod q.b2 9) - 4)⟩
theorem ye5 (n:Int) {k:Int} (hk:0 < k):-k < Int.tmod n k∧Int.tmod n k < k:=by
 refine⟨?_,Int.tmod_lt_of_pos n hk⟩
 by_cases h:0≤n
 ·have:=Int.tmod_nonneg k h;omega
 ·have h1:=Int.tmod_lt_of_pos (-n) hk
  rw[Int.neg_tmod] at h1
  omega
theorem fc6 (n k c:Int) (hk:0 < k) (hk2:k≤100) (hc:0≤c∧c≤100):∃ v,W (W (Int.tmod n k) - c)=v∧-k - c < v∧v < k - c:=by
 have h:=ye5 n hk
 refine⟨Int.tmod n k - c,?_,by omega,by omega⟩
 rw[U3 (n:=Int.tmod n k) (by omega) (by omega),U3 (by omega) (by omega)]
theorem Le3 (q:B3):Sm 12 (bpt q).x∧Sm 12 (bpt q).y∧Sm 12 (bpt q).z:=by
 obtain⟨a,e1,h1,h2⟩:=fc6 q.b0 9 4 (by omega) (by omega) (by omega)
 obtain⟨c,e2,h3,h4⟩:=fc6 q.b1 9 4 (by omega) (by omega) (by omega)
 obtain⟨d,e3,h5,h6⟩:=fc6 q.b2 9 4 (by omega) (by omega) (by omega)
 unfold bpt Sm
 rw[e1,e2,e3]
 simp only
 omega
theorem rd8 (Y : List B3) (bs : Bool) (A : List V3) (z : B3) :
  ∃ t s,lp (Z7 ⟨Y,bs,A,z.b0,z.b1,z.b2⟩) ⟨0,0,0,[]⟩=(t,s)∧((Y=[]∧t=2)∨(Y≠[]∧(t=3∨t=4)∧∃ j:Int,s=⟨1,j,((Y.take 3).map bpt).length,bL tV ((Y.take 3).map bpt)⟩)):=by
 have hm:∀ j,j≤Y.length→j≤3→((Y.take j).map bpt).length=j:=fun j h1 h2=>by rw[List.length_map,List.length_take];omega
 refine T1 (step:=Z7 ⟨Y,bs,A,z.b0,z.b1,z.b2⟩) (mk:=fun j (o:List V3)=>(⟨phV o,(j:Int),o.length,bL tV o⟩:j5)) (min Y.length 3) (fun j o=>j≤Y.length∧j≤3∧o=(Y.take j).map bpt)
  (fun t s=>(Y=[]∧t=2)∨(Y≠[]∧(t=3∨t=4)∧∃ j:Int,s=⟨1,j,((Y.take 3).map bpt).length,bL tV ((Y.take 3).map bpt)⟩)) (by omega)
  (fun j o hj hi=>?_) (fun j o hj hi=>?_) 0 [] ⟨Nat.zero_le _,by omega,by simp⟩
 ·obtain⟨_,h3,hi⟩:=hi
  have hlt:j < 3:=by omega
  have hj:j < Y.length:=by omega
  have hol:o.length=j:=by rw[hi];exact hm j (by omega) h3
  have hn:=y7 hlt (show 3≤4611686018427387904 by omega)
  have hb:=i5 hj
  have hT:(Y.take (j+1)).map bpt=o++[bpt (gL tW Y j)]:=by rw[Ea3 tW hj,List.map_append,← hi];rfl
  have hnext : ∀ {s : j5}, j < 3 → s = ⟨1, ((j + 1 : Nat) : Int), o.length + 1, bL tV (o ++ [bpt (gL tW Y j)])⟩ → Nx (.next s) (fun t => (Y = [] ∧ t = 2) ∨ (Y ≠ [] ∧ (t = 3 ∨ t = 4) ∧ ∃ j' : Int, (⟨phV o, (j : Int), o.length, bL tV o⟩ : j5) = ⟨1, j', ((Y.take 3).map bpt).length, bL tV ((Y.take 3).map bpt)⟩))
    (fun s=>∃ o',s=(⟨phV o',((j+1:Nat):Int),o'.length,bL tV o'⟩:j5)∧(j+1≤Y.length∧j+1≤3∧o'=(Y.take (j+1)).map bpt)):=fun {s} h3 hs=>.nx ⟨o++[bpt (gL tW Y j)],by rw[hs,rc9,List.length_append];rfl,by omega,by omega,hT.symm⟩
  cases o with
  | nil =>
   have hj0:j=0:=by rw[← hol];rfl
   subst hj0
   show Nx (B1 Stp.next Stp.exit Stp.fail _ _) _ _
   simp only[B1,Int.toNat_natCast,hn,hb]
   rw[btD (l5 hj),btD (show ((0:Nat):Int) < 3 by omega)]
   exact hnext (by omega) rfl
  | cons q o =>
   have rr:(Nat.beq (q::o).length (len (bL tV (q::o)))&&Nat.ble (((q::o).length+1)*24) room)=true:=nd8 rfl (by omega)
   show Nx (o4 Stp.next Stp.exit Stp.fail _ _) _ _
   have e:o4 Stp.next Stp.exit Stp.fail ⟨Y,bs,A,z.b0,z.b1,z.b2⟩ ⟨phV (q::o),(j:Int),(q::o).length,bL tV (q::o)⟩=.next ⟨1,((j+1:Nat):Int),(q::o).length+1,bL tV (q::o++[bpt (gL tW Y j)])⟩:=by
    simp only[o4,Int.toNat_natCast,hn,hb,rr]
    rw[btD (l5 hj),btD (show (j:Int) < 3 by omega),← Ke5]
    rfl
   rw[e]
   exact hnext hlt rfl
 ·obtain⟨hje,h3,hi⟩:=hi
  by_cases hlt:j < Y.length
  ·have hj3:j=3:=by omega
   subst hj3
   have hol:o.length=3:=by rw[hi];exact hm 3 hje (by omega)
   cases o with
   | nil=>simp at hol
   | cons q o =>
    refine⟨3,?_,.inr ⟨fun e=>?_,.inl rfl,((3:Nat):Int),?_⟩⟩
    ·show o4 Stp.next Stp.exit Stp.fail _ _=_
     simp only[o4]
     rw[btD (l5 hlt),bfD (show ¬ ((3:Nat):Int) < 3 by omega)]
    ·rw[e] at hlt;simp at hlt
    ·rw[← hi];rfl
  have hje:j=Y.length:=by omega
  subst hje
  rw[List.take_length] at hi
  cases o with
  | nil =>
   have hY0:Y=[]:=List.map_eq_nil_iff.1 hi.symm
   refine⟨2,?_,.inl ⟨hY0,rfl⟩⟩
   show B1 Stp.next Stp.exit Stp.fail _ _=_
   simp only[B1]
   rw[bfD (p5 (Nat.lt_irrefl _))]
  | cons q o =>
   have e3:(Y.take 3).map bpt=q::o:=by rw[hi,List.take_of_length_le h3]
   refine⟨4,?_,.inr ⟨fun e=>?_,.inr rfl,((Y.length:Nat):Int),?_⟩⟩
   ·show o4 Stp.next Stp.exit Stp.fail _ _=_
    simp only[o4]
    rw[bfD (p5 (Nat.lt_irrefl _))]
   ·rw[e] at hi;cases hi
   ·rw[e3];rfl
theorem Qd2 (P : J8) (B V : List V3) (x : V3) (h1 : P.Pa0 = V) (h2 : P.eh0 = bL tV B) (h3 : P.sd1 = (B.length : Int)) (h5 : P.Jd0 = B.length) (h4 : P.C9 = x.x ∧ P.D0 = x.y ∧ P.D1 = x.z) (hB : B.length ≤ 1000)
  (hh:∀ y∈B,ra0 V (f7 x y)=true∧ra1 V (f7 x y)=true):(lp (I1 P) ⟨0⟩).1=2:=by
 have h:=ac6 (step:=I1 P) (mk:=fun j=>(⟨(j:Int)⟩:s9)) (c:=fun _=>false) (u:=1) (fin:=2) tV B (by omega)
  (fun j hj=>by
   obtain⟨k1,k2⟩:=hh _ (eb9 tV hj)
   simp only[I1,M2,h1,h2,h3,h5,h4.1,h4.2.1,h4.2.2,Int.toNat_natCast,p9,Ua0,ec0 hj,Dc6 hj,y7 hj (show B.length≤4611686018427387904 by omega)]
   rw[btD (l5 hj),bt (i5 hj)]
   rw[show (⟨x.x,x.y,x.z⟩:V3)=x from rfl,k1,k2]
   rfl)
  (by simp only[I1,M2,h3];rw[bfD (p5 (Nat.lt_irrefl _))]) 0 (Nat.zero_le _)
 rw[show (⟨0⟩:s9)=⟨((0:Nat):Int)⟩ from rfl,h,List.drop_zero,show (B.any fun _=>false)=false by simp]
 rfl
theorem Uc3 (bs : Bool) (A B V : List V3) (hA : A.length ≤ 1000) (hB : B.length ≤ 1000)
  (hh:∀ x∈A,∀ y∈B,ra0 V (f7 x y)=true∧ra1 V (f7 x y)=true) :
  ∃ s,lp (s6 ⟨bs,B.length,(A.length:Int),bL tV B⟩) ⟨A,V,A,0⟩=(2,s)∧s.L6=A:=by
 obtain⟨t,s,h,rfl,h1⟩:=T1 (step:=s6 ⟨bs,B.length,(A.length:Int),bL tV B⟩) (mk:=fun j (_:Unit)=>(⟨A,V,A,(j:Int)⟩:u7)) A.length (fun _ _=>True) (fun t s=>t=2∧s.L6=A) (by omega)
  (fun j _ hj _=>by
   have hn:=y7 hj (show A.length≤4611686018427387904 by omega)
   have e:s6 ⟨bs,B.length,(A.length:Int),bL tV B⟩ ⟨A,V,A,(j:Int)⟩=.next ⟨A,V,A,((j+1:Nat):Int)⟩:=by
    simp only[s6,M3,Int.toNat_natCast,p9,l7,hn]
    rw[btD (l5 hj),bt (i5 hj),Qd2 _ B V (gL tV A j) rfl rfl rfl rfl ⟨rfl,rfl,rfl⟩ hB (hh _ (eb9 tV hj))]
    rfl
   rw[e]
   exact .nx ⟨(),rfl,trivial⟩)
  (fun j _ hj _=>by
   refine⟨2,?_,rfl,rfl⟩
   simp only[s6,M3]
   rw[bfD (by omega)]) 0 () trivial
 exact⟨s,h,h1⟩
end Go.Ev.Ce
