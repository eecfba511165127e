/- Own work: a part of the proof. -/
import Derived.Test.YtekgjjgbdcgldaaGreatEvOGe2
import Derived.Test.YtekgjjgbdcgldaaGreatEvOT0
import Derived.Test.YtekgjjgbdcgldaaGreatEvSp2
import Derived.ChangeStays
import Derived.ChangeSame
import Derived.OpenShut
import Derived.RowKit
import Derived.Test.YtekgjjgbdcgldaaGreatEvODM
import Derived.KernelRfl
set_option linter.unusedVariables false
set_option linter.unusedSimpArgs false
set_option linter.unnecessarySimpa false
set_option linter.unusedSectionVars false
section
namespace Go.Ev.Ce
open Go Go.Ev Go.Ev.L Go.Proofs
set_option maxRecDepth 100000
structure ya9 where
 f7:List V3
 R4:List V3
noncomputable def Ia1:List (Nat×Sum):=[(34,vb8)]
theorem Vb8:j7 prog G Ia1:=⟨Qb7,trivial⟩
structure B6 where
 R4:List V3
 Y6:List V3
 T4:Int
 n9:Int
 ob6:List V3
 ed4:Int
 s6:Int
 s7:Int
 s8:Int
structure n8 where
 ph:Nat
 xa1:Int
 ns7:Nat
 eh0:List (List b7)
 eh1:List (List b7)
 ia4:Int
 ia5:Int
 ia6:Int
noncomputable def Eb5 (p:B6) (s:n8):St:=⟨(.unk::((eL tV p.R4)::((.fn 34 [])::(ra 4 ((.v (.slice none 0 0))::((.ptr 0 0 0 0)::(.unk::((.ptr 1 0 0 0)::(ra 4 ((eL tV p.Y6)::((i p.T4)::((i p.n9)::(ra 3 ((eL tV p.ob6)::((i p.ed4)::((i s.xa1)::(ra 20 []))))))))))))))))),[⟨153,0,[],true,false,0⟩,⟨0,3,[[(i p.s6),(i p.s7),(i p.s8)]],true,false,0⟩]⟩
noncomputable def Eb6 (p:B6) (s:n8):St:=⟨(.unk::((eL tV p.R4)::((.fn 34 [])::(ra 4 ((.sl 0 0 s.ns7 0)::((.ptr 1 0 0 0)::(.unk::((.ptr 2 0 0 0)::(ra 4 ((eL tV p.Y6)::((i p.T4)::((i p.n9)::(ra 3 ((eL tV p.ob6)::((i p.ed4)::((i s.xa1)::(ra 20 []))))))))))))))))),[⟨27,3,s.eh0,true,false,0⟩,⟨153,0,s.eh1,true,false,0⟩,⟨0,3,[[(i s.ia4),(i s.ia5),(i s.ia6)]],true,false,0⟩]⟩
noncomputable def Mb2 (p:B6) (s:n8):St:=(sel (Nat.beq s.ph 1) (Eb6 p s) (Eb5 p s))
noncomputable def J2 {α:Type} (k:n8→α) (e:Nat→α) (z:α) (p:B6) (s:n8):α:=let t1:=(e8 (⟨p.s6,p.s7,p.s8⟩:V3) (gL tV p.ob6 s.xa1.toNat));(sl (decide (s.xa1 < p.ed4)) (sl (inB s.xa1 (List.length p.ob6)) (sl (!(Aa0 3 [(0,(.int .i64)),(1,(.int .i64)),(2,(.int .i64))] [(i t1.x),(i t1.y),(i t1.z)] [])) (k ⟨1,(W (s.xa1+1)),1,[[(i t1.x),(i t1.y),(i t1.z)]],(T9 [(0,(.int .i64)),(1,(.int .i64)),(2,(.int .i64))] [(i t1.x),(i t1.y),(i t1.z)] [(i t1.x),(i t1.y),(i t1.z),(b true)] []),p.s6,p.s7,p.s8⟩) (k ⟨0,(W (s.xa1+1)),0,[],[],0,0,0⟩)) z) (e 1))
noncomputable def J3 {α:Type} (k:n8→α) (e:Nat→α) (z:α) (p:B6) (s:n8):α:=let t1:=(e8 (⟨s.ia4,s.ia5,s.ia6⟩:V3) (gL tV p.ob6 s.xa1.toNat));(sl (decide (s.xa1 < p.ed4)) (sl (inB s.xa1 (List.length p.ob6)) (sl (!(Aa0 3 [(0,(.int .i64)),(1,(.int .i64)),(2,(.int .i64))] [(i t1.x),(i t1.y),(i t1.z)] s.eh1)) (sl (Nat.beq s.ns7 (len s.eh0)&&Nat.ble ((s.ns7+1)*24) room) (k ⟨1,(W (s.xa1+1)),(s.ns7+1),(app s.eh0 [[(i t1.x),(i t1.y),(i t1.z)]]),(T9 [(0,(.int .i64)),(1,(.int .i64)),(2,(.int .i64))] [(i t1.x),(i t1.y),(i t1.z)] [(i t1.x),(i t1.y),(i t1.z),(b true)] s.eh1),s.ia4,s.ia5,s.ia6⟩) z) (k ⟨1,(W (s.xa1+1)),s.ns7,s.eh0,s.eh1,s.ia4,s.ia5,s.ia6⟩)) z) (e 2))
noncomputable def G9 (p:B6) (s:n8):Stp n8:=(sel (Nat.beq s.ph 1) (J3 .next .exit .fail p s) (J2 .next .exit .fail p s))
noncomputable def Fa0:Lo B6 n8:=⟨En Ia1,0,Ge2,[1,1,1,0,1,4,4,1,1,0,4,1,1,4,4],[1,2,7,8,10,15,16,17,21,22,23],.p,[⟨((.s (.o .unk))::((.s (.c 3 (nL tV)))::((.s (.o (.fn 34)))::(ru2 4 ((.s (.o .nil))::((.s (.o (.ptr 0 0 0 0)))::((.s (.o .unk))::((.s (.o (.ptr 1 0 0 0)))::(ru2 4 ((.s (.c 3 (nL tV)))::((.s (.o (.int .i64)))::((.s (.o (.int .i64)))::(ru2 3 ((.s (.c 3 (nL tV)))::((.s (.o (.int .i64)))::((.s (.o (.int .i64)))::(ru2 20 []))))))))))))))))),[⟨153,0,true,(some [])⟩,⟨0,3,true,(some [[(.o (.int .i64)),(.o (.int .i64)),(.o (.int .i64))]])⟩],fun a H=>(⟨(rL tV (slT a 1)),(rL tV (slT a 15)),(toI (slT a 16)),(toI (slT a 17)),(rL tV (slT a 21)),(toI (slT a 22)),(toI (slT (rwT (elT H 1) 0) 0)),(toI (slT (rwT (elT H 1) 0) 1)),(toI (slT (rwT (elT H 1) 0) 2))⟩,⟨0,(toI (slT a 23)),0,[],[],0,0,0⟩)⟩,⟨((.s (.o .unk))::((.s (.c 3 (nL tV)))::((.s (.o (.fn 34)))::(ru2 4 ((.s (.o (.sl 0 0 (some 0) none)))::((.s (.o (.ptr 1 0 0 0)))::((.s (.o .unk))::((.s (.o (.ptr 2 0 0 0)))::(ru2 4 ((.s (.c 3 (nL tV)))::((.s (.o (.int .i64)))::((.s (.o (.int .i64)))::(ru2 3 ((.s (.c 3 (nL tV)))::((.s (.o (.int .i64)))::((.s (.o (.int .i64)))::(ru2 20 []))))))))))))))))),[⟨27,3,true,none⟩,⟨153,0,true,none⟩,⟨0,3,true,(some [[(.o (.int .i64)),(.o (.int .i64)),(.o (.int .i64))]])⟩],fun a H=>(⟨(rL tV (slT a 1)),(rL tV (slT a 15)),(toI (slT a 16)),(toI (slT a 17)),(rL tV (slT a 21)),(toI (slT a 22)),0,0,0⟩,⟨1,(toI (slT a 23)),(slN (slT a 7)),(elT H 0),(elT H 1),(toI (slT (rwT (elT H 2) 0) 0)),(toI (slT (rwT (elT H 2) 0) 1)),(toI (slT (rwT (elT H 2) 0) 2))⟩)⟩],G9,[(some 2,fun p s=>⟨(.unk::((eL tV p.R4)::((.fn 34 [])::(ra 4 ((.v (.slice none 0 0))::((.ptr 0 0 0 0)::(.unk::((.ptr 1 0 0 0)::(ra 4 ((eL tV p.Y6)::((i p.T4)::((i p.n9)::(ra 3 ((eL tV p.ob6)::((i p.ed4)::((i s.xa1)::((b (decide (s.xa1 < p.ed4)))::(ra 19 [])))))))))))))))))),[⟨153,0,[],true,false,0⟩,⟨0,3,[[(i p.s6),(i p.s7),(i p.s8)]],true,false,0⟩]⟩),(some 2,fun p s=>⟨(.unk::((eL tV p.R4)::((.fn 34 [])::(ra 4 ((.sl 0 0 s.ns7 0)::((.ptr 1 0 0 0)::(.unk::((.ptr 2 0 0 0)::(ra 4 ((eL tV p.Y6)::((i p.T4)::((i p.n9)::(ra 3 ((eL tV p.ob6)::((i p.ed4)::((i s.xa1)::((b (decide (s.xa1 < p.ed4)))::(ra 19 [])))))))))))))))))),[⟨27,3,s.eh0,true,false,0⟩,⟨153,0,s.eh1,true,false,0⟩,⟨0,3,[[(i s.ia4),(i s.ia5),(i s.ia6)]],true,false,0⟩]⟩)],Mb2⟩
theorem Mb3:Fa0.OkM:=Lo.okM [] (by kernel_rfl) .nil rfl (.cons (fun a H=>by kernel_rfl) (.cons (fun a H=>by kernel_rfl) .nil)) fun p s=>(.sel (Nat.beq s.ph 1) (.of @J3 (fun F _ _ _ _ _=>by unfold J3;(repeat' apply n7 (f:=F))<;>rfl) (by kernel_rfl)) (.of @J2 (fun F _ _ _ _ _=>by unfold J2;(repeat' apply n7 (f:=F))<;>rfl) (by kernel_rfl)))
structure J8 where
 T4:Int
structure p9 where
 ph:Nat
 R4:List V3
 Y6:List V3
 n9:Int
 ns7:Nat
 eh0:List (List b7)
 eh1:List (List b7)
noncomputable def Eb7 (p:J8) (s:p9):St:=⟨(.unk::((eL tV s.R4)::((.fn 34 [])::(ra 4 ((.v (.slice none 0 0))::((.ptr 0 0 0 0)::(ra 6 ((eL tV s.Y6)::((i p.T4)::((i s.n9)::(ra 26 []))))))))))),[⟨153,0,[],true,false,0⟩]⟩
noncomputable def Eb8 (p:J8) (s:p9):St:=⟨(.unk::((eL tV s.R4)::((.fn 34 [])::(ra 4 ((.sl 0 0 s.ns7 0)::((.ptr 1 0 0 0)::(ra 6 ((eL tV s.Y6)::((i p.T4)::((i s.n9)::(ra 26 []))))))))))),[⟨27,3,s.eh0,true,false,0⟩,⟨153,0,s.eh1,true,false,0⟩]⟩
noncomputable def Mb4 (p:J8) (s:p9):St:=(sel (Nat.beq s.ph 1) (Eb8 p s) (Eb7 p s))
noncomputable def J4 {α:Type} (k:p9→α) (e:Nat→α) (z:α) (p:J8) (s:p9):α:=let t1:=(lp (G9 (⟨(rt tV s.R4),(rt tV s.Y6),p.T4,s.n9,(rt tV s.R4),(↑(List.length s.R4):Int),(gL tV s.Y6 s.n9.toNat).x,(gL tV s.Y6 s.n9.toNat).y,(gL tV s.Y6 s.n9.toNat).z⟩:B6)) (⟨0,0,0,[],[],0,0,0⟩:n8));(sl (decide (s.n9 < p.T4)) (sl (inB s.n9 (List.length s.Y6)) (sl ((cnE tV s.R4)&&((cnE tV s.Y6)&&((cnE tV s.R4)&&true))) (sl (Nat.beq t1.1 1) (k ⟨0,(rt tV s.R4),(rt tV s.Y6),(W (s.n9+1)),0,[],[]⟩) (sl (Nat.beq t1.1 2) (k ⟨1,(rt tV s.R4),(rt tV s.Y6),(W (s.n9+1)),t1.2.ns7,t1.2.eh0,t1.2.eh1⟩) z)) z) z) (e 1))
noncomputable def J5 {α:Type} (k:p9→α) (e:Nat→α) (z:α) (p:J8) (s:p9):α:=let t1:=(lp (G9 (⟨(rt tV s.R4),(rt tV s.Y6),p.T4,s.n9,(rt tV s.R4),(↑(List.length s.R4):Int),0,0,0⟩:B6)) (⟨1,0,s.ns7,s.eh0,s.eh1,(gL tV s.Y6 s.n9.toNat).x,(gL tV s.Y6 s.n9.toNat).y,(gL tV s.Y6 s.n9.toNat).z⟩:n8));(sl (decide (s.n9 < p.T4)) (sl (inB s.n9 (List.length s.Y6)) (sl ((cnE tV s.R4)&&((cnE tV s.Y6)&&((cnE tV s.R4)&&true))) (sl (Nat.beq t1.1 1) (k ⟨0,(rt tV s.R4),(rt tV s.Y6),(W (s.n9+1)),0,[],[]⟩) (sl (Nat.beq t1.1 2) (k ⟨1,(rt tV s.R4),(rt tV s.Y6),(W (s.n9+1)),t1.2.ns7,t1.2.eh0,t1.2.eh1⟩) z)) z) z) (e 2))
noncomputable def ca7 (p:J8) (s:p9):Stp p9:=(sel (Nat.beq s.ph 1) (J5 .next .exit .fail p s) (J4 .next .exit .fail p s))
noncomputable def Fa1:Lo J8 p9:=⟨En Ia1,0,Ge2,[1,1,1,0,1,4,4],[1,2,7,8,15,16,17],(.s .p (.s .p (.s (.b (.s .p (.s .p (.b (.u Fa0.lsM))))) .p))),[⟨((.s (.o .unk))::((.s (.c 3 (nL tV)))::((.s (.o (.fn 34)))::(ru2 4 ((.s (.o .nil))::((.s (.o (.ptr 0 0 0 0)))::(ru2 6 ((.s (.c 3 (nL tV)))::((.s (.o (.int .i64)))::((.s (.o (.int .i64)))::(ru2 26 []))))))))))),[⟨153,0,true,(some [])⟩],fun a H=>(⟨(toI (slT a 16))⟩,⟨0,(rL tV (slT a 1)),(rL tV (slT a 15)),(toI (slT a 17)),0,[],[]⟩)⟩,⟨((.s (.o .unk))::((.s (.c 3 (nL tV)))::((.s (.o (.fn 34)))::(ru2 4 ((.s (.o (.sl 0 0 (some 0) none)))::((.s (.o (.ptr 1 0 0 0)))::(ru2 6 ((.s (.c 3 (nL tV)))::((.s (.o (.int .i64)))::((.s (.o (.int .i64)))::(ru2 26 []))))))))))),[⟨27,3,true,none⟩,⟨153,0,true,none⟩],fun a H=>(⟨(toI (slT a 16))⟩,⟨1,(rL tV (slT a 1)),(rL tV (slT a 15)),(toI (slT a 17)),(slN (slT a 7)),(elT H 0),(elT H 1)⟩)⟩],ca7,[(some 0,fun p s=>⟨(.unk::((eL tV s.R4)::((.fn 34 [])::(ra 4 ((.v (.slice none 0 0))::((.ptr 0 0 0 0)::(ra 6 ((eL tV s.Y6)::((i p.T4)::((i s.n9)::((b (decide (s.n9 < p.T4)))::(ra 25 [])))))))))))),[⟨153,0,[],true,false,0⟩]⟩),(some 0,fun p s=>⟨(.unk::((eL tV s.R4)::((.fn 34 [])::(ra 4 ((.sl 0 0 s.ns7 0)::((.ptr 1 0 0 0)::(ra 6 ((eL tV s.Y6)::((i p.T4)::((i s.n9)::((b (decide (s.n9 < p.T4)))::(ra 25 [])))))))))))),[⟨27,3,s.eh0,true,false,0⟩,⟨153,0,s.eh1,true,false,0⟩]⟩)],Mb4⟩
theorem Mb5:Fa1.OkM:=Lo.okM [Fa0.prM] (by kernel_rfl) (.cons Mb3 .nil) rfl (.cons (fun a H=>by kernel_rfl) (.cons (fun a H=>by kernel_rfl) .nil)) fun p s=>(.sel (Nat.beq s.ph 1) (.of @J5 (fun F _ _ _ _ _=>by unfold J5;(repeat' apply n7 (f:=F))<;>rfl) (by kernel_rfl)) (.of @J4 (fun F _ _ _ _ _=>by unfold J4;(repeat' apply n7 (f:=F))<;>rfl) (by kernel_rfl)))
structure za0 where
 alt:Nat
 ns0:Nat
 eh0:List (List b7)
noncomputable def ea8 {α:Type} (kk:za0→α) (x:ya9):α:=let t1:=(lp (ca7 (⟨(↑(List.length x.f7):Int)⟩:J8)) (⟨0,(rt tV x.R4),(rt tV x.f7),0,0,[],[]⟩:p9));(sl ((cnE tV x.R4)&&((cnE tV x.f7)&&true)) (sl (Nat.beq t1.1 1) (kk ⟨1,0,[]⟩) (sl (Nat.beq t1.1 2) (kk ⟨2,t1.2.ns7,t1.2.eh0⟩) (kk ⟨0,0,[]⟩))) (kk ⟨0,0,[]⟩))
noncomputable def Oa9 (x:ya9):za0:=ea8 (fun r=>r) x
noncomputable def Ia2 (x:ya9) (r:za0):DT (b7×List b9):=(.ite (Nat.beq r.alt 1) (.ret ((.v (.slice none 0 0)),[])) (.ite (Nat.beq r.alt 2) (.ret ((.sl 0 0 r.ns0 0),[⟨27,3,r.eh0,true,false,0⟩])) .fail))
theorem pc0 {α β:Type} (F:α→β) (kk:za0→α) (x:ya9):F (ea8 kk x)=ea8 (fun r=>F (kk r)) x:=by unfold ea8;(repeat' apply n7 (f:=F))<;>rfl
noncomputable def qb3:Sum:=Ua6 ⟨[(.s (.c 3 (nL tV))),(.s (.c 3 (nL tV))),(.s (.o (.fn 34)))],[],fun a H=>(⟨(rL tV (slT a 0)),(rL tV (slT a 1))⟩,())⟩ (fun x=>Ia2 x (Oa9 x))
theorem fc5:g8 prog G 79 qb3:=P8 (enc:=fun x=>⟨[(eL tV x.f7),(eL tV x.R4),(.fn 34 [])],[]⟩) (fun a H=>by kernel_rfl) (bd b79 Vb8) fun x=>md1 (.s .p (.s .p (.s .p (.s (.s .p (.b (.u Fa1.lsM))) .p)))) [Fa1.prM] (by kernel_rfl) (.cons Mb5 .nil) (Eq.trans (b:=ea8 (fun r=>(Ia2 x r).run) x) (by kernel_rfl) (pc0 (fun r=>(Ia2 x r).run) (fun r=>r) x).symm)
noncomputable def Ad9:List (Nat×Sum):=[(79,qb3),(35,qb2)]
theorem qd9:j7 prog G Ad9:=⟨fc5,fc4,trivial⟩
noncomputable def kb1 (x:List V3) (y:List V3):Option (b7×List b9):=let t1:=(Oa9 ⟨(rt tV x),(rt tV y)⟩);let t2:=(ya5 ());let t3:=(ya7 (slR tV t1.eh0 0 t1.ns0));(sl (decide ((if (↑(List.length y):Int) > (↑(List.length x):Int) then (↑(List.length y):Int) else (↑(List.length x):Int)) > 48)) (some ((.tup [(.v (.slice none 0 0)),(i 2)]),[])) (sl ((cnE tV x)&&((cnE tV y)&&true)) (sl (Nat.beq t1.alt 1) (sl (ya6 ()) (some ((.tup [(eL tV t2.1),(i t2.2)]),[])) none) (sl (Nat.beq t1.alt 2) (sl (okS tV t1.eh0 0 t1.ns0) (sl (ya8 (slR tV t1.eh0 0 t1.ns0)) (some ((.tup [(eL tV t3.1),(i t3.2)]),[])) none) none) none)) none))
noncomputable def Ia3 (x:List V3) (y:List V3):List V3×Int:=Y8 (two (r1L tV) r1I) (kb1 x y)
noncomputable def Ia4 (x:List V3) (y:List V3):Bool:=okO (two (r1L tV) r1I) (kb1 x y)
noncomputable def fc6:Sum:=pa4 (Ba0 tV) (Ba0 tV) (fun x y=>.guard (Ia4 x y) (.ret ((two (r1L tV) r1I).enc (Ia3 x y),[])))
theorem Ec8:g8 prog G 28 fc6:=ub6 (bd b28 qd9) (two (r1L tV) r1I) (o:=kb1) fun x y=>A4 (by kernel_rfl)
noncomputable def yb7:List (Nat×Sum):=[(83,La5)]
theorem pc1:j7 prog G yb7:=⟨Qa4,trivial⟩
structure ma7 where
 f7:List V3
 V1:List V3
 sd8:Int
 c9:Int
 c7:Int
 d7:Int
structure P5 where
 is6:Int
 Nc4:Int
noncomputable def fc7 (p:ma7) (s:P5):St:=⟨((eL tV p.f7)::(.unk::(.unk::((.ptr 0 0 0 0)::(.unk::(.unk::((i s.is6)::(ra 3 ((eL tV p.V1)::((i p.sd8)::((i s.Nc4)::(ra 20 [])))))))))))),[⟨0,3,[[(i p.c9),(i p.c7),(i p.d7)]],true,false,0⟩]⟩
noncomputable def ga4 {α:Type} (k:P5→α) (e:Nat→α) (z:α) (p:ma7) (s:P5):α:=let t1:=(z8 (gL tV p.V1 s.Nc4.toNat) (⟨p.c9,p.c7,p.d7⟩:V3));(sl (decide (s.Nc4 < p.sd8)) (sl (inB s.Nc4 (List.length p.V1)) (sl (s.Nc4==0) (k ⟨t1,(W (s.Nc4+1))⟩) (sl (decide (t1 > s.is6)) (k ⟨t1,(W (s.Nc4+1))⟩) (k ⟨s.is6,(W (s.Nc4+1))⟩))) z) (e 1))
noncomputable def ba5 (p:ma7) (s:P5):Stp P5:=ga4 .next .exit .fail p s
noncomputable def Pa0:Lo ma7 P5:=⟨En yb7,0,Oe3,[1,1,0,1,4,4],[0,3,6,10,11,12],.p,[⟨((.s (.c 3 (nL tV)))::((.s (.o .unk))::((.s (.o .unk))::((.s (.o (.ptr 0 0 0 0)))::((.s (.o .unk))::((.s (.o .unk))::((.s (.o (.int .i64)))::(ru2 3 ((.s (.c 3 (nL tV)))::((.s (.o (.int .i64)))::((.s (.o (.int .i64)))::(ru2 20 [])))))))))))),[⟨0,3,true,(some [[(.o (.int .i64)),(.o (.int .i64)),(.o (.int .i64))]])⟩],fun a H=>(⟨(rL tV (slT a 0)),(rL tV (slT a 10)),(toI (slT a 11)),(toI (slT (rwT (elT H 0) 0) 0)),(toI (slT (rwT (elT H 0) 0) 1)),(toI (slT (rwT (elT H 0) 0) 2))⟩,⟨(toI (slT a 6)),(toI (slT a 12))⟩)⟩],ba5,[(some 0,fun p s=>⟨((eL tV p.f7)::(.unk::(.unk::((.ptr 0 0 0 0)::(.unk::(.unk::((i s.is6)::(ra 3 ((eL tV p.V1)::((i p.sd8)::((i s.Nc4)::((b (decide (s.Nc4 < p.sd8)))::(ra 19 []))))))))))))),[⟨0,3,[[(i p.c9),(i p.c7),(i p.d7)]],true,false,0⟩]⟩)],fc7⟩
theorem fc8:Pa0.Ok:=Lo.ok [] (by kernel_rfl) .nil rfl (.cons (fun a H=>by kernel_rfl) .nil) fun p s=>(.of @ga4 (fun F _ _ _ _ _=>by unfold ga4;(repeat' apply n7 (f:=F))<;>rfl) (by kernel_rfl))
noncomputable def wa8 (x:List V3) (y:V3):Option (b7×List b9):=let t1:=(lp (ba5 (⟨(rt tV x),(rt tV x),(↑(List.length x):Int),y.x,y.y,y.z⟩:ma7)) (⟨0,0⟩:P5));(sl ((cnE tV x)&&((cnE tV x)&&true)) (sl (Nat.beq t1.1 1) (some ((.tup [(i t1.2.is6),(b (decide ((↑(List.length (rt tV x)):Int) > 0)))]),[])) none) none)
noncomputable def wa9 (x:List V3) (y:V3):Int×Bool:=Y8 (two r1I r1B) (wa8 x y)
noncomputable def xa0 (x:List V3) (y:V3):Bool:=okO (two r1I r1B) (wa8 x y)
noncomputable def Hb9:Sum:=pa4 (Ba0 tV) (R7 tV) (fun x y=>.guard (xa0 x y) (.ret ((two r1I r1B).enc (wa9 x y),[])))
theorem Ec9:g8 prog G 31 Hb9:=ub6 (bd b31 pc1) (two r1I r1B) (o:=wa8) fun x y=>Qa3 (.s .p (.s .p (.s (.s .p (.b (.u Pa0.ls))) .p))) [Pa0.pr] (by kernel_rfl) (.cons fc8 .nil) (by kernel_rfl)
end Go.Ev.Ce
end
section
namespace Go.Ev.Ce
open Go Go.Ev Go.Ev.L Go.Proofs
set_option maxRecDepth 100000
structure Sa1 where
 da0:Int
 da1:Int
 da2:Int
 Ib5:Int
 c9:Int
 c7:Int
 d7:Int
noncomputable def Mc9:List (Nat×Sum):=[(88,Da0)]
theorem Fc0:j7 prog G Mc9:=⟨Ja4,trivial⟩
structure Sa2 where
 alt:Nat
 bs0:Bool
noncomputable def ta5 {α:Type} (kk:Sa2→α) (x:Sa1):α:=let t1:=(fa3 (⟨(⟨x.da0,x.da1,x.da2⟩:V3),x.Ib5⟩:Pln) (⟨x.c9,x.c7,x.d7⟩:V3));(sl (fa4 (⟨(⟨x.da0,x.da1,x.da2⟩:V3),x.Ib5⟩:Pln) (⟨x.c9,x.c7,x.d7⟩:V3)) (kk ⟨1,(decide (t1 > 0))⟩) (kk ⟨0,false⟩))
noncomputable def Sa3 (x:Sa1):Sa2:=ta5 (fun r=>r) x
noncomputable def gb3 (x:Sa1) (r:Sa2):DT (b7×List b9):=(.ite (Nat.beq r.alt 1) (.ret ((b r.bs0),[⟨0,3,[[(i x.c9),(i x.c7),(i x.d7)]],true,false,0⟩])) .fail)
theorem dd1 {α β:Type} (F:α→β) (kk:Sa2→α) (x:Sa1):F (ta5 kk x)=ta5 (fun r=>F (kk r)) x:=by unfold ta5;(repeat' apply n7 (f:=F))<;>rfl
noncomputable def Vb9:Sum:=Ua6 ⟨[(.agg [(.o (.int .i64)),(.o (.int .i64)),(.o (.int .i64)),(.o (.int .i64))]),(.s (.o (.ptr 0 0 0 0)))],[⟨0,3,true,(some [[(.o (.int .i64)),(.o (.int .i64)),(.o (.int .i64))]])⟩],fun a H=>(⟨(toI (slT (cellsOf (slT a 0)) 0)),(toI (slT (cellsOf (slT a 0)) 1)),(toI (slT (cellsOf (slT a 0)) 2)),(toI (slT (cellsOf (slT a 0)) 3)),(toI (slT (rwT (elT H 0) 0) 0)),(toI (slT (rwT (elT H 0) 0) 1)),(toI (slT (rwT (elT H 0) 0) 2))⟩,())⟩ (fun x=>gb3 x (Sa3 x))
theorem Nc0:g8 prog G 87 Vb9:=P8 (enc:=fun x=>⟨[(.agg [(i x.da0),(i x.da1),(i x.da2),(i x.Ib5)]),(.ptr 0 0 0 0)],[⟨0,3,[[(i x.c9),(i x.c7),(i x.d7)]],true,false,0⟩]⟩) (fun a H=>by kernel_rfl) (bd b87 Fc0) fun x=>A4 (Eq.trans (b:=ta5 (fun r=>(gb3 x r).run) x) (by kernel_rfl) (dd1 (fun r=>(gb3 x r).run) (fun r=>r) x).symm)
structure Q4 where
 n5:List Pln
 c9:Int
 c7:Int
 d7:Int
noncomputable def ra2:List (Nat×Sum):=[(87,Vb9)]
theorem Sa4:j7 prog G ra2:=⟨Nc0,trivial⟩
structure E5 where
 n5:List Pln
 is7:Int
 c9:Int
 c7:Int
 d7:Int
structure l9 where
 is8:Int
noncomputable def Pa1 (p:E5) (s:l9):St:=⟨((eL tP p.n5)::((.fn 87 [(.ptr 0 0 0 0)])::(ra 5 ((i p.is7)::((i s.is8)::(ra 10 [])))))),[⟨0,3,[[(i p.c9),(i p.c7),(i p.d7)]],true,false,0⟩]⟩
noncomputable def C3 {α:Type} (k:l9→α) (e:Nat→α) (z:α) (p:E5) (s:l9):α:=let t1:=(Sa3 ⟨(gL tP p.n5 s.is8.toNat).n.x,(gL tP p.n5 s.is8.toNat).n.y,(gL tP p.n5 s.is8.toNat).n.z,(gL tP p.n5 s.is8.toNat).b,p.c9,p.c7,p.d7⟩);(sl (decide (s.is8 < p.is7)) (sl (inB s.is8 (List.length p.n5)) (sl (Nat.beq t1.alt 1) (sl t1.bs0 (e 1) (k ⟨(W (s.is8+1))⟩)) z) z) (e 2))
noncomputable def D2 (p:E5) (s:l9):Stp l9:=C3 .next .exit .fail p s
noncomputable def aa3:Lo E5 l9:=⟨En ra2,1,Yd8,[1,0,1,4,4],[0,1,7,8],.p,[⟨((.s (.c 4 (nL tP)))::((.fn 87 [(.o (.ptr 0 0 0 0))])::(ru2 5 ((.s (.o (.int .i64)))::((.s (.o (.int .i64)))::(ru2 10 [])))))),[⟨0,3,true,(some [[(.o (.int .i64)),(.o (.int .i64)),(.o (.int .i64))]])⟩],fun a H=>(⟨(rL tP (slT a 0)),(toI (slT a 7)),(toI (slT (rwT (elT H 0) 0) 0)),(toI (slT (rwT (elT H 0) 0) 1)),(toI (slT (rwT (elT H 0) 0) 2))⟩,⟨(toI (slT a 8))⟩)⟩],D2,[(none,fun p s=>⟨[(i s.is8)],[⟨0,3,[[(i p.c9),(i p.c7),(i p.d7)]],true,false,0⟩]⟩),(some 0,fun p s=>⟨((eL tP p.n5)::((.fn 87 [(.ptr 0 0 0 0)])::(ra 5 ((i p.is7)::((i s.is8)::((b (decide (s.is8 < p.is7)))::(ra 9 []))))))),[⟨0,3,[[(i p.c9),(i p.c7),(i p.d7)]],true,false,0⟩]⟩)],Pa1⟩
theorem Pa2:aa3.Ok:=Lo.ok [] (by kernel_rfl) .nil rfl (.cons (fun a H=>by kernel_rfl) .nil) fun p s=>(.of @C3 (fun F _ _ _ _ _=>by unfold C3;(repeat' apply n7 (f:=F))<;>rfl) (by kernel_rfl))
structure Q5 where
 alt:Nat
 is0:Int
noncomputable def C6 {α:Type} (kk:Q5→α) (x:Q4):α:=let t1:=(lp (D2 (⟨(rt tP x.n5),(↑(List.length x.n5):Int),x.c9,x.c7,x.d7⟩:E5)) (⟨0⟩:l9));(sl ((cnE tP x.n5)&&true) (sl (Nat.beq t1.1 1) (kk ⟨1,t1.2.is8⟩) (sl (Nat.beq t1.1 2) (kk ⟨1,(-1)⟩) (kk ⟨0,0⟩))) (kk ⟨0,0⟩))
noncomputable def Q6 (x:Q4):Q5:=C6 (fun r=>r) x
noncomputable def ca8 (x:Q4) (r:Q5):DT (b7×List b9):=(.ite (Nat.beq r.alt 1) (.ret ((i r.is0),[⟨0,3,[[(i x.c9),(i x.c7),(i x.d7)]],true,false,0⟩])) .fail)
theorem ab7 {α β:Type} (F:α→β) (kk:Q5→α) (x:Q4):F (C6 kk x)=C6 (fun r=>F (kk r)) x:=by unfold C6;(repeat' apply n7 (f:=F))<;>rfl
noncomputable def ta8:Sum:=Ua6 ⟨[(.s (.c 4 (nL tP))),(.fn 87 [(.o (.ptr 0 0 0 0))])],[⟨0,3,true,(some [[(.o (.int .i64)),(.o (.int .i64)),(.o (.int .i64))]])⟩],fun a H=>(⟨(rL tP (slT a 0)),(toI (slT (rwT (elT H 0) 0) 0)),(toI (slT (rwT (elT H 0) 0) 1)),(toI (slT (rwT (elT H 0) 0) 2))⟩,())⟩ (fun x=>ca8 x (Q6 x))
theorem Za4:g8 prog G 139 ta8:=P8 (enc:=fun x=>⟨[(eL tP x.n5),(.fn 87 [(.ptr 0 0 0 0)])],[⟨0,3,[[(i x.c9),(i x.c7),(i x.d7)]],true,false,0⟩]⟩) (fun a H=>by kernel_rfl) (bd Re5 Sa4) fun x=>Qa3 (.s .p (.s (.s .p (.b (.u aa3.ls))) .p)) [aa3.pr] (by kernel_rfl) (.cons Pa2 .nil) (Eq.trans (b:=C6 (fun r=>(ca8 x r).run) x) (by kernel_rfl) (ab7 (fun r=>(ca8 x r).run) (fun r=>r) x).symm)
structure L3 where
 n5:List Pln
 c9:Int
 c7:Int
 d7:Int
noncomputable def Ma1:List (Nat×Sum):=[(139,ta8)]
theorem Ia5:j7 prog G Ma1:=⟨Za4,trivial⟩
structure L4 where
 alt:Nat
 bs0:Bool
noncomputable def y5 {α:Type} (kk:L4→α) (x:L3):α:=let t1:=(Q6 ⟨(rt tP x.n5),x.c9,x.c7,x.d7⟩);(sl ((cnE tP x.n5)&&true) (sl (Nat.beq t1.alt 1) (kk ⟨1,(decide (t1.is0≥0))⟩) (kk ⟨0,false⟩)) (kk ⟨0,false⟩))
noncomputable def L5 (x:L3):L4:=y5 (fun r=>r) x
noncomputable def U8 (x:L3) (r:L4):DT (b7×List b9):=(.ite (Nat.beq r.alt 1) (.ret ((b r.bs0),[⟨0,3,[[(i x.c9),(i x.c7),(i x.d7)]],true,false,0⟩])) .fail)
theorem Pa3 {α β:Type} (F:α→β) (kk:L4→α) (x:L3):F (y5 kk x)=y5 (fun r=>F (kk r)) x:=by unfold y5;(repeat' apply n7 (f:=F))<;>rfl
noncomputable def ma8:Sum:=Ua6 ⟨[(.s (.c 4 (nL tP))),(.fn 87 [(.o (.ptr 0 0 0 0))])],[⟨0,3,true,(some [[(.o (.int .i64)),(.o (.int .i64)),(.o (.int .i64))]])⟩],fun a H=>(⟨(rL tP (slT a 0)),(toI (slT (rwT (elT H 0) 0) 0)),(toI (slT (rwT (elT H 0) 0) 1)),(toI (slT (rwT (elT H 0) 0) 2))⟩,())⟩ (fun x=>U8 x (L5 x))
theorem Ma2:g8 prog G 86 ma8:=P8 (enc:=fun x=>⟨[(eL tP x.n5),(.fn 87 [(.ptr 0 0 0 0)])],[⟨0,3,[[(i x.c9),(i x.c7),(i x.d7)]],true,false,0⟩]⟩) (fun a H=>by kernel_rfl) (bd b86 Ia5) fun x=>A4 (Eq.trans (b:=y5 (fun r=>(U8 x r).run) x) (by kernel_rfl) (Pa3 (fun r=>(U8 x r).run) (fun r=>r) x).symm)
noncomputable def rd0:List (Nat×Sum):=[(64,Hb8),(85,Va5),(86,ma8)]
theorem dd2:j7 prog G rd0:=⟨Ec7,cb2,Ma2,trivial⟩
noncomputable def Za5 (x:List V3) (y:V3):Option (b7×List b9):=let t1:=(Ka7 (rt tV x));let t2:=(ka0 y);let t3:=(L5 ⟨(rt tP t1.1),y.x,y.y,y.z⟩);(sl (okE tV x) (sl (gb2 (rt tV x)) (sl (t1.2==0) (sl (ka1 y) (sl t2 (sl ((cnE tP t1.1)&&true) (sl (Nat.beq t3.alt 1) (some ((b (!t3.bs0)),[])) none) none) (some ((b false),[]))) none) (some ((b false),[]))) none) none)
noncomputable def ra3 (x:List V3) (y:V3):Bool:=Y8 (one r1B) (Za5 x y)
noncomputable def ra4 (x:List V3) (y:V3):Bool:=okO (one r1B) (Za5 x y)
noncomputable def Fc1:Sum:=pa4 (Ba0 tV) (R7 tV) (fun x y=>.guard (ra4 x y) (.ret ((one r1B).enc (ra3 x y),[])))
theorem rd1:g8 prog G 33 Fc1:=ub6 (bd b33 dd2) (one r1B) (o:=Za5) fun x y=>A4 (by kernel_rfl)
end Go.Ev.Ce
end
section
namespace Go.Ev.Ce
open Go Go.Ev Go.Ev.L Go.Proofs
set_option maxRecDepth 100000
structure fe8 where
 n5:List Pln
 is2:Int
 c9:Int
 c7:Int
 d7:Int
structure fe9 where
 ph:Nat
 is9:Int
 ns8:Nat
 eh1:List (List b7)
structure me1 where
 f7:List V3
 c9:Int
 c7:Int
 d7:Int
structure me2 where
 is5:Int
structure Be8 where
 f7:List V3
 c9:Int
 c7:Int
 d7:Int
structure Be9 where
 is5:Int
structure ge0 where
 n5:List Pln
 c9:Int
 c7:Int
 d7:Int
structure ge1 where
 ph:Nat
 is6:Int
 ns5:Nat
 eh1:List (List b7)
structure ge2 where
 ns5:Nat
 is7:Int
 is8:Int
 eh0:List (List b7)
structure ge3 where
 ph:Nat
 is9:Int
structure ge4 where
 is7:Int
structure ge5 where
 ph:Nat
 ns5:Nat
 is8:Int
 eh0:List (List b7)
structure ge6 where
structure ge7 where
 ph:Nat
 is7:Int
 ns5:Nat
 eh0:List (List b7)
structure Sd4 where
 f7:List V3
 Ce9:List Pln
structure Sd5 where
 ph:Nat
 is7:Int
 ef1:List V3
structure Ce0 where
 f7:List V3
 R4:List V3
 is7:Int
structure Ce1 where
 ph:Nat
 is8:Int
 ns6:Nat
 eh0:List (List b7)
structure Ce2 where
structure Ce3 where
 ph:Nat
 f7:List V3
 R4:List V3
 is7:Int
 ns6:Nat
 eh0:List (List b7)
structure Sd6 where
 f7:List V3
 c9:Int
 c7:Int
 d7:Int
structure Sd7 where
 is6:Int
 is7:Int
noncomputable def qb4:List (Nat×Sum):=[]
theorem fc9:j7 prog G qb4:=trivial
structure ja6 where
 f7:List V3
 R4:List V3
structure I4 where
 is5:Int
noncomputable def Wb0 (p:ja6) (s:I4):St:=⟨((eL tV p.f7)::((eL tV p.R4)::(ra 3 ((i s.is5)::(ra 20 []))))),[]⟩
noncomputable def ca9 {α:Type} (k:I4→α) (e:Nat→α) (z:α) (p:ja6) (s:I4):α:=(sl (decide (s.is5 < (↑(List.length p.f7):Int))) (sl (inB s.is5 (List.length p.f7)) (sl (inB s.is5 (List.length p.R4)) (sl (!(((gL tV p.f7 s.is5.toNat).x==(gL tV p.R4 s.is5.toNat).x)&&(((gL tV p.f7 s.is5.toNat).y==(gL tV p.R4 s.is5.toNat).y)&&(((gL tV p.f7 s.is5.toNat).z==(gL tV p.R4 s.is5.toNat).z)&&true)))) (e 1) (k ⟨(W (s.is5+1))⟩)) z) z) (e 2))
noncomputable def ga5 (p:ja6) (s:I4):Stp I4:=ca9 .next .exit .fail p s
noncomputable def Ia6:Lo ja6 I4:=⟨En qb4,0,Oe2,[1,1,0,1,4,4],[0,1,5],.p,[⟨((.s (.c 3 (nL tV)))::((.s (.c 3 (nL tV)))::(ru2 3 ((.s (.o (.int .i64)))::(ru2 20 []))))),[],fun a H=>(⟨(rL tV (slT a 0)),(rL tV (slT a 1))⟩,⟨(toI (slT a 5))⟩)⟩],ga5,[(none,fun p s=>⟨[(b false)],[]⟩),(some 0,fun p s=>⟨((eL tV p.f7)::((eL tV p.R4)::(ra 3 ((i s.is5)::(ra 5 ((i s.is5)::((eL tV p.f7)::((i (↑(List.length p.f7):Int))::((b (decide (s.is5 < (↑(List.length p.f7):Int))))::(ra 11 [])))))))))),[]⟩)],Wb0⟩
theorem Wb1:Ia6.Ok:=Lo.ok [] (by kernel_rfl) .nil rfl (.cons (fun a H=>by kernel_rfl) .nil) fun p s=>(.of @ca9 (fun F _ _ _ _ _=>by unfold ca9;(repeat' apply n7 (f:=F))<;>rfl) (by kernel_rfl))
noncomputable def ra5 (x:List V3) (y:List V3):Option (b7×List b9):=let t1:=(lp (ga5 (⟨(rt tV x),(rt tV y)⟩:ja6)) (⟨0⟩:I4));(sl ((↑(List.length x):Int) != (↑(List.length y):Int)) (some ((b false),[])) (sl ((cnE tV x)&&((cnE tV y)&&true)) (sl (Nat.beq t1.1 1) (some ((b false),[])) (sl (Nat.beq t1.1 2) (some ((b true),[])) none)) none))
noncomputable def ra6 (x:List V3) (y:List V3):Bool:=Y8 (one r1B) (ra5 x y)
noncomputable def ra7 (x:List V3) (y:List V3):Bool:=okO (one r1B) (ra5 x y)
noncomputable def yb8:Sum:=pa4 (Ba0 tV) (Ba0 tV) (fun x y=>.guard (ra7 x y) (.ret ((one r1B).enc (ra6 x y),[])))
theorem pc2:g8 prog G 30 yb8:=ub6 (bd b30 fc9) (one r1B) (o:=ra5) fun x y=>Qa3 (.s .p (.s .p (.s (.s .p (.b (.u Ia6.ls))) .p))) [Ia6.pr] (by kernel_rfl) (.cons Wb1 .nil) (by kernel_rfl)
structure me3 where
 f7:List V3
 c9:Int
 c7:Int
 d7:Int
structure me4 where
 ph:Nat
 is6:Int
 ns5:Nat
 eh1:List (List b7)
structure Sd8 where
 c9:Int
 c7:Int
 d7:Int
structure Sd9 where
 ph:Nat
 is4:Int
 ns3:Nat
 eh1:List (List b7)
end Go.Ev.Ce
end
namespace Go.Ev
open Go Go.ChangeShapes Go.RowKit
structure Fc2 (w w':World):Prop where
 os:w'.os=w.os
 output:w'.output=w.output
 size:w.heap.size≤w'.heap.size
 block:∀ k,k < w.heap.size→w'.heap[k]?=w.heap[k]?
theorem Fc2.kept {w w':World} (h:Fc2 w w') (may:MemPlace→Prop):w.keptBut w' may:=by
 refine⟨h.os,h.output,fun i hi=>?_⟩
 rw[h.block i hi]
 cases w.heap[i]? with
 | none=>rfl
 | some o=>cases o<;>first | exact⟨rfl,rfl,rfl,fun _ _=>rfl⟩ | exact .inr ⟨rfl,rfl⟩ | rfl
theorem Fc2.frozen {w w':World} (h:Fc2 w w') (b off:Nat) (hb:b < w.heap.size):w'.frozen? ⟨b,off,none⟩=w.frozen? ⟨b,off,none⟩:=by
 simp only[World.frozen?,h.block b hb]
theorem Fc2.cell {w w':World} (h:Fc2 w w') (b off:Nat) (hb:b < w.heap.size):w'.cell? ⟨b,off,none⟩=w.cell? ⟨b,off,none⟩:=by
 simp only[World.cell?,h.block b hb]
theorem Fc2.same {w w':World} (h:Fc2 w w') (p:MemPlace) (hp:p.block < w.heap.size):w.sameAt w' p:=by
 cases p with
 | cell b off=>exact h.cell b off hp
 | map b=>exact h.block b hp
theorem yb9 {α β:Type} {f:α→Option β}:∀ {l:List α} {r:List β},l.mapM f=some r→r.length=l.length∧∀ (j:Nat) y,r[j]?=some y→∃ x,l[j]?=some x∧f x=some y
 | [],r,h=>by
  have:r=[]:=by simpa using h.symm
  subst this;simp
 | x::l,r,h=>by
  rw[List.mapM_cons] at h
  obtain⟨y,h1,h2⟩:=Option.bind_eq_some_iff.1 h
  obtain⟨r',h3,h4⟩:=Option.bind_eq_some_iff.1 h2
  have:r=y::r':=by simpa using h4.symm
  subst this
  obtain⟨g1,g2⟩:=yb9 h3
  refine⟨by simp[g1],fun j z hz=>?_⟩
  cases j with
  | zero=>simp at hz;subst hz;exact⟨x,rfl,h1⟩
  | succ j=>simpa using g2 j z (by simpa using hz)
section
variable {D:Type} {enc:TypeId×Value→D} {P:Program}
theorem Ib0 {T : TypeId → Prop} (K : Kids P T) (hsz : ∀ {t e : TypeId}, T t → P.underlying t = some (.slice e) → 0 < P.cellsOf e) {w w' : World} {sp : Nat → Bool} (hs : Fc2 w w') :
  ∀ {ts:List TypeId} {vs:List Value} {ds:List (DataW D)} {ps:List MemPlace},(∀ t∈ts,T t)→DataW.TrodAll enc P w 0 (fun _=>true) true ts vs ds ps→(∀ p∈ps,p.block < w.heap.size)→(∀ p∈ps,sp p.block=true)→DataW.TrodAll enc P w' 0 sp true ts vs ds ps
 | [],[],[],_,_,h,_,_=>h
 | t::ts,v::vs,d::ds,ps,ht,h,hlt,hsp=>by
  obtain⟨p,q,⟨fuel,h1⟩,h2,rfl⟩:=h
  refine⟨p,q,⟨fuel,?_⟩,Ib0 K hsz hs (fun t h=>ht t (by simp[h])) h2 (fun x hx=>hlt x (by simp[hx])) (fun x hx=>hsp x (by simp[hx])),rfl⟩
  exact DataW.trod_stays K hsz (fun h=>by cases h) (ht t (by simp)) h1 (fun x hx=>hs.same x (hlt x (by simp at hx ⊢;exact .inl hx))) (fun x hx=>hsp x (by simp at hx ⊢;exact .inl hx))
 | [],_::_,_,_,_,h,_,_=>h.elim
 | [],[],_::_,_,_,h,_,_=>h.elim
 | _::_,[],_,_,_,h,_,_=>h.elim
 | _::_,_::_,[],_,_,h,_,_=>h.elim
theorem ge8 {T : TypeId → Prop} (K : Kids P T) (hsz : ∀ {t e : TypeId}, T t → P.underlying t = some (.slice e) → 0 < P.cellsOf e) {f : Func} {s : ChangeSpec} {apart fresh handsOn again : Bool} {W W' : World} {args : Array Value} {ds gs : List (DataW D)} {before : List MemPlace} {tb : TypeId}
  (hT:∀ t∈f.params.toList,T t) (hW:DataW.Whole enc P f.params.toList s.vars apart W args.toList ds gs before) (hv:s.vars=[]) (hr:f.resultTypes=#[tb]) (hb:P.underlying tb=some .bool)
  (h1:(s.fn D ds).results=[.lit (.bool true)]) (h2:(s.fn D ds).args=ds) (h3:(s.fn D ds).vars=[]) (hs:Fc2 W W') :
  s.post enc P f apart fresh handsOn again W args (.bool true) W':=by
 have hlt:=hW.lt
 obtain⟨pa,pv,hA,hV,hps,hz,hn⟩:=id hW
 rw[hv] at hV
 have hpv:gs=[]∧pv=[]:=by
  cases gs with
  | nil=>exact⟨rfl,hV⟩
  | cons=>exact hV.elim
 obtain⟨rfl,rfl⟩:=hpv
 rw[← List.append_nil ds] at h1 h3
 have h2:(s.fn D (ds++[])).args=ds:=by rw[List.append_nil];exact h2
 have hpa:before=pa:=by rw[hps];simp
 subst hpa
 have hagain:∀ sp:Nat→Bool,(∀ p∈before,sp p.block=true)→DataW.TrodAll enc P W' 0 sp true f.params.toList args.toList ds before:=fun sp h=>Ib0 K hsz hs hT hA hlt h
 have hres:∀ (b:Nat) (sp:Nat→Bool) (hd:Bool),DataW.TrodAll enc P W' b sp hd f.resultTypes.toList ((Value.bool true).resultList f.resultTypes.size) [.lit (.bool true)] []:=fun b sp hd=>by
  rw[hr]
  exact⟨[],[],⟨1,by simp[DataW.trod,hb,Value.cells,Value.resultList]⟩,rfl,rfl⟩
 have hvars:∀ sp:Nat→Bool,DataW.TrodVars enc P W' sp s.vars ([]:List (DataW D)) []:=fun sp=>by rw[hv];exact rfl
 have hok:∀ (j:Nat) (t:TypeId) (r:Value),f.resultTypes[j]?=some t→((Value.bool true).resultList f.resultTypes.size)[j]?=some r→Value.okWide P W' .any 0 t r:=by
  rw[hr]
  intro j t r h4 h5
  cases j with
  | zero =>
   simp at h4
   subst h4
   have:r=.bool true:=by simpa [Value.resultList] using h5.symm
   subst this
   exact okWide_bool_mk hb _
  | succ j=>simp at h4
 have hag:DataW.TrodAll enc P W' 0 (fun _=>true) true (f.resultTypes.toList++f.params.toList) ((Value.bool true).resultList f.resultTypes.size++args.toList) (.lit (.bool true)::ds) before:=by
  have:=hagain (fun _=>true) (fun _ _=>rfl)
  rw[hr]
  exact⟨[],before,⟨1,by simp[DataW.trod,hb,Value.cells,Value.resultList]⟩,this,rfl⟩
 refine⟨ds,[],before,[],before,[],hW,?_,?_,?_,hs.kept _,fun _=>?_⟩
 ·rw[h1];exact hres _ _ _
 ·rw[h2];exact hagain _ fun p hp=>by simpa using hlt p hp
 ·rw[h3];exact hvars _
 ·refine⟨hok,.lit (.bool true)::ds,[],before,⟨before,[],hag,hvars _,by simp,?_,?_⟩,?_⟩
  ·intro b off hp
   rw[hs.frozen b off (hlt _ hp)]
   exact hz b off (by simpa using hp)
  ·intro ha;simpa using hn ha
  ·intro p hp _;exact hp
variable {w:World} {base:Nat} {spare:Nat→Bool} {held:Bool}
def Nc1 (w:World):Fz:=fun b o=>(w.cell? ⟨b,o,none⟩).isSome
theorem Ke4 {fuel : Nat} {t : TypeId} {k : IntKind} {cs : List Value} {x : DataW D × List MemPlace} (ht : P.underlying t = some (.int k)) (h : DataW.trod enc P w base spare held fuel t cs = some x) :
  ∃ n,cs=[.int k n]∧(Lit.int k n).wf=true∧x.1=.lit (.int k n):=by
 cases fuel with
 | zero=>cases h
 | succ fuel =>
  match cs,h with
  | [],h=>simp[DataW.trod,ht] at h
  | [v],h =>
   cases v with
   | int k' n =>
    simp only[DataW.trod,ht] at h
    split at h
    ·rename_i hk
     obtain⟨rfl,hw⟩:=hk
     injection h with h;subst h
     exact⟨n,rfl,hw,rfl⟩
    ·cases h
   | _=>simp[DataW.trod,ht] at h
  | a::b::r,h=>simp[DataW.trod,ht] at h
theorem we5 {fuel : Nat} {t : TypeId} {cs : List Value} {x : DataW D × List MemPlace} (ht : P.underlying t = some .bool) (h : DataW.trod enc P w base spare held fuel t cs = some x) :
  ∃ n,cs=[.bool n]∧x.1=.lit (.bool n):=by
 cases fuel with
 | zero=>cases h
 | succ fuel =>
  match cs,h with
  | [],h=>simp[DataW.trod,ht] at h
  | [v],h =>
   cases v with
   | bool n =>
    simp only[DataW.trod,ht] at h
    injection h with h;subst h
    exact⟨n,rfl,rfl⟩
   | _=>simp[DataW.trod,ht] at h
  | a::b::r,h=>simp[DataW.trod,ht] at h
theorem ge9 {fuel : Nat} {t e : TypeId} {n : Nat} {cs : List Value} {x : DataW D × List MemPlace} (ht : P.underlying t = some (.array n e)) (h : DataW.trod enc P w base spare held fuel t cs = some x) :
  cs.length=P.cellsOf t∧∃ (fuel':Nat) (xs:List (DataW D×List MemPlace)),xs.length=n∧x.1=.agg (xs.map (·.1))∧∀ (j:Nat) y,xs[j]?=some y→DataW.trod enc P w base spare held fuel' e ((cs.drop (j*P.cellsOf e)).take (P.cellsOf e))=some y:=by
 cases fuel with
 | zero=>cases h
 | succ fuel =>
  unfold DataW.trod at h
  rw[ht] at h
  simp only at h
  split at h
  ·rename_i hl
   obtain⟨xs,h1,h2⟩:=Option.map_eq_some_iff.1 h
   have hx:=yb9 h1
   exact⟨hl,fuel,xs,by simpa using hx.1,by rw[← h2],fun j y hy=>by
    obtain⟨a,ha,hb⟩:=hx.2 j y hy
    have:j < n:=by
     have:=(List.getElem?_eq_some_iff.1 hy).1
     rw[hx.1] at this;simpa using this
    rw[List.getElem?_range this] at ha
    injection ha with ha
    subst ha
    exact hb⟩
  ·cases h
theorem Pd2 {fuel : Nat} {t : TypeId} {fs : Array Field} {cs : List Value} {x : DataW D × List MemPlace} (ht : P.underlying t = some (.struct fs)) (h : DataW.trod enc P w base spare held fuel t cs = some x) :
  cs.length=P.cellsOf t∧∃ (fuel':Nat) (xs:List (DataW D×List MemPlace)),xs.length=fs.size∧x.1=.agg (xs.map (·.1))∧∀ (j:Nat) f,fs[j]?=some f→∃ y,xs[j]?=some y∧DataW.trod enc P w base spare held fuel' f.type ((cs.drop f.offset).take (P.cellsOf f.type))=some y:=by
 cases fuel with
 | zero=>cases h
 | succ fuel =>
  unfold DataW.trod at h
  rw[ht] at h
  simp only at h
  split at h
  ·rename_i hl
   obtain⟨xs,h1,h2⟩:=Option.map_eq_some_iff.1 h
   have hx:=yb9 h1
   refine⟨hl,fuel,xs,by simpa using hx.1,by rw[← h2],fun j f hf=>?_⟩
   have hj:j < xs.length:=by
    rw[hx.1];simpa using (Array.getElem?_eq_some_iff.1 hf).1
   obtain⟨a,ha,hb⟩:=hx.2 j _ (List.getElem?_eq_getElem hj)
   have:a=f:=by
    have:fs.toList[j]?=some f:=by simpa using hf
    exact Option.some.inj (ha.symm.trans this)
   subst this
   exact⟨_,List.getElem?_eq_getElem hj,hb⟩
  ·cases h
theorem he0 {fuel : Nat} {t e : TypeId} {cs : List Value} {x : DataW D × List MemPlace} (ht : P.underlying t = some (.slice e)) (h : DataW.trod enc P w base spare held fuel t cs = some x) :
  cs=[.slice none 0 0]∨∃ (a:Addr) (n cap fuel':Nat),cs=[.slice (some a) n cap]∧n≤cap∧cap≤maxLen∧∀ j,j < n→∃ row y,w.cells? base (a.add (j*P.cellsOf e)) (P.cellsOf e)=some row∧DataW.trod enc P w base spare held fuel' e row=some y:=by
 cases fuel with
 | zero=>cases h
 | succ fuel =>
  match cs,h with
  | [],h=>simp[DataW.trod,ht] at h
  | [v],h =>
   cases v with
   | slice a len cap =>
    cases a with
    | none =>
     simp only[DataW.trod,ht] at h
     split at h<;>first | (rename_i e1;cases e1;done) | skip
     all_goals first | exact .inl rfl | (simp_all;done) | skip
    | some a =>
     refine .inr ?_
     simp only[DataW.trod,ht] at h
     split at h
     ·rename_i hc
      obtain⟨elems,h1,h2⟩:=Option.bind_eq_some_iff.1 h
      have hx:=yb9 h1
      refine⟨a,len,cap,fuel,rfl,hc.2.1,hc.2.2,fun j hj=>?_⟩
      have hj':j < elems.length:=by rw[hx.1];simpa using hj
      obtain⟨i,hi,hb⟩:=hx.2 j _ (List.getElem?_eq_getElem hj')
      rw[List.getElem?_range hj] at hi
      injection hi with hi
      subst hi
      obtain⟨row,r1,r2⟩:=Option.bind_eq_some_iff.1 hb
      exact⟨row,_,r1,r2⟩
     ·cases h
   | _=>simp[DataW.trod,ht] at h
  | a::b::r,h=>simp[DataW.trod,ht] at h
theorem Hd4:∀ (d:Nat) (t:TypeId) (l:List (Nat×CK)),U0 P d t=some l→∀ (fuel:Nat) (cs:List Value) (x:DataW D×List MemPlace),DataW.trod enc P w base spare held fuel t cs=some x→∀ p∈l,sa2 cs.toArray p
 | 0,_,_,h,_,_,_,_=>by cases h
 | d+1,t,l,h,fuel,cs,x,hx=>by
  have hpart:∀ {off n:Nat} {e:TypeId} {l':List (Nat×CK)} {fuel':Nat} {y:DataW D×List MemPlace},sb3 off n (U0 P d e)=some l'→DataW.trod enc P w base spare held fuel' e ((cs.drop off).take n)=some y→∀ p∈l',sa2 cs.toArray p:=fun {off n e l' fuel' y} h1 h2 p hp=>by
   obtain⟨l2,g1,g2,rfl⟩:=Aa1 h1
   obtain⟨q,hq,rfl⟩:=List.mem_map.1 hp
   have:=Hd4 d e l2 g1 fuel' _ y h2 q hq
   have hlt:=g2 q hq
   unfold sa2 at this ⊢
   simp only[List.getElem?_toArray,List.getElem?_take,hlt,if_true,List.getElem?_drop] at this ⊢
   exact this
  have hcat:∀ {α:Type} (f:α→Option (List (Nat×CK))) (xs:List α) (l:List (Nat×CK)),ga8 (xs.map f)=some l→∀ p∈l,∃ a∈xs,∃ l',f a=some l'∧p∈l':=fun {α} f xs=>by
   induction xs with
   | nil=>intro l h;simp only[List.map_nil,ga8] at h;injection h with h;subst h;simp
   | cons a xs ih =>
    intro l h p hp
    simp only[List.map_cons,ga8] at h
    cases h1:f a with
    | none=>simp[h1] at h
    | some l1 =>
    cases h2:ga8 (xs.map f) with
    | none=>simp[h1,h2] at h
    | some l2 =>
    simp only[h1,h2] at h
    injection h with h;subst h
    rcases List.mem_append.1 hp with hp | hp
    ·exact⟨a,by simp,l1,h1,hp⟩
    ·obtain⟨b,hb,r⟩:=ih l2 h2 p hp
     exact⟨b,by simp[hb],r⟩
  unfold U0 at h
  cases hu:P.underlying t with
  | none=>simp[hu] at h
  | some u =>
  cases u with
  | int k =>
   simp only[hu] at h;injection h with h;subst h
   obtain⟨n,rfl,_,_⟩:=Ke4 hu hx
   intro p hp;simp at hp;subst hp;exact⟨n,rfl⟩
  | bool =>
   simp only[hu] at h;injection h with h;subst h
   obtain⟨n,rfl,_⟩:=we5 hu hx
   intro p hp;simp at hp;subst hp;exact⟨n,rfl⟩
  | struct fs =>
   simp only[hu] at h
   split at h
   ·cases h
   obtain⟨_,fuel',xs,_,_,hxs⟩:=Pd2 hu hx
   intro p hp
   obtain⟨f,hf,l',h1,h2⟩:=hcat _ _ _ h p hp
   split at h1
   ·cases h1
   obtain⟨j,hj⟩:=List.getElem?_of_mem hf
   obtain⟨y,_,hy⟩:=hxs j f (by simpa using hj)
   have hc:P.cellsOf f.type=szT P f.type:=by
    unfold Program.cellsOf szT
    cases P.info? f.type<;>rfl
   rw[hc] at hy
   exact hpart h1 hy p h2
  | array n e =>
   simp only[hu] at h
   split at h
   case isFalse=>cases h
   obtain⟨_,fuel',xs,hn,_,hxs⟩:=ge9 hu hx
   intro p hp
   obtain⟨j,hj,l',h1,h2⟩:=hcat _ _ _ h p hp
   have hj':j < xs.length:=by rw[hn];simpa using hj
   have hy:=hxs j _ (List.getElem?_eq_getElem hj')
   have hc:P.cellsOf e=szT P e:=by
    unfold Program.cellsOf szT
    cases P.info? e<;>rfl
   rw[hc] at hy
   exact hpart h1 hy p h2
  | _=>simp[hu] at h
def ja7 (k:IntKind) (es:Nat) (g:Nat→Int):List b7:=(List.range es).map fun c=>.v (.int k (g c))
def za3 (k:IntKind) (es:Nat):List (Nat×CK):=(List.range es).map fun c=>(c,.int k)
theorem Hd5 {d : Nat} {t : TypeId} {k : IntKind} {es : Nat} (hf : U0 P d t = some (za3 k es)) {fuel : Nat} {cs : List Value} {x : DataW D × List MemPlace} (hx : DataW.trod enc P w base spare held fuel t cs = some x) (hl : cs.length = es) :
  ∃ g:Nat→Int,∀ c,c < es→cs[c]?=some (.int k (g c)):=by
 have h:=Hd4 d t _ hf fuel cs x hx
 have h':∀ c,∃ n:Int,c < es→cs[c]?=some (.int k n):=fun c=>by
  by_cases hc:c < es
  ·have:=h (c,.int k) (List.mem_map.2 ⟨c,by simpa using hc,rfl⟩)
   obtain⟨n,hn⟩:=this
   exact⟨n,fun _=>by simpa using hn⟩
  ·exact⟨0,fun h=>absurd h hc⟩
 exact⟨fun c=>Classical.choose (h' c),fun c hc=>Classical.choose_spec (h' c) hc⟩
theorem he3 {F:Fz} {w:World} (k:IntKind) (n:Int):X7 F w (.v (.int k n)) (.int k n):=.v _ rfl
theorem Fc3 {k:IntKind} {es:Nat} {g:Nat→Int} {c:Nat} {x:b7} (h:(ja7 k es g)[c]?=some x):c < es∧x=.v (.int k (g c)):=by
 unfold ja7 at h
 obtain⟨h1,h2⟩:=Ba6 h
 exact⟨h1,h2.symm⟩
theorem Nc2 {t e : TypeId} {k : IntKind} {es d : Nat} (ht : P.underlying t = some (.slice e)) (hf : U0 P d e = some (za3 k es)) (hes : P.cellsOf e = es) (h0 : 0 < es) {fuel : Nat} {cs : List Value} {x : DataW D × List MemPlace} (hx : DataW.trod enc P w 0 spare held fuel t cs = some x) :
  ∃ (v:Value) (n:Nat) (g:Nat→Nat→Int),cs=[v]∧n≤maxLen∧X7 (Nc1 w) w (.tree es n fun j=>ja7 k es (g j)) v:=by
 rcases he0 ht hx with rfl | ⟨a,n,cap,fuel',rfl,hn,hc,hel⟩
 ·exact⟨_,0,fun _ _=>0,rfl,Nat.zero_le _,.nil _ _⟩
 ·rw[hes] at hel
  have hcell:∀ j,j < n→∃ g:Nat→Int,∀ c,c < es→w.cell? ((a.add (j*es)).add c)=some (.int k (g c)):=fun j hj=>by
   obtain⟨row,y,h1,h2⟩:=hel j hj
   unfold World.cells? at h1
   split at h1
   ·obtain⟨l1,l2⟩:=yb9 h1
    have hl:row.length=es:=by simpa using l1
    obtain⟨g,hg⟩:=Hd5 hf h2 hl
    refine⟨g,fun c hc=>?_⟩
    obtain⟨i,hi,hi2⟩:=l2 c _ (hg c hc)
    rw[List.getElem?_range hc] at hi
    injection hi with hi
    subst hi
    exact hi2
   ·cases h1
  have hg:∀ j,∃ g:Nat→Int,j < n→∀ c,c < es→w.cell? ((a.add (j*es)).add c)=some (.int k (g c)):=fun j=>by
   by_cases hj:j < n
   ·obtain⟨g,hg⟩:=hcell j hj
    exact⟨g,fun _=>hg⟩
   ·exact⟨fun _=>0,fun h=>absurd h hj⟩
  obtain⟨g,hg⟩:=Classical.axiomOfChoice hg
  have hspot:0 < n→a.spot=none:=fun hn=>by
   have:=hg 0 hn 0 h0
   simpa [Addr.add] using World.cell?_spot this
  have hw:∀ j c,j < n→c < es→w.cell? ⟨a.block,a.off+(j*es+c),none⟩=some (.int k (g j c)):=fun j c hj hc=>by
   have:=hg j hj c hc
   rw[U1 (hspot (by omega)),U1 rfl] at this
   simpa [Nat.add_assoc] using this
  refine⟨_,n,g,rfl,Nat.le_trans hn hc,.tree es n _ a cap (fun j c=>.int k (g j c)) hspot hn (fun i hi=>by simp[ja7]) (fun i c hi hc=>?_) hw fun i c hi hc=>?_⟩
  ·unfold Nc1
   rw[hw i c hi hc]
   rfl
  ·have:=(Fc3 (List.getElem?_eq_getElem hc)).2
   rw[this]
   exact he3 _ _
theorem Pd3 (w:World):v8 (fun k=>w.heap.size≤k) (fun _=>⟨0,0,0⟩) [] (Nc1 w) w :=
 ⟨fun id b h=>by simp at h,fun id id' b b' h=>by simp at h,fun _ _ h=>h,fun _ h=>h⟩
theorem Pd4 {G : Nat → List Value} {f : FuncId} {S : Sum} (hS : g8 P G f S) {aargs : List b7} {args : List Value} (hrun : ∃ out, (S aargs []).run = some (b true, out)) (hl : aargs.length = args.length)
  (ha:∀ (i:Nat) x x',aargs[i]?=some x→args[i]?=some x'→X9 (fun _=>⟨0,0,0⟩) [] (Nc1 w) w x x') (hG:∀ g (c:Nat) x,(G g)[c]?=some x→x.oneCell'=true∧w.cell? ⟨g,c,none⟩=some x) :
  Calls P f args.toArray w fun e w'=>e=.returned (.bool true)∧Fc2 w w':=by
 obtain⟨out,hrun⟩:=hrun
 obtain⟨_,hc⟩:=hS aargs [] (b true) out hrun (fun k=>w.heap.size≤k) (fun _=>⟨0,0,0⟩) (Nc1 w) w args (Pd3 w) hl (fun i x x' h1 h2=>.val (ha i x x' h1 h2)) (fun g c x hx=>by
  obtain⟨h1,h2⟩:=hG g c x hx
  exact⟨h1,by unfold Nc1;rw[h2];rfl,h2⟩)
 refine hc.mono fun e w' ⟨r',he,ρ',F',hA,hH,hW⟩=>?_
 have:=aa4 hW
 subst this
 exact⟨he,hA.ext.os,hA.ext.output,hA.ext.size,fun k hk=>hA.ext.block k hk (by omega)⟩
theorem we6 {ρ : Rho} {H : List b9} {F : Fz} {t : TypeId} {k : IntKind} {es d : Nat} {v : Value} {dd : DataW D} {pp : List MemPlace} {bs : Nat} {r : Reach} (hag : agT P t = true) (hf : U0 P d t = some (za3 k es)) (hes : P.cellsOf t = es)
  (hok:Value.okWide P w r bs t v) (h:DataW.Trod enc P w base spare held t v dd pp):∃ g:Nat→Int,X9 ρ H F w (.agg (ja7 k es g)) v:=by
 have hv:∃ cs:Array Value,v=.agg cs∧cs.size=P.cellsOf t:=by
  unfold agT at hag
  unfold Value.okWide at hok
  split at hag
  ·rename_i fs hu;rw[hu] at hok;obtain⟨cs,h1,h2,_⟩:=hok;exact⟨cs,h1,h2⟩
  ·rename_i n e hu;rw[hu] at hok;obtain⟨cs,h1,h2,_⟩:=hok;exact⟨cs,h1,h2⟩
  ·cases hag
 obtain⟨cs,rfl,hsz⟩:=hv
 obtain⟨fuel,hx⟩:=h
 have hx:DataW.trod enc P w base spare held fuel t cs.toList=some (dd,pp):=hx
 obtain⟨g,hg⟩:=Hd5 hf hx (by simpa [hes] using hsz)
 refine⟨g,.agg _ _ (by simp[ja7,hsz,hes]) fun c x x' h1 h2=>?_⟩
 obtain⟨hc,rfl⟩:=Fc3 h1
 have:=hg c hc
 have h3:some x'=some (.int k (g c)):=by rw[← h2];simpa using this
 injection h3 with h3
 subst h3
 exact .v _
theorem Pd5 {ρ : Rho} {H : List b9} {t e : TypeId} {k : IntKind} {es d : Nat} {v : Value} {dd : DataW D} {pp : List MemPlace} {bs : Nat} {r : Reach} (ht : P.underlying t = some (.slice e)) (hf : U0 P d e = some (za3 k es)) (hes : P.cellsOf e = es) (h0 : 0 < es)
  (hok:Value.okWide P w r bs t v) (h:DataW.Trod enc P w 0 spare held t v dd pp):∃ (n:Nat) (g:Nat→Nat→Int),n≤maxLen∧X9 ρ H (Nc1 w) w (.tree es n fun j=>ja7 k es (g j)) v:=by
 obtain⟨fuel,hx⟩:=h
 obtain⟨v',n,g,h1,h2,h3⟩:=Nc2 ht hf hes h0 hx
 have hv:v.cells=#[v]:=by
  unfold Value.okWide at hok
  rw[ht] at hok
  cases v with
  | agg cs=>exfalso;simp[Cell.okWide,Cell.ok,ht] at hok
  | _=>rfl
 rw[hv] at h1
 have:v=v':=by simpa using h1
 subst this
 exact⟨n,g,h2,.cell (.mem h3)⟩
end
end Go.Ev
namespace Go.Ev.L
open Go Go.Ev
theorem he4 {α : Type} (t : Ty α) (n : Nat) (g : Nat → Nat → Int) (f : (Nat → Int) → α) (h : ∀ j, ja7 .i64 t.es (g j) = t.row (f (g j))) :
  ∃ l,(Ba0 t).dec (.tree t.es n fun j=>ja7 .i64 t.es (g j))=some l∧(Ba0 t).grd (.tree t.es n fun j=>ja7 .i64 t.es (g j))=true:=by
 refine⟨lsL t n fun j=>ja7 .i64 t.es (g j),?_,mb3 t (f:=fun k=>f (g k)) fun k _=>h k⟩
 show Bool.rec (motive:=fun _=>Option (List α)) none (some (lsL t n fun j=>ja7 .i64 t.es (g j))) (Nat.beq t.es t.es)=_
 rw[Nat.beq_refl]
end Go.Ev.L
namespace Go.Ev.L
open Go Go.Ev
def Rdg {α:Type} (c:Cod α) (x:b7) (a:α):Prop:=c.dec x=some a∧c.grd x=true
theorem he5 {α:Type} (t:Ty α) (n:Nat) (g:Nat→Nat→Int) (f:(Nat→Int)→α) (h:∀ j,ja7 .i64 t.es (g j)=t.row (f (g j))):∃ l,Rdg (Ba0 t) (.tree t.es n fun j=>ja7 .i64 t.es (g j)) l:=he4 t n g f h
theorem he6 (n:Nat) (g:Nat→Nat→Int):∃ l,Rdg (Ba0 tI) (.tree 1 n fun j=>ja7 .i64 1 (g j)) l:=he5 tI n g (fun g=>g 0) fun _=>rfl
section
variable {α β γ δ ε:Type} {c:Cod α} {d:Cod β} {e:Cod γ} {f:Cod δ} {c5:Cod ε} {x y z w v:b7} {a:α} {b':β} {g:γ} {j:δ} {m:ε} {r:b7×List b9}
theorem cf7 {k:α→β→γ→δ→DT (b7×List b9)} (h1:Rdg c x a) (h2:Rdg d y b') (h3:Rdg e z g) (h4:Rdg f w j) (h:(k a b' g j).run=some r):(id9 c d e f k [x,y,z,w] []).run=some r:=by
 unfold id9
 simp only[h1.1,h1.2,h2.1,h2.2,h3.1,h3.2,h4.1,h4.2]
 exact h
end
theorem Ke5 {g p:Bool} (hg:g=true) (hp:p=true):(DT.guard g (.ret ((one r1B).enc p,([]:List b9)))).run=some (b true,([]:List b9)):=by subst hg;subst hp;rfl
end Go.Ev.L
namespace Go.Ev.Ce
open Go Go.Ev Go.Ev.L Go.Proofs
structure B3 where
 b0:Int
 b1:Int
 b2:Int
def okB:List b7→Bool
 | [.v (.int .u8 _),.v (.int .u8 _),.v (.int .u8 _)]=>true
 | _=>false
def rdB:List b7→B3
 | [.v (.int .u8 x),.v (.int .u8 y),.v (.int .u8 z)]=>⟨x,y,z⟩
 | _=>⟨0,0,0⟩
noncomputable def tW:Ty B3 where
 es:=3
 row x:=[.v (.int .u8 x.b0),.v (.int .u8 x.b1),.v (.int .u8 x.b2)]
 rd:=rdB
 ok:=okB
 cks:=List.replicate 3 (.int .u8)
 d:=⟨0,0,0⟩
 h0 _:=rfl
 h1 _:=rfl
 h2 _:=rfl
 h3 r h:=by
  unfold okB at h
  split at h
  ·exact .refl _
  ·cases h
 h4 _:=rfl
 h5 _:=rfl
structure B2 where
 d0:Int
 d1:Int
structure LL where
 u:List Int
 v:List Int
def dU:b7→Option Int
 | .v (.int .u8 n)=>some n
 | _=>none
theorem Te9 {x:b7} {n:Int} (h:dU x=some n):x=.v (.int .u8 n):=by
 unfold dU at h
 split at h
 ·cases h;rfl
 ·cases h
def cU:Cod Int:=⟨fun n=>.v (.int .u8 n),dU,fun _=>true,fun _ _ h _=>.of (Te9 h)⟩
end Go.Ev.Ce
namespace Go.Ev.Ce
open Go Go.Ev Go.Ev.L Go.Proofs
noncomputable def T8 (x:List Int):V3×List V3:=match f8 x with
 | []=>(⟨0,0,0⟩,[])
 | a::l=>(a,l)
noncomputable def Ib1:Sum:=Y7 (Ba0 tI) fun x=>.guard (Qa5 x) (.guard (Nat.ble 1 (List.length (f8 x))) (.ret (eL tV ((T8 x).1::(T8 x).2),[])))
theorem he7 {α:Type} {c:Cod α} {k k':α→DT (b7×List b9)} (h:∀ a r,(k a).run=some r→(k' a).run=some r) {args:List b7} {blks:List b9} {r:b7×List b9} (hr:(Y7 c k args blks).run=some r):(Y7 c k' args blks).run=some r:=by
 unfold Y7 at hr ⊢
 split at hr
 ·rename_i x
  cases hd:c.dec x with
  | none=>rw[hd] at hr;cases hr
  | some a =>
   rw[hd] at hr
   obtain⟨h1,h2⟩:=DT.run_guard_some (show (DT.guard (c.grd x) (k a)).run=some r from hr)
   show (DT.guard (c.grd x) (k' a)).run=some r
   rw[h1]
   exact h a r h2
 ·cases hr
theorem Fc4:g8 prog G 25 Ib1:=fun args blks r out he=>Kc6 args blks r out (he7 (fun x r hr=>by
 obtain⟨h1,hr⟩:=DT.run_guard_some hr
 obtain⟨h2,hr⟩:=DT.run_guard_some hr
 rw[h1]
 have e:(T8 x).1::(T8 x).2=f8 x:=by
  unfold T8
  cases h:f8 x with
  | nil=>rw[h] at h2;cases h2
  | cons a l=>rfl
 rw[e] at hr
 exact hr) he)
end Go.Ev.Ce
section
namespace Go.Ev.Ce
open Go Go.Ev Go.Ev.L Go.Proofs
set_option maxRecDepth 100000
noncomputable def Fc5:List (Nat×Sum):=[]
theorem pc3:j7 prog G Fc5:=trivial
noncomputable def gb4  : Option (b7×List b9):=(some ((.sl 0 0 4 0),[⟨27,3,[[(i 0),(i 0),(i 0)],[(i 1),(i 0),(i 0)],[(i 0),(i 1),(i 0)],[(i 0),(i 0),(i 1)]],true,false,0⟩]))
noncomputable def Ka8  : List V3:=Y8 (one (r1L tV)) gb4
noncomputable def na8  : Bool:=okO (one (r1L tV)) gb4
noncomputable def Ib2:Sum:=id8  (.guard na8 (.ret ((one (r1L tV)).enc Ka8,[])))
theorem Fc6:g8 prog G 67 Ib2:=Ne1 (bd b67 pc3) (one (r1L tV)) (o:=gb4) (A4 (by kernel_rfl))
structure Td0 where
 Fa6:List Pln
 is8:Int
 c9:Int
 c7:Int
 d7:Int
structure Td1 where
 is9:Int
noncomputable def pc4:List (Nat×Sum):=[(19,Cc1),(21,Tb5),(23,zc3),(67,Ib2),(28,fc6),(30,yb8),(31,Hb9)]
theorem gc0:j7 prog G pc4:=⟨nd7,Mc3,nd3,Fc6,Ec8,pc2,Ec9,trivial⟩
noncomputable def ra8  : Option (b7×List b9):=let t1:=(Ha9 [(⟨(⟨1,1,1⟩:V3),3⟩:Pln),(⟨(⟨(-1),0,0⟩:V3),0⟩:Pln)] (⟨1,0,2⟩:V3));let t2:=(Ea6 [(⟨(⟨1,1,1⟩:V3),3⟩:Pln),(⟨(⟨(-1),0,0⟩:V3),0⟩:Pln)] (⟨1,0,2⟩:V3));let t3:=(Wa1 (rt tP t1.1) [(⟨(⟨1,1,1⟩:V3),6⟩:Pln),(⟨(⟨(-1),0,0⟩:V3),1⟩:Pln)]);let t4:=(Wa1 (rt tP t2.1) [(⟨(⟨1,1,1⟩:V3),0⟩:Pln),(⟨(⟨(-1),0,0⟩:V3),(-1)⟩:Pln)]);let t5:=(Ha9 [(⟨(⟨1,1,1⟩:V3),3⟩:Pln),(⟨(⟨(-1),0,0⟩:V3),0⟩:Pln)] (⟨13,0,0⟩:V3));let t6:=(Ea6 [(⟨(⟨1,1,1⟩:V3),3⟩:Pln),(⟨(⟨(-1),0,0⟩:V3),0⟩:Pln)] (⟨0,(-1),0⟩:V3));let t7:=(Ha9 [(⟨(⟨1,0,0⟩:V3),2097152⟩:Pln)] (⟨1,0,0⟩:V3));let t8:=Ka8;let t9:=(Ia3 (rt tV t8) [(⟨0,0,0⟩:V3),(⟨2,0,0⟩:V3)]);let t10:=(ra6 (rt tV t9.1) [(⟨0,0,0⟩:V3),(⟨0,0,1⟩:V3),(⟨0,1,0⟩:V3),(⟨2,0,1⟩:V3),(⟨2,1,0⟩:V3),(⟨3,0,0⟩:V3)]);let t11:=(Ia3 (rt tV t8) []);let t12:=(Ia3 (rt tV t8) [(⟨24,0,0⟩:V3)]);let t13:=(wa9 (rt tV t8) (⟨3,(-1),2⟩:V3));let t14:=(wa9 [] (⟨3,0,0⟩:V3));(sl (Ia0 [(⟨(⟨1,1,1⟩:V3),3⟩:Pln),(⟨(⟨(-1),0,0⟩:V3),0⟩:Pln)] (⟨1,0,2⟩:V3)) (sl (Ea7 [(⟨(⟨1,1,1⟩:V3),3⟩:Pln),(⟨(⟨(-1),0,0⟩:V3),0⟩:Pln)] (⟨1,0,2⟩:V3)) (sl (!t1.2) (some ((b false),[])) (sl (!t2.2) (some ((b false),[])) (sl (okE tP t1.1) (sl (Wa2 (rt tP t1.1) [(⟨(⟨1,1,1⟩:V3),6⟩:Pln),(⟨(⟨(-1),0,0⟩:V3),1⟩:Pln)]) (sl (!t3) (some ((b false),[])) (sl (okE tP t2.1) (sl (Wa2 (rt tP t2.1) [(⟨(⟨1,1,1⟩:V3),0⟩:Pln),(⟨(⟨(-1),0,0⟩:V3),(-1)⟩:Pln)]) (sl (!t4) (some ((b false),[])) (sl (Ia0 [(⟨(⟨1,1,1⟩:V3),3⟩:Pln),(⟨(⟨(-1),0,0⟩:V3),0⟩:Pln)] (⟨13,0,0⟩:V3)) (sl (Ea7 [(⟨(⟨1,1,1⟩:V3),3⟩:Pln),(⟨(⟨(-1),0,0⟩:V3),0⟩:Pln)] (⟨0,(-1),0⟩:V3)) (sl (Ia0 [(⟨(⟨1,0,0⟩:V3),2097152⟩:Pln)] (⟨1,0,0⟩:V3)) (sl na8 (sl (okE tV t8) (sl (Ia4 (rt tV t8) [(⟨0,0,0⟩:V3),(⟨2,0,0⟩:V3)]) (sl t5.2 (some ((b false),[])) (sl t6.2 (some ((b false),[])) (sl t7.2 (some ((b false),[])) (sl (t9.2 != 0) (some ((b false),[])) (sl (okE tV t9.1) (sl (ra7 (rt tV t9.1) [(⟨0,0,0⟩:V3),(⟨0,0,1⟩:V3),(⟨0,1,0⟩:V3),(⟨2,0,1⟩:V3),(⟨2,1,0⟩:V3),(⟨3,0,0⟩:V3)]) (sl (!t10) (some ((b false),[])) (sl na8 (sl (okE tV t8) (sl (Ia4 (rt tV t8) []) (sl na8 (sl (okE tV t8) (sl (Ia4 (rt tV t8) [(⟨24,0,0⟩:V3)]) (sl na8 (sl (okE tV t8) (sl (xa0 (rt tV t8) (⟨3,(-1),2⟩:V3)) (sl (xa0 [] (⟨3,0,0⟩:V3)) (sl (t11.2==11) (sl (t12.2==3) (sl (t13.1==3) (sl t13.2 (some ((b (!t14.2)),[])) (some ((b false),[]))) (some ((b false),[]))) (some ((b false),[]))) (some ((b false),[]))) none) none) none) none) none) none) none) none) none) none)) none) none))))) none) none) none) none) none) none)) none) none)) none) none))) none) none)
noncomputable def Fa2  : Bool:=Y8 (one r1B) ra8
noncomputable def Fa3  : Bool:=okO (one r1B) ra8
noncomputable def zb0:Sum:=id8  (.guard Fa3 (.ret ((one r1B).enc Fa2,[])))
theorem pc5:g8 prog G 15 zb0:=Ne1 (bd b15 gc0) (one r1B) (o:=ra8) (A4 (by kernel_rfl))
end Go.Ev.Ce
end
namespace Go.Ev.Ce
open Go Go.Ev Go.Ev.L Go.Proofs
noncomputable def dd3 (v:V3):List b7:=[i v.x,i v.y,i v.z,b true]
noncomputable def Za6 (l:List V3):List (List b7):=l.map dd3
@[reducible] noncomputable def flV:List (Nat×CK):=[(0,(.int .i64)),(1,(.int .i64)),(2,(.int .i64))]
def dd4 (l:List V3) (x:V3):Bool:=l.any fun q=>eqV q x
theorem he8 (l:List V3) (x:V3):dd4 l x=true↔x∈l:=by
 unfold dd4
 rw[List.any_eq_true]
 exact⟨fun⟨q,hq,e⟩=>(Cb9 q x).1 e ▸ hq,fun h=>⟨x,h,(Cb9 x x).2 rfl⟩⟩
theorem Uc4 (x q:V3):kb6 flV [i x.x,i x.y,i x.z] (dd3 q)=eqV q x:=by
 show Bool.and (decide (x.x=q.x)) (Bool.and (decide (x.y=q.y)) (Bool.and (decide (x.z=q.z)) true))=_
 unfold eqV
 have h:∀ a c:Int,decide (a=c)=(c==a):=fun a c=>by rw[Bool.eq_iff_iff,decide_eq_true_eq,beq_iff_eq];exact eq_comm
 rw[h,h,h]
theorem he9 (x:V3):∀ l,Aa0 3 [(0,(.int .i64)),(1,(.int .i64)),(2,(.int .i64))] [i x.x,i x.y,i x.z] (Za6 l)=dd4 l x
 | []=>rfl
 | q::l=>by
  have ih:=he9 x l
  unfold Aa0 at ih ⊢
  show Option.rec (motive:=fun _=>Bool) false (fun r=>toB (hdA (f9 r 3))) (Bool.rec (motive:=fun _=>Option (List b7)) (Nb4 flV [i x.x,i x.y,i x.z] (Za6 l)) (some (dd3 q)) (kb6 flV [i x.x,i x.y,i x.z] (dd3 q)))=dd4 (q::l) x
  rw[Uc4]
  unfold dd4 at ih ⊢
  rw[List.any_cons]
  cases eqV q x with
  | true=>rfl
  | false=>exact ih
theorem Ke6 (x:V3):∀ l,dd4 l x=false→T9 [(0,(.int .i64)),(1,(.int .i64)),(2,(.int .i64))] [i x.x,i x.y,i x.z] [i x.x,i x.y,i x.z,b true] (Za6 l)=Za6 (l++[x])
 | [],_=>rfl
 | q::l,h=>by
  unfold dd4 at h
  rw[List.any_cons,Bool.or_eq_false_iff] at h
  show Bool.rec (motive:=fun _=>List (List b7)) (dd3 q::T9 flV [i x.x,i x.y,i x.z] (dd3 x) (Za6 l)) (dd3 x::Za6 l) (kb6 flV [i x.x,i x.y,i x.z] (dd3 q))=_
  rw[Uc4,h.1,show T9 flV [i x.x,i x.y,i x.z] (dd3 x) (Za6 l)=_ from Ke6 x l h.2]
  rfl
def gc1 (s:List V3) (v:V3):List V3:=if dd4 s v then s else s++[v]
noncomputable def Wb2 (x:V3) (s:List V3) (y:V3):List V3:=gc1 s (e8 x y)
noncomputable def Pa4 (l:List V3) (s:List V3) (x:V3):List V3:=l.foldl (Wb2 x) s
noncomputable def la0 (a l:List V3):List V3:=a.foldl (Pa4 l) []
theorem dd5 (s:List V3) (v:V3):gc1 s v≠[]:=by
 unfold gc1
 split
 ·rename_i h
  intro e
  rw[e] at h
  cases h
 ·simp
theorem rd2 (s:List V3) (v:V3):(gc1 s v).length≤s.length+1:=by
 unfold gc1
 split
 ·omega
 ·simp
theorem ie0 (s:List V3) (v w:V3):w∈gc1 s v↔w∈s∨w=v:=by
 unfold gc1
 split
 ·rename_i h
  rw[he8] at h
  exact⟨.inl,fun h'=>h'.elim id fun e=>e ▸ h⟩
 ·rw[List.mem_append,List.mem_singleton]
theorem rd3 (x w:V3):∀ (l s:List V3),w∈Pa4 l s x↔w∈s∨∃ y∈l,w=e8 x y
 | [],s=>by simp[Pa4]
 | y::l,s=>by
  have ih:=rd3 x w l (Wb2 x s y)
  show w∈Pa4 l (Wb2 x s y) x↔_
  rw[ih]
  unfold Wb2
  rw[ie0]
  simp only[List.mem_cons,exists_eq_or_imp,or_assoc]
theorem Uc5 (w:V3) (l:List V3):∀ (a s:List V3),w∈a.foldl (Pa4 l) s↔w∈s∨∃ x∈a,∃ y∈l,w=e8 x y
 | [],s=>by simp
 | x::a,s=>by
  rw[List.foldl_cons,Uc5 w l a (Pa4 l s x),rd3]
  simp only[List.mem_cons,exists_eq_or_imp,or_assoc]
theorem rd4 (a l:List V3) (w:V3):w∈la0 a l↔∃ x∈a,∃ y∈l,w=e8 x y:=by
 unfold la0
 rw[Uc5]
 simp
theorem rd5 (x:V3):∀ (l s:List V3),(Pa4 l s x).length≤s.length+l.length
 | [],s=>by simp[Pa4]
 | y::l,s=>by
  have h1:=rd5 x l (Wb2 x s y)
  have h2:=rd2 s (e8 x y)
  unfold Wb2 at h1
  show (Pa4 l (gc1 s (e8 x y)) x).length≤_
  simp only[List.length_cons]
  omega
theorem gc2 (l:List V3):∀ (a s:List V3),(a.foldl (Pa4 l) s).length≤s.length+a.length*l.length
 | [],s=>by simp
 | x::a,s=>by
  have h1:=gc2 l a (Pa4 l s x)
  have h2:=rd5 x l s
  rw[List.foldl_cons,List.length_cons,Nat.succ_mul]
  omega
theorem rd6 (a l:List V3):(la0 a l).length≤a.length*l.length:=by
 have:=gc2 l a []
 simp only[List.length_nil,Nat.zero_add] at this
 exact this
noncomputable def qb8 (x:V3) (j:Nat) (o:List V3):n8:=match o with
 | []=>⟨0,(j:Int),0,[],[],0,0,0⟩
 | q::o=>⟨1,(j:Int),(q::o).length,bL tV (q::o),Za6 (q::o),x.x,x.y,x.z⟩
theorem Hd6 {x:V3} {j:Nat} {o:List V3} (h:o≠[]):qb8 x j o=⟨1,(j:Int),o.length,bL tV o,Za6 o,x.x,x.y,x.z⟩:=by
 cases o with
 | nil=>exact absurd rfl h
 | cons q o=>rfl
theorem Ke7 (O:List V3) (v:V3):app (bL tV O) [[i v.x,i v.y,i v.z]]=bL tV (O++[v]):=Ma9 tV O [v]
theorem ie1 (x : V3) (l : List V3) (P : B6) (h1 : P.ob6 = l) (h2 : P.ed4 = (l.length : Int)) (hl : l.length ≤ 48) (o : List V3) (ho : o.length ≤ 1000000) (hP : o = [] → P.s6 = x.x ∧ P.s7 = x.y ∧ P.s8 = x.z) :
  ∃ t s,lp (G9 P) (qb8 x 0 o)=(t,s)∧(t=phV (Pa4 l o x)+1∧∃ j,s=qb8 x j (Pa4 l o x)):=by
 refine Q3 (step:=G9 P) (mk:=qb8 x) l.length (fun j s=>j≤l.length∧s=(l.take j).foldl (Wb2 x) o∧s.length≤o.length+j∧(s=[]→P.s6=x.x∧P.s7=x.y∧P.s8=x.z)) (fun t s=>t=phV (Pa4 l o x)+1∧∃ j,s=qb8 x j (Pa4 l o x)) (by omega)
  (fun j s hj hi=>?_) (fun j s hj hi=>?_) 0 o ⟨Nat.zero_le _,by simp,by omega,hP⟩
 ·obtain⟨_,hi,hlen,hz⟩:=hi
  have hn:=w8 hj (show l.length≤4611686018427387904 by omega)
  have hb:inB (j:Int) l.length=true:=i4 hj
  have hT:(l.take (j+1)).foldl (Wb2 x) o=gc1 s (e8 x (gL tV l j)):=by
   rw[Ea9 tV hj,List.foldl_append,← hi]
   rfl
  have hnext:∀ {s':n8},s'=qb8 x (j+1) (gc1 s (e8 x (gL tV l j)))→Nx (.next s') (fun t=>t=phV (Pa4 l o x)+1∧∃ j',qb8 x j s=qb8 x j' (Pa4 l o x)) (fun s'=>∃ o',s'=qb8 x (j+1) o'∧(j+1≤l.length∧o'=(l.take (j+1)).foldl (Wb2 x) o∧o'.length≤o.length+(j+1)∧(o'=[]→P.s6=x.x∧P.s7=x.y∧P.s8=x.z))):=fun {s'} hs=>.nx ⟨_,hs,by omega,hT.symm,by have:=rd2 s (e8 x (gL tV l j));omega,fun h=>absurd h (dd5 _ _)⟩
  clear hi
  cases s with
  | nil =>
   obtain⟨z1,z2,z3⟩:=hz rfl
   have hu:∀ v:V3,T9 [(0,(.int .i64)),(1,(.int .i64)),(2,(.int .i64))] [i v.x,i v.y,i v.z] [i v.x,i v.y,i v.z,b true] []=Za6 [v]:=fun v=>Ke6 v [] rfl
   have hv:∀ v:V3,Aa0 3 [(0,(.int .i64)),(1,(.int .i64)),(2,(.int .i64))] [i v.x,i v.y,i v.z] []=false:=fun v=>he9 v []
   have hs:gc1 [] (e8 x (gL tV l j))=[e8 x (gL tV l j)]:=rfl
   have e:G9 P (qb8 x j [])=.next ⟨1,((j+1:Nat):Int),1,[[i (e8 x (gL tV l j)).x,i (e8 x (gL tV l j)).y,i (e8 x (gL tV l j)).z]],Za6 [e8 x (gL tV l j)],x.x,x.y,x.z⟩:=by
    show J2 Stp.next Stp.exit Stp.fail P (qb8 x j [])=_
    simp only[J2,qb8,h1,h2,z1,z2,z3,Int.toNat_natCast,hn,hb,hv,hu,Bool.not_false,y9]
    rw[btD (k8 hj)]
   rw[e]
   exact hnext (by rw[hs];rfl)
  | cons q s =>
   have rr:(Nat.beq (q::s).length (len (bL tV (q::s)))&&Nat.ble (((q::s).length+1)*24) room)=true:=od6 rfl (by omega)
   show Nx (J3 Stp.next Stp.exit Stp.fail P (qb8 x j (q::s))) _ _
   simp only[J3,qb8,h1,h2,Int.toNat_natCast,hn,hb,he9,rr,Ke7]
   rw[btD (k8 hj)]
   cases hh:dd4 (q::s) (e8 x (gL tV l j)) with
   | true =>
    refine hnext ?_
    rw[Hd6 (dd5 _ _)]
    unfold gc1
    rw[hh]
    rfl
   | false =>
    refine hnext ?_
    rw[Hd6 (dd5 _ _)]
    unfold gc1
    rw[hh,Ke6 _ _ hh]
    show (⟨1,_,(q::s).length+1,_,_,_,_,_⟩:n8)=⟨1,_,(q::s++[_]).length,_,_,_,_,_⟩
    rw[List.length_append]
    rfl
 ·obtain⟨hje,hi,hlen,hz⟩:=hi
  have hje:j=l.length:=by omega
  subst hje
  have hO:s=Pa4 l o x:=by rw[hi,List.take_length];rfl
  rw[← hO]
  cases s with
  | nil =>
   refine⟨1,?_,rfl,_,rfl⟩
   show J2 Stp.next Stp.exit Stp.fail P (qb8 x l.length [])=_
   simp only[J2,qb8,h2]
   rw[bfD (o8 (Nat.lt_irrefl _))]
  | cons q s =>
   refine⟨2,?_,rfl,_,rfl⟩
   show J3 Stp.next Stp.exit Stp.fail P (qb8 x l.length (q::s))=_
   simp only[J3,qb8,h2]
   rw[bfD (o8 (Nat.lt_irrefl _))]
noncomputable def dd6 (a l:List V3) (j:Nat) (o:List V3):p9:=match o with
 | []=>⟨0,l,a,(j:Int),0,[],[]⟩
 | q::o=>⟨1,l,a,(j:Int),(q::o).length,bL tV (q::o),Za6 (q::o)⟩
theorem Ke8 (a l:List V3) (ha:a.length≤48) (hl:l.length≤48):∃ t s,lp (ca7 ⟨(a.length:Int)⟩) (dd6 a l 0 [])=(t,s)∧(t=phV (la0 a l)+1∧∃ j,s=dd6 a l j (la0 a l)):=by
 refine Q3 (step:=ca7 ⟨(a.length:Int)⟩) (mk:=dd6 a l) a.length (fun j s=>j≤a.length∧s=(a.take j).foldl (Pa4 l) []) (fun t s=>t=phV (la0 a l)+1∧∃ j,s=dd6 a l j (la0 a l)) (by omega)
  (fun j s hj hi=>?_) (fun j s hj hi=>?_) 0 [] ⟨Nat.zero_le _,by simp⟩
 ·obtain⟨_,hi⟩:=hi
  have hlen:s.length≤1000000:=by
   have h1:=gc2 l (a.take j) []
   rw[← hi] at h1
   have h2:=List.length_take_le j a
   have h3:(a.take j).length*l.length≤48*48:=Nat.mul_le_mul (by omega) hl
   simp only[List.length_nil] at h1
   omega
  have hn:=w8 hj (show a.length≤4611686018427387904 by omega)
  have hb:inB (j:Int) a.length=true:=i4 hj
  have hT:(a.take (j+1)).foldl (Pa4 l) []=Pa4 l s (gL tV a j):=by
   rw[Ea9 tV hj,List.foldl_append,← hi]
   rfl
  have hnext:∀ {s':p9},s'=dd6 a l (j+1) (Pa4 l s (gL tV a j))→Nx (.next s') (fun t=>t=phV (la0 a l)+1∧∃ j',dd6 a l j s=dd6 a l j' (la0 a l)) (fun s'=>∃ o',s'=dd6 a l (j+1) o'∧(j+1≤a.length∧o'=(a.take (j+1)).foldl (Pa4 l) [])):=fun {s'} hs=>.nx ⟨_,hs,by omega,hT.symm⟩
  clear hi
  cases s with
  | nil =>
   obtain⟨t,s',k1,rfl,j',rfl⟩:=ie1 (gL tV a j) l ⟨l,a,(a.length:Int),(j:Int),l,(l.length:Int),(gL tV a j).x,(gL tV a j).y,(gL tV a j).z⟩ rfl rfl hl [] (by simp) (fun _=>⟨rfl,rfl,rfl⟩)
   have k1:lp (G9 ⟨l,a,(a.length:Int),(j:Int),l,(l.length:Int),(gL tV a j).x,(gL tV a j).y,(gL tV a j).z⟩) ⟨0,0,0,[],[],0,0,0⟩=_:=k1
   show Nx (J4 Stp.next Stp.exit Stp.fail ⟨(a.length:Int)⟩ ⟨0,l,a,(j:Int),0,[],[]⟩) _ _
   simp only[J4,p5,j9,Int.toNat_natCast,hn,hb,k1]
   rw[btD (k8 hj)]
   cases hr:Pa4 l [] (gL tV a j) with
   | nil=>exact hnext (by rw[hr];rfl)
   | cons q o=>exact hnext (by rw[hr];rfl)
  | cons q s =>
   obtain⟨t,s',k1,rfl,j',rfl⟩:=ie1 (gL tV a j) l ⟨l,a,(a.length:Int),(j:Int),l,(l.length:Int),0,0,0⟩ rfl rfl hl (q::s) hlen (fun h=>by cases h)
   have k1:lp (G9 ⟨l,a,(a.length:Int),(j:Int),l,(l.length:Int),0,0,0⟩) ⟨1,0,(q::s).length,bL tV (q::s),Za6 (q::s),(gL tV a j).x,(gL tV a j).y,(gL tV a j).z⟩=_:=k1
   show Nx (J5 Stp.next Stp.exit Stp.fail ⟨(a.length:Int)⟩ ⟨1,l,a,(j:Int),(q::s).length,bL tV (q::s),Za6 (q::s)⟩) _ _
   simp only[J5,p5,j9,Int.toNat_natCast,hn,hb,k1]
   rw[btD (k8 hj)]
   cases hr:Pa4 l (q::s) (gL tV a j) with
   | nil=>exact hnext (by rw[hr];rfl)
   | cons q' o=>exact hnext (by rw[hr];rfl)
 ·obtain⟨hje,hi⟩:=hi
  have hje:j=a.length:=by omega
  subst hje
  have hO:s=la0 a l:=by rw[hi,List.take_length];rfl
  rw[← hO]
  cases s with
  | nil =>
   refine⟨1,?_,rfl,_,rfl⟩
   show J4 Stp.next Stp.exit Stp.fail ⟨(a.length:Int)⟩ ⟨0,l,a,(a.length:Int),0,[],[]⟩=_
   simp only[J4]
   rw[bfD (o8 (Nat.lt_irrefl _))]
  | cons q s =>
   refine⟨2,?_,rfl,_,rfl⟩
   show J5 Stp.next Stp.exit Stp.fail ⟨(a.length:Int)⟩ ⟨1,l,a,(a.length:Int),(q::s).length,bL tV (q::s),Za6 (q::s)⟩=_
   simp only[J5]
   rw[bfD (o8 (Nat.lt_irrefl _))]
noncomputable def Fc7 (a l:List V3):List V3×Int:=if 48 < a.length∨48 < l.length then ([],2) else fc2 (la0 a l)
theorem ie2 (l:List V3) (n:Int):(two (r1L tV) r1I).rd (.tup [eL tV l,i n],[])=some (l,n):=by
 have h:(r1L tV).rd [] (eL tV l)=some l:=Se5 tV l
 simp only[two,h]
 rfl
theorem Ue0 (m n:Nat):decide ((if (n:Int) > (m:Int) then (n:Int) else (m:Int)) > 48)=decide (48 < m∨48 < n):=by
 rw[decide_eq_decide]
 split<;>omega
theorem Ce4 (a l:List V3):∃ x,kb1 a l=some x∧(two (r1L tV) r1I).rd x=some (Fc7 a l):=by
 unfold kb1 Fc7
 rw[Ue0]
 by_cases h:48 < a.length∨48 < l.length
 ·rw[decide_eq_true h,if_pos h]
  exact⟨_,rfl,rfl⟩
 ·rw[decide_eq_false h,if_neg h]
  obtain⟨t,s,k1,rfl,j,rfl⟩:=Ke8 a l (by omega) (by omega)
  have k1:lp (ca7 ⟨(a.length:Int)⟩) ⟨0,l,a,0,0,[],[]⟩=_:=k1
  unfold Oa9 ea8
  simp only[p5,j9,k1,Te8.1,Te8.2]
  have hlen:(la0 a l).length≤900000:=by
   have h1:=rd6 a l
   have h3:a.length*l.length≤48*48:=Nat.mul_le_mul (by omega) (by omega)
   omega
  cases hr:la0 a l with
  | nil=>exact⟨_,rfl,ie2 _ _⟩
  | cons q o =>
   rw[hr] at hlen
   have hg:ya8 (q::o)=true:=decide_eq_true ⟨by simp,hlen⟩
   have e1:slR tV (bL tV (q::o)) 0 (q::o).length=q::o:=ub5 tV _
   have e2:okS tV (bL tV (q::o)) 0 (q::o).length=true:=Kb2 tV _
   simp only[dd6,phV]
   refine⟨(.tup [eL tV (fc2 (q::o)).1,i (fc2 (q::o)).2],[]),?_,ie2 _ _⟩
   show sl (okS tV (bL tV (q::o)) 0 (q::o).length) (sl (ya8 (slR tV (bL tV (q::o)) 0 (q::o).length)) (some (b7.tup [eL tV (ya7 (slR tV (bL tV (q::o)) 0 (q::o).length)).1,i (ya7 (slR tV (bL tV (q::o)) 0 (q::o).length)).2],[])) none) none=_
   rw[e1,e2,hg]
   rfl
theorem Ce5 (a l:List V3):Ia3 a l=Fc7 a l:=by obtain⟨x,h,k⟩:=Ce4 a l;unfold Ia3;rw[h];exact jb7 _ k
theorem Ce6 (a l:List V3):Ia4 a l=true:=by obtain⟨x,h,k⟩:=Ce4 a l;unfold Ia4;rw[h];exact yb0 _ k
end Go.Ev.Ce
namespace Go.Ev.Ce
open Go Go.Ev Go.Ev.L Go.Proofs
def rch (n e:V3):Int:=(n.x.natAbs:Int)*e.x+(n.y.natAbs:Int)*e.y+(n.z.natAbs:Int)*e.z
def Ib3 (e:V3):Bool:=(decide (0≤e.x)&&decide (e.x≤12))&&((decide (0≤e.y)&&decide (e.y≤12))&&(decide (0≤e.z)&&decide (e.z≤12)))
def pq (e:V3) (s:Int) (p:Pln):Pln:=⟨p.n,p.b+s*rch p.n e⟩
def okq (e:V3) (s:Int) (p:Pln):Bool:=okp p&&smb 2097152 (p.b+s*rch p.n e)
def zb1 (c:List Pln) (e:V3) (s:Int):List Pln×Bool:=if (Ib3 e&&c.all (okq e s))=true then (c.map (pq e s),true) else ([],false)
structure B12 (e:V3):Prop where
 x1:0≤e.x
 x2:e.x≤12
 y1:0≤e.y
 y2:e.y≤12
 z1:0≤e.z
 z2:e.z≤12
theorem Uc6 (e:V3):Ib3 e=true↔B12 e:=by
 unfold Ib3
 simp only[Bool.and_eq_true,decide_eq_true_eq]
 exact⟨fun⟨⟨a,b⟩,⟨c,d⟩,f,g⟩=>⟨a,b,c,d,f,g⟩,fun⟨a,b,c,d,f,g⟩=>⟨⟨a,b⟩,⟨c,d⟩,f,g⟩⟩
theorem Uc7 {n e:Int} (hn:Sm 4608 n) (h0:0≤e) (h1:e≤12):0≤(n.natAbs:Int)*e∧(n.natAbs:Int)*e≤55296:=by
 have a:(n.natAbs:Int)≤4608:=by have:=hn.1;have:=hn.2;omega
 refine⟨Int.mul_nonneg (by omega) h0,?_⟩
 have:=Int.mul_le_mul a h1 h0 (by omega)
 omega
theorem ie3 {p:Pln} (hp:okp p=true) {e:V3} (he:B12 e):0≤rch p.n e∧rch p.n e≤165888:=by
 have hb:=ob0 hp
 have h1:=Uc7 ⟨hb.x1,hb.x2⟩ he.x1 he.x2
 have h2:=Uc7 ⟨hb.y1,hb.y2⟩ he.y1 he.y2
 have h3:=Uc7 ⟨hb.z1,hb.z2⟩ he.z1 he.z2
 unfold rch
 omega
theorem smL {n x:Int} (h1:-n≤x) (h2:x≤n) (hn:n≤1000000000000000000):Sm 1000000000000000000 x:=⟨by omega,by omega⟩
theorem rd7 {p:Pln} (hp:okp p=true) {e:V3} (he:B12 e):wa7 p.n e=rch p.n e:=by
 have hb:=ob0 hp
 have h1:=Uc7 ⟨hb.x1,hb.x2⟩ he.x1 he.x2
 have h2:=Uc7 ⟨hb.y1,hb.y2⟩ he.y1 he.y2
 have h3:=Uc7 ⟨hb.z1,hb.z2⟩ he.z1 he.z2
 unfold wa7
 rw[cb9 (smL hb.x1 hb.x2 (by omega)),cb9 (smL hb.y1 hb.y2 (by omega)),cb9 (smL hb.z1 hb.z2 (by omega))]
 simp only
 rw[U5 (n:=(p.n.x.natAbs:Int)*e.x) (by omega) (by omega),U5 (n:=(p.n.y.natAbs:Int)*e.y) (by omega) (by omega),U5 (n:=(p.n.z.natAbs:Int)*e.z) (by omega) (by omega),
  U5 (n:=(p.n.x.natAbs:Int)*e.x+(p.n.y.natAbs:Int)*e.y) (by omega) (by omega),U5 (by omega) (by omega)]
 rfl
noncomputable def Bd0 (p:Pln) (y:Int):Pln×Bool:=if (okp p&&(smb 4194304 y&&smb 2097152 (W (p.b+y))))=true then (⟨p.n,W (p.b+y)⟩,true) else (⟨⟨0,0,0⟩,0⟩,false)
theorem ie4 (p:Pln) (y:Int):∃ x,Ea3 p y=some x∧(two r1P r1B).rd x=some (Bd0 p y):=by
 have e1:K2 4194304 [y]=smb 4194304 y:=by rw[jb5 _ _ (by omega) (by simp)];simp
 have e2:K3 4194304 [y]=true:=jb6 _ _ (by omega) (by simp)
 have e3:K2 2097152 [W (p.b+y)]=smb 2097152 (W (p.b+y)):=by rw[jb5 _ _ (by omega) (by simp)];simp
 have e4:K3 2097152 [W (p.b+y)]=true:=jb6 _ _ (by omega) (by simp)
 unfold Ea3 Bd0
 simp only[Fd5,Fd6,e1,e2,e3,e4]
 cases okp p
 ·exact⟨_,rfl,rfl⟩
 ·cases smb 4194304 y
  ·exact⟨_,rfl,rfl⟩
  ·cases smb 2097152 (W (p.b+y))<;>exact⟨_,rfl,rfl⟩
theorem dd7 (p:Pln) (y:Int):ka8 p y=Bd0 p y:=by
 obtain⟨x,h,k⟩:=ie4 p y
 unfold ka8;rw[h];exact jb7 _ k
theorem dd8 (p:Pln) (y:Int):ka9 p y=true:=by
 obtain⟨x,h,k⟩:=ie4 p y
 unfold ka9;rw[h];exact yb0 _ k
theorem ie5 {e:V3} (he:B12 e) {s y:Int} (hs:s=1∨s=-1) {p:Pln} (hy:okp p=true→y=s*rch p.n e):Bd0 p y=if okq e s p=true then (pq e s p,true) else (⟨⟨0,0,0⟩,0⟩,false):=by
 unfold Bd0 okq pq
 cases hp:okp p
 ·rfl
 ·have hr:=ie3 hp he
  have hb:=ob0 hp
  have e1:=hy hp
  subst e1
  have hm:-165888≤s*rch p.n e∧s*rch p.n e≤165888:=by
   rcases hs with rfl | rfl<;>omega
  have h1:smb 4194304 (s*rch p.n e)=true:=(cb8 _ _).2 ⟨by omega,by omega⟩
  have hb1:=hb.b1;have hb2:=hb.b2
  rw[h1,U5 (by omega) (by omega)]
  rfl
theorem rd8 (e:V3):ga0 e=some (b (Ib3 e),[]):=by
 have hs:lp (G8 ⟨e.x,e.y,e.z⟩) ⟨0⟩=(if Ib3 e then 2 else 1,(lp (G8 ⟨e.x,e.y,e.z⟩) ⟨0⟩).2):=by
  refine Prod.ext ?_ rfl
  have h:=Lb6 (step:=G8 ⟨e.x,e.y,e.z⟩) (mk:=fun j=>(⟨(j:Int)⟩:A0)) (c:=fun n=>decide (n < 0)||decide (n > 12)) (u:=1) (fin:=2) tI [e.x,e.y,e.z] (by simp)
   (fun j hj=>by
    have hj:j < 3:=hj
    have hc:j=0∨j=1∨j=2:=by omega
    have hw:W ((j:Int)+1)=((j+1:Nat):Int):=w8 hj (by omega)
    simp only[G8,Q8,Int.toNat_natCast,hw]
    rw[btD (show (j:Int) < 3 by omega),bt (i4 hj)]
    rcases hc with rfl | rfl | rfl
    ·show sl true (sl (decide (e.x < 0)) _ (sl (decide (e.x > 12)) _ _)) _=sl (decide (e.x < 0)||decide (e.x > 12)) _ _
     cases decide (e.x < 0)<;>cases decide (e.x > 12)<;>rfl
    ·show sl true (sl (decide (e.y < 0)) _ (sl (decide (e.y > 12)) _ _)) _=sl (decide (e.y < 0)||decide (e.y > 12)) _ _
     cases decide (e.y < 0)<;>cases decide (e.y > 12)<;>rfl
    ·show sl true (sl (decide (e.z < 0)) _ (sl (decide (e.z > 12)) _ _)) _=sl (decide (e.z < 0)||decide (e.z > 12)) _ _
     cases decide (e.z < 0)<;>cases decide (e.z > 12)<;>rfl)
   (by simp only[G8,Q8];rw[bfD (by show ¬ ((3:Nat):Int) < 3;omega)]) 0 (Nat.zero_le _)
  rw[List.drop_zero] at h
  rw[show (⟨0⟩:A0)=⟨((0:Nat):Int)⟩ from rfl,h]
  have hq:∀ n:Int,(decide (n < 0)||decide (n > 12))=!(decide (0≤n)&&decide (n≤12)):=fun n=>by
   by_cases h1:n < 0<;>by_cases h2:n > 12<;>simp[h1,h2]<;>omega
  simp only[List.any_cons,List.any_nil,Bool.or_false,hq]
  unfold Ib3
  cases (decide (0≤e.x)&&decide (e.x≤12))<;>cases (decide (0≤e.y)&&decide (e.y≤12))<;>cases (decide (0≤e.z)&&decide (e.z≤12))<;>rfl
 unfold ga0
 rw[hs]
 cases Ib3 e<;>rfl
theorem rd9 (e:V3):ga1 e=Ib3 e:=by unfold ga1;rw[rd8];rfl
theorem sd0 (e:V3):ga2 e=true:=by unfold ga2;rw[rd8];rfl
end Go.Ev.Ce
namespace Go.Ev.Ce
open Go Go.Ev Go.Ev.L Go.Proofs
theorem ie6 {α:Type} (t:Ty α) {l:List α} {j:Nat} {c:α→Bool} (h:j < l.length):(l.take (j+1)).all c=((l.take j).all c&&c (gL t l j)):=by
 rw[Ea9 t h,List.all_append,List.all_cons,List.all_nil,Bool.and_true]
theorem Ke9 {α:Type} (t:Ty α) {l:List α} {j:Nat} {c:α→Bool} (h:j < l.length) (hc:c (gL t l j)=false):l.all c=false:=by
 rw[List.all_eq_false]
 exact⟨_,fb3 t h,by rw[hc];simp⟩
section
variable (c:List Pln) (e:V3) (s:Int)
structure PI (j:Nat) (o:List Pln):Prop where
 le:j≤c.length
 o:o=(c.take j).map (pq e s)
 a:(c.take j).all (okq e s)=true
def PE {σ:Type} (mk:Nat→List Pln→σ) (t:Nat) (st:σ):Prop:=(t=1∧c.all (okq e s)=false)∨(c.all (okq e s)=true∧t=phP (c.map (pq e s))+2∧∃ j,st=mk j (c.map (pq e s)))
theorem Uc8 {σ : Type} {step : σ → Stp σ} {mk : Nat → List Pln → σ} (hc : c.length ≤ 1000000)
  (h:∀ j o,j < c.length→o.length≤1000000→step (mk j o)=if okq e s (gL tP c j)=true then .next (mk (j+1) (o++[pq e s (gL tP c j)])) else .exit 1)
  (hf:∀ o,step (mk c.length o)=.exit (phP o+2)):∃ t st,lp step (mk 0 [])=(t,st)∧PE c e s mk t st :=
 Q3 (step:=step) (mk:=mk) c.length (PI c e s) (PE c e s mk) (by omega)
  (fun j o hj hi=>by
   have hlen:o.length≤1000000:=by
    rw[hi.o,List.length_map]
    have:=List.length_take_le j c
    omega
   rw[h j o hj hlen]
   cases hk:okq e s (gL tP c j) with
   | true=>exact .nx ⟨_,rfl,by omega,by rw[Ea9 tP hj,List.map_append,← hi.o];rfl,by rw[ie6 tP hj,hi.a,hk];rfl⟩
   | false=>exact .ex (.inl ⟨rfl,Ke9 tP hj hk⟩))
  (fun j o hj hi=>by
   have hje:j=c.length:=by have:=hi.le;omega
   subst hje
   have ho:=hi.o
   have ha:=hi.a
   rw[List.take_length] at ho ha
   subst ho
   exact⟨_,hf _,.inr ⟨ha,rfl,_,rfl⟩⟩) 0 [] ⟨Nat.zero_le _,by simp,by simp⟩
end
theorem Ue1 (O:List Pln) (p:Pln):app (bL tP O) [[i p.n.x,i p.n.y,i p.n.z,i p.b]]=bL tP (O++[p]):=Ma9 tP O [p]
theorem dd9 {σ : Type} {e : V3} {s : Int} {p : Pln} (k : Pln → Stp σ) :
  sl (!(if okq e s p=true then (pq e s p,true) else ((⟨⟨0,0,0⟩,0⟩:Pln),false)).2) (.exit 1) (k (if okq e s p=true then (pq e s p,true) else ((⟨⟨0,0,0⟩,0⟩:Pln),false)).1)=if okq e s p=true then k (pq e s p) else .exit 1:=by
 cases okq e s p<;>rfl
theorem ed0 (c:List Pln) {e:V3} (he:B12 e) (hc:c.length≤1000000):∃ t st,lp (ta3 ⟨e.x,e.y,e.z,c,(c.length:Int)⟩) ⟨0,0,0,[]⟩=(t,st)∧PE c e 1 (fun j o=>(⟨phP o,(j:Int),o.length,bL tP o⟩:o2)) t st:=by
 refine Uc8 c e 1 (step:=ta3 ⟨e.x,e.y,e.z,c,(c.length:Int)⟩) (mk:=fun j o=>(⟨phP o,(j:Int),o.length,bL tP o⟩:o2)) hc (fun j o hj ho=>?_) (fun o=>?_)
 ·have hn:=w8 hj (show c.length≤4611686018427387904 by omega)
  have hb:=i4 hj
  have hp:Bd0 (gL tP c j) (ma4 ⟨e.x,e.y,e.z⟩ (gL tP c j))=if okq e 1 (gL tP c j)=true then (pq e 1 (gL tP c j),true) else (⟨⟨0,0,0⟩,0⟩,false):=ie5 he (.inl rfl) fun hp=>by
   rw[Int.one_mul];exact rd7 hp he
  cases o with
  | nil =>
   show O2 Stp.next Stp.exit Stp.fail _ _=_
   simp only[O2,Int.toNat_natCast,dd7,dd8,hp,hn,hb]
   rw[btD (k8 hj)]
   exact dd9 (fun p=>Stp.next (⟨1,((j+1:Nat):Int),1,[[i p.n.x,i p.n.y,i p.n.z,i p.b]]⟩:o2))
  | cons q o =>
   have rr:(Nat.beq (q::o).length (len (bL tP (q::o)))&&Nat.ble (((q::o).length+1)*32) room)=true:=kb0 rfl (by omega)
   show O3 Stp.next Stp.exit Stp.fail _ _=_
   simp only[O3,Int.toNat_natCast,dd7,dd8,hp,hn,hb,rr,Ue1]
   rw[btD (k8 hj)]
   refine (dd9 (fun p=>Stp.next (⟨1,((j+1:Nat):Int),(q::o).length+1,bL tP (q::o++[p])⟩:o2))).trans ?_
   cases okq e 1 (gL tP c j)
   ·rfl
   ·show Stp.next (⟨1,_,(q::o).length+1,_⟩:o2)=Stp.next (⟨1,_,(q::o++[_]).length,_⟩:o2)
    rw[List.length_append]
    rfl
 ·cases o with
  | nil =>
   show O2 Stp.next Stp.exit Stp.fail _ _=_
   simp only[O2]
   rw[bfD (o8 (Nat.lt_irrefl _))]
   rfl
  | cons q o =>
   show O3 Stp.next Stp.exit Stp.fail _ _=_
   simp only[O3]
   rw[bfD (o8 (Nat.lt_irrefl _))]
   rfl
theorem ed1 (c:List Pln) {e:V3} (he:B12 e) (hc:c.length≤1000000):∃ t st,lp (ta4 ⟨e.x,e.y,e.z,c,(c.length:Int)⟩) ⟨0,0,0,[]⟩=(t,st)∧PE c e (-1) (fun j o=>(⟨phP o,(j:Int),o.length,bL tP o⟩:o3)) t st:=by
 refine Uc8 c e (-1) (step:=ta4 ⟨e.x,e.y,e.z,c,(c.length:Int)⟩) (mk:=fun j o=>(⟨phP o,(j:Int),o.length,bL tP o⟩:o3)) hc (fun j o hj ho=>?_) (fun o=>?_)
 ·have hn:=w8 hj (show c.length≤4611686018427387904 by omega)
  have hb:=i4 hj
  have hp:Bd0 (gL tP c j) (Ea4 ⟨e.x,e.y,e.z⟩ (gL tP c j))=if okq e (-1) (gL tP c j)=true then (pq e (-1) (gL tP c j),true) else (⟨⟨0,0,0⟩,0⟩,false):=ie5 he (.inr rfl) fun hp=>by
   show W (0 - wa7 (gL tP c j).n e)=_
   have:=ie3 hp he
   rw[rd7 hp he,U5 (by omega) (by omega)]
   omega
  cases o with
  | nil =>
   show O4 Stp.next Stp.exit Stp.fail _ _=_
   simp only[O4,Int.toNat_natCast,dd7,dd8,hp,hn,hb]
   rw[btD (k8 hj)]
   exact dd9 (fun p=>Stp.next (⟨1,((j+1:Nat):Int),1,[[i p.n.x,i p.n.y,i p.n.z,i p.b]]⟩:o3))
  | cons q o =>
   have rr:(Nat.beq (q::o).length (len (bL tP (q::o)))&&Nat.ble (((q::o).length+1)*32) room)=true:=kb0 rfl (by omega)
   show O5 Stp.next Stp.exit Stp.fail _ _=_
   simp only[O5,Int.toNat_natCast,dd7,dd8,hp,hn,hb,rr,Ue1]
   rw[btD (k8 hj)]
   refine (dd9 (fun p=>Stp.next (⟨1,((j+1:Nat):Int),(q::o).length+1,bL tP (q::o++[p])⟩:o3))).trans ?_
   cases okq e (-1) (gL tP c j)
   ·rfl
   ·show Stp.next (⟨1,_,(q::o).length+1,_⟩:o3)=Stp.next (⟨1,_,(q::o++[_]).length,_⟩:o3)
    rw[List.length_append]
    rfl
 ·cases o with
  | nil =>
   show O4 Stp.next Stp.exit Stp.fail _ _=_
   simp only[O4]
   rw[bfD (o8 (Nat.lt_irrefl _))]
   rfl
  | cons q o =>
   show O5 Stp.next Stp.exit Stp.fail _ _=_
   simp only[O5]
   rw[bfD (o8 (Nat.lt_irrefl _))]
   rfl
theorem Hd7 (l:List Pln):(two (r1L tP) r1B).rd (.tup [.sl 0 0 l.length 0,b true],[⟨73,4,bL tP l,true,false,0⟩])=some (l,true):=by
 have h:(r1L tP).rd [⟨73,4,bL tP l,true,false,0⟩] (.sl 0 0 l.length 0)=some l:=by
  show Bool.rec (motive:=fun _=>Option (List Pln)) none (some (slR tP (bL tP l) 0 l.length)) (Bool.and true (okS tP (bL tP l) 0 l.length))=_
  rw[ub5,Kb2]
  rfl
 simp only[two,h]
 rfl
theorem ie7 (c:List Pln) (e:V3) (hc:c.length≤1000000):∃ x,Ya8 c e=some x∧(two (r1L tP) r1B).rd x=some (zb1 c e 1):=by
 unfold Ya8 fb9 na6 zb1
 simp only[p5,j9,rd9,sd0]
 cases hb:Ib3 e with
 | false=>exact⟨_,rfl,rfl⟩
 | true =>
  obtain⟨t,st,h,hE⟩:=ed0 c ((Uc6 e).1 hb) hc
  rw[h]
  rcases hE with⟨rfl,ha⟩ | ⟨ha,rfl,j,rfl⟩
  ·rw[ha]
   exact⟨_,rfl,rfl⟩
  ·rw[ha]
   cases hm:c.map (pq e 1) with
   | nil=>exact⟨_,rfl,rfl⟩
   | cons q o=>exact⟨_,rfl,Hd7 (q::o)⟩
theorem sd1 (c:List Pln) (e:V3) (hc:c.length≤1000000):∃ x,Ea5 c e=some x∧(two (r1L tP) r1B).rd x=some (zb1 c e (-1)):=by
 unfold Ea5 gb0 na7 zb1
 simp only[p5,j9,rd9,sd0]
 cases hb:Ib3 e with
 | false=>exact⟨_,rfl,rfl⟩
 | true =>
  obtain⟨t,st,h,hE⟩:=ed1 c ((Uc6 e).1 hb) hc
  rw[h]
  rcases hE with⟨rfl,ha⟩ | ⟨ha,rfl,j,rfl⟩
  ·rw[ha]
   exact⟨_,rfl,rfl⟩
  ·rw[ha]
   cases hm:c.map (pq e (-1)) with
   | nil=>exact⟨_,rfl,rfl⟩
   | cons q o=>exact⟨_,rfl,Hd7 (q::o)⟩
section
variable (c:List Pln) (e:V3) (hc:c.length≤1000000)
include hc
theorem Bd1:Ha9 c e=zb1 c e 1:=by obtain⟨x,h,k⟩:=ie7 c e hc;unfold Ha9;rw[h];exact jb7 _ k
theorem Bd2:Ia0 c e=true:=by obtain⟨x,h,k⟩:=ie7 c e hc;unfold Ia0;rw[h];exact yb0 _ k
theorem sd2:Ea6 c e=zb1 c e (-1):=by obtain⟨x,h,k⟩:=sd1 c e hc;unfold Ea6;rw[h];exact jb7 _ k
theorem sd3:Ea7 c e=true:=by obtain⟨x,h,k⟩:=sd1 c e hc;unfold Ea7;rw[h];exact yb0 _ k
end
end Go.Ev.Ce
namespace Go.Ev.Ce
open Go Go.Ev Go.Ev.L Go.Proofs
noncomputable def mxS (n:V3) (m:Int) (v:V3):Int:=if z8 v n > m then z8 v n else m
noncomputable def mxL (n:V3):List V3→Int
 | []=>0
 | v::l=>l.foldl (mxS n) (z8 v n)
noncomputable def ie8 (l:List V3) (n:V3):Int×Bool:=(mxL n l,decide (0 < l.length))
theorem we7 (n v:V3):∀ l,l≠[]→mxL n (l++[v])=mxS n (mxL n l) v
 | [],h=>absurd rfl h
 | w::l,_=>by
  show (l++[v]).foldl (mxS n) (z8 w n)=_
  rw[List.foldl_append]
  rfl
theorem ie9 {n:V3} {l:List V3} {j:Nat} (hj:j < l.length):mxL n (l.take (j+1))=if j=0 then z8 (gL tV l j) n else mxS n (mxL n (l.take j)) (gL tV l j):=by
 rw[Ea9 tV hj]
 split
 ·rename_i h
  subst h
  rfl
 ·rename_i h
  refine we7 _ _ _ fun e=>?_
  have:=congrArg List.length e
  rw[List.length_take,List.length_nil] at this
  omega
theorem Uc9 (l:List V3) (n:V3) (hl:l.length≤1000000):wa8 l n=some (.tup [i (ie8 l n).1,b (ie8 l n).2],[]):=by
 obtain⟨t,s,h,rfl,k,rfl⟩:=Q3 (step:=ba5 ⟨l,l,(l.length:Int),n.x,n.y,n.z⟩) (mk:=fun j (m:Int)=>(⟨m,(j:Int)⟩:P5)) l.length (fun j m=>j≤l.length∧m=mxL n (l.take j)) (fun t s=>t=1∧∃ k:Int,s=⟨mxL n l,k⟩) (by omega)
  (fun j m hj hi=>by
   obtain⟨_,hi⟩:=hi
   have hn:=w8 hj (show l.length≤4611686018427387904 by omega)
   have hT:=ie9 (n:=n) hj
   simp only[ba5,ga4,Int.toNat_natCast,hn]
   rw[btD (k8 hj),bt (i4 hj)]
   by_cases h0:j=0
   ·subst h0
    exact .nx ⟨_,rfl,by omega,by rw[hT];rfl⟩
   ·rw[if_neg h0,← hi] at hT
    rw[bf (by rw[beq_eq_false_iff_ne];omega)]
    unfold mxS at hT
    split at hT
    ·rename_i h;rw[btD h];exact .nx ⟨_,rfl,by omega,hT.symm⟩
    ·rename_i h;rw[bfD h];exact .nx ⟨_,rfl,by omega,hT.symm⟩)
  (fun j m hj hi=>by
   obtain⟨hje,hi⟩:=hi
   have hje:j=l.length:=by omega
   subst hje
   rw[List.take_length] at hi
   subst hi
   refine⟨1,?_,rfl,_,rfl⟩
   simp only[ba5,ga4]
   rw[bfD (o8 (Nat.lt_irrefl _))]) 0 0 ⟨Nat.zero_le _,by simp[mxL]⟩
 have h:lp (ba5 ⟨l,l,(l.length:Int),n.x,n.y,n.z⟩) ⟨0,0⟩=_:=h
 unfold wa8 ie8
 simp only[p5,j9,h]
 have e:decide ((l.length:Int) > 0)=decide (0 < l.length):=by rw[decide_eq_decide];omega
 rw[e]
 rfl
theorem Vc0 (l:List V3) (n:V3) (hl:l.length≤1000000):wa9 l n=ie8 l n:=by unfold wa9;rw[Uc9 l n hl];rfl
theorem Vc1 (l:List V3) (n:V3) (hl:l.length≤1000000):xa0 l n=true:=by unfold xa0;rw[Uc9 l n hl];rfl
theorem Hd8 (l:List V3) (hl:l.length≤1000000000):ra5 l l=some (b true,[]):=by
 have he:∀ v:V3,(v.x==v.x&&(v.y==v.y&&(v.z==v.z&&true)))=true:=fun v=>by simp
 have h:=Lb6 (step:=ga5 ⟨l,l⟩) (mk:=fun j=>(⟨(j:Int)⟩:I4)) (c:=fun _=>false) (u:=1) (fin:=2) tV l hl
  (fun j hj=>by
   simp only[ga5,ca9,Int.toNat_natCast,w8 hj (by omega),he]
   rw[btD (k8 hj),bt (i4 hj),bt (i4 hj)]
   rfl)
  (by simp only[ga5,ca9];rw[bfD (o8 (Nat.lt_irrefl _))]) 0 (Nat.zero_le _)
 rw[List.drop_zero,show (l.any fun _=>false)=false by simp] at h
 unfold ra5
 simp only[p5,j9]
 rw[show (⟨0⟩:I4)=⟨((0:Nat):Int)⟩ from rfl,h,bf (by simp)]
 rfl
theorem we8 (l:List V3) (hl:l.length≤1000000000):ra6 l l=true:=by unfold ra6;rw[Hd8 l hl];rfl
theorem we9 (l:List V3) (hl:l.length≤1000000000):ra7 l l=true:=by unfold ra7;rw[Hd8 l hl];rfl
theorem xe0:Ka8=[⟨0,0,0⟩,⟨1,0,0⟩,⟨0,1,0⟩,⟨0,0,1⟩]:=rfl
theorem xe1:na8=true:=rfl
theorem jc3:∀ (l r:List V3),l.Pairwise LtV→r.Pairwise LtV→(∀ v,v∈l↔v∈r)→l=r
 | [],[],_,_,_=>rfl
 | [],y::r,_,_,h=>absurd ((h y).2 (List.mem_cons_self ..)) (by simp)
 | x::l,[],_,_,h=>absurd ((h x).1 (List.mem_cons_self ..)) (by simp)
 | x::l,y::r,h1,h2,h=>by
  obtain⟨a1,a2⟩:=List.pairwise_cons.1 h1
  obtain⟨b1,b2⟩:=List.pairwise_cons.1 h2
  have e:x=y:=by
   rcases List.mem_cons.1 ((h x).1 (List.mem_cons_self ..)) with e | hx
   ·exact e
   ·rcases List.mem_cons.1 ((h y).2 (List.mem_cons_self ..)) with e | hy
    ·exact e.symm
    ·exact absurd (ec8 (b1 x hx) (a1 y hy)) (Vb3 y)
  subst e
  have:l=r:=jc3 l r a2 b2 fun v=>by
   have hv:=h v
   simp only[List.mem_cons] at hv
   constructor
   ·intro hm
    rcases hv.1 (.inr hm) with e | h'
    ·subst e;exact absurd (a1 v hm) (Vb3 v)
    ·exact h'
   ·intro hm
    rcases hv.2 (.inr hm) with e | h'
    ·subst e;exact absurd (b1 v hm) (Vb3 v)
    ·exact h'
  rw[this]
end Go.Ev.Ce
namespace Go.Ev.Ce
open Go Go.Ev Go.Ev.L Go.Proofs
theorem Le0 {n:Nat} (h:n≤1000000000000):Nat.ble (n*24) room=true:=by
 rw[Nat.ble_eq];unfold room;omega
end Go.Ev.Ce
namespace Go.Ev.Ce
open Go Go.Ev Go.Ev.L Go.Proofs
def N46 (n:V3):Prop:=Sm 4608 n.x∧Sm 4608 n.y∧Sm 4608 n.z
section
variable (N:List V3) (hN:∀ n∈N,N46 n) (hl:N.length≤1000000)
include hN hl
end
end Go.Ev.Ce
namespace Go.Ev.Ce
open Go Go.Ev Go.Ev.L Go.Proofs
theorem xe2 {l:List V3} (hl:l.all inV=true):∀ p∈ws,∀ v∈l,dot p.n v≤p.b:=fun p hp v hv=>by
 have:=Ie9 (List.all_eq_true.1 hl v hv) p hp
 simp only[rmZ,ipt,dot] at this ⊢
 omega
section
variable {l:List V3} (hl:l.all inV=true) (h4:Sol l)
include hl
theorem Hd9 (v:V3):v∈ma6 (F0 l) l↔v∈l∧Spn (F0 l) v:=by
 unfold ma6
 rw[List.mem_filter,Db0]
 exact⟨fun h=>⟨h.1,(fe3 hl h.1).1 h.2⟩,fun h=>⟨h.1,(fe3 hl h.1).2 h.2⟩⟩
include h4
theorem Db2 {n:V3} {b:Int} (hv:∀ v∈ma6 (F0 l) l,dot n v≤b):∀ x∈l,dot n x≤b:=by
 have hfacs:=Gd8 hl fun p hp=>(db0 hl p).2 hp
 have hall:∀ p∈F0 l++ws,∀ v∈l,dot p.n v≤p.b:=fun p hp=>by
  rcases List.mem_append.1 hp with hp | hp
  ·exact ((db0 hl p).1 hp).hd
  ·exact xe2 hl p hp
 intro x hx
 have hz:∀ (a:Pln) (v:V3),rmZ a ⟨v.x,v.y,v.z,1⟩=a.b - dot a.n v:=fun a v=>by simp only[rmZ,dot];omega
 have hI:Inr (F0 l++ws) ⟨x.x,x.y,x.z,1⟩:=⟨by show (0:Int) < 1;omega,fun p hp=>by rw[hz];have:=hall p hp x hx;omega⟩
 have key:=ma5 (ce6 (F0 l)) (h:=⟨n,b⟩) (fun y hy=>by
  obtain⟨v,hvl,he,hs⟩:=ue3 h4 hfacs hall hy
  have h1:=hv v ((Hd9 hl v).2 ⟨hvl,hs⟩)
  have h2:=he.rm ⟨n,b⟩
  rw[hz] at h2
  have hw:=hy.w
  have h3:0≤(b - dot n v)*y.pw:=Int.mul_nonneg (by omega) (by omega)
  have h4:rmZ ⟨n,b⟩ y*1=(b - dot n v)*y.pw:=h2
  omega) hI
 rw[hz] at key
 have key:0≤b - dot n x:=key
 omega
theorem db2 {v:V3} (hv:v∈ma6 (F0 l) l):v∈l:=((Hd9 hl v).1 hv).1
theorem Le1:∃ v,v∈ma6 (F0 l) l:=by
 apply Classical.byContradiction
 intro hno
 obtain⟨x,hx⟩:=h4.ne
 have:=Db2 hl h4 (n:=⟨0,0,0⟩) (b:=-1) (fun v hv=>absurd ⟨v,hv⟩ hno) x hx
 simp[dot] at this
theorem xe3:Sol (ma6 (F0 l) l):=by
 obtain⟨a,ha⟩:=Le1 hl h4
 rcases bd8 ((ma6 (F0 l) l).map fun v=>B1 v a) with⟨x,y,z,hx,hy,hz,hw⟩ | ⟨d,hd,h⟩
 ·obtain⟨u,hu,rfl⟩:=List.mem_map.1 hx
  obtain⟨v,hv,rfl⟩:=List.mem_map.1 hy
  obtain⟨w,hw',rfl⟩:=List.mem_map.1 hz
  exact⟨a,v,w,u,ha,hv,hw',hu,fun e=>hw (by rw[← e];simp only[dot,d8,N3];grind)⟩
 ·exfalso
  have e:∀ v∈ma6 (F0 l) l,dot d v=dot d a:=fun v hv=>by
   have:=h _ (List.mem_map.2 ⟨v,hv,rfl⟩)
   simp only[dot,B1] at this ⊢
   grind
  obtain⟨v,hv,hne⟩:=h4.off hd (dot d a)
  have h1:=Db2 hl h4 (n:=d) (b:=dot d a) (fun w hw=>by rw[e w hw];exact Int.le_refl _) v hv
  have h2:=Db2 hl h4 (n:=neg d) (b:=-dot d a) (fun w hw=>by
   have:=e w hw
   have h3:dot (neg d) w=-dot d w:=by simp only[dot,neg];grind
   omega) v hv
  have h3:dot (neg d) v=-dot d v:=by simp only[dot,neg];grind
  omega
theorem Id0:(ma6 (F0 l) l).all inV=true:=List.all_eq_true.2 fun v hv=>List.all_eq_true.1 hl v (db2 hl h4 hv)
theorem xe4 {p:Pln} (hp:Mc7 l p):Mc7 (ma6 (F0 l) l) p:=by
 refine⟨⟨fun v hv=>hp.hd v (db2 hl h4 hv),?_⟩,hp.ok⟩
 obtain⟨u,w,x,hu,hw,hx,h3,t1,t2,t3⟩:=hp.on
 -- a zd6 on the plane
 obtain⟨a,ha,ta⟩:∃ a∈ma6 (F0 l) l,dot p.n a=p.b:=by
  apply Classical.byContradiction
  intro hno
  have:=Db2 hl h4 (n:=p.n) (b:=p.b - 1) (fun v hv=>by
   have h1:=hp.hd v (db2 hl h4 hv)
   have h2:dot p.n v≠p.b:=fun e=>hno ⟨v,hv,e⟩
   omega) u hu
  omega
 rcases bd8 (p.n::(((ma6 (F0 l) l).filter fun v=>dot p.n v==p.b).map fun v=>B1 v a)) with⟨n1,n2,n3,k1,k2,k3,hne⟩ | ⟨d,hd,hz⟩
 ·have on : ∀ {n}, n ∈ p.n :: (((ma6 (F0 l) l).filter fun v => dot p.n v == p.b).map fun v => B1 v a) → n = p.n ∨ ∃ v ∈ ma6 (F0 l) l, dot p.n v = p.b ∧ n = B1 v a := fun {n} hn => by
   rcases List.mem_cons.1 hn with e | hn
   ·exact .inl e
   ·obtain⟨v,hv,rfl⟩:=List.mem_map.1 hn
    obtain⟨h1,h2⟩:=List.mem_filter.1 hv
    exact .inr ⟨v,h1,beq_iff_eq.1 h2,rfl⟩
  have fin:∀ {v1 v2:V3},v1∈ma6 (F0 l) l→v2∈ma6 (F0 l) l→dot p.n v1=p.b→dot p.n v2=p.b→dot p.n (d8 (B1 v1 a) (B1 v2 a))≠0→∃ u w x,u∈ma6 (F0 l) l∧w∈ma6 (F0 l) l∧x∈ma6 (F0 l) l∧N3 u w x≠⟨0,0,0⟩∧dot p.n u=p.b∧dot p.n w=p.b∧dot p.n x=p.b:=fun {v1 v2} hv1 hv2 e1 e2 h=>⟨a,v1,v2,ha,hv1,hv2,Tc2 h,ta,e1,e2⟩
  rcases on k1 with rfl | ⟨v1,m1,e1,rfl⟩<;>rcases on k2 with rfl | ⟨v2,m2,e2,rfl⟩<;>rcases on k3 with rfl | ⟨v3,m3,e3,rfl⟩
  ·exact absurd (by simp only[dot,d8];grind) hne
  ·exact absurd (by simp only[dot,d8];grind) hne
  ·exact absurd (by simp only[dot,d8];grind) hne
  ·exact fin m2 m3 e2 e3 hne
  ·exact absurd (by simp only[dot,d8];grind) hne
  ·exact fin m3 m1 e3 e1 fun e=>hne (by rw[← e];simp only[dot,d8];grind)
  ·exact fin m1 m2 e1 e2 fun e=>hne (by rw[← e];simp only[dot,d8];grind)
  ·exfalso
   have q:∀ v:V3,dot p.n v=p.b→dot p.n (B1 v a)=0:=fun v e=>by
    have:dot p.n (B1 v a)=dot p.n v - dot p.n a:=by simp only[dot,B1];grind
    omega
   have r1:=q v1 e1;have r2:=q v2 e2;have r3:=q v3 e3
   have hw:mw ⟨B1 v1 a,0⟩ ⟨B1 v2 a,0⟩ ⟨B1 v3 a,0⟩≠0:=hne
   refine Tc1 hp.ok (Vb1 hw ?_ ?_ ?_)
   ·rw[← r1];simp only[dot];grind
   ·rw[← r2];simp only[dot];grind
   ·rw[← r3];simp only[dot];grind
 ·exfalso
  have hdn:dot p.n d=0:=hz _ List.mem_cons_self
  have hdv:∀ v∈ma6 (F0 l) l,dot p.n v=p.b→dot d v=dot d a:=fun v hv e=>by
   have:=hz _ (List.mem_cons_of_mem _ (List.mem_map.2 ⟨v,List.mem_filter.2 ⟨hv,beq_iff_eq.2 e⟩,rfl⟩))
   simp only[dot,B1] at this ⊢
   grind
  -- one of the Ne0 points is off the line
  have hoff:¬ (dot d u=dot d a∧dot d w=dot d a∧dot d x=dot d a):=fun⟨g1,g2,g3⟩=>by
   have ht:=(pa1 (Za2 (List.all_eq_true.1 hl u hu) (List.all_eq_true.1 hl w hw) (List.all_eq_true.1 hl x hx) h3)).2
   have hm:mw p ⟨B1 w u,0⟩ ⟨B1 x u,0⟩≠0:=by
    have hN:mw p ⟨B1 w u,0⟩ ⟨B1 x u,0⟩=dot p.n (N3 u w x):=rfl
    rw[hN]
    intro e
    obtain⟨_,⟨g,hg,f1,f2,f3⟩,_⟩:=ht
    have f1:g*(C9 u w x).1.n.x=(N3 u w x).x:=f1
    have f2:g*(C9 u w x).1.n.y=(N3 u w x).y:=f2
    have f3:g*(C9 u w x).1.n.z=(N3 u w x).z:=f3
    have e2:g*dot p.n (C9 u w x).1.n=0:=by rw[← e];simp only[dot];rw[← f1,← f2,← f3];grind
    have e3:=(Int.mul_eq_zero.1 e2).resolve_left (by omega)
    have hpn:=Tc1 hp.ok
    have hpos:=Gd7 hpn
    rcases Dc9 ((pa1 (Za2 (List.all_eq_true.1 hl u hu) (List.all_eq_true.1 hl w hw) (List.all_eq_true.1 hl x hx) h3)).2) hp.ok t1 t2 t3 with hq | hq
    ·rw[← hq] at e3;omega
    ·have : dot p.n (C9 u w x).1.n = -dot p.n p.n := by
      have h5:p.n=⟨-(C9 u w x).1.n.x,-(C9 u w x).1.n.y,-(C9 u w x).1.n.z⟩:=congrArg Pln.n hq
      have h6:(C9 u w x).1.n=⟨-p.n.x,-p.n.y,-p.n.z⟩:=by
       rw[h5]
       simp
      rw[h6]
      simp only[dot]
      grind
     omega
   refine hd (Vb1 hm hdn ?_ ?_)
   ·show dot (B1 w u) d=0
    have:dot (B1 w u) d=dot d w - dot d u:=by simp only[dot,B1];grind
    omega
   ·show dot (B1 x u) d=0
    have:dot (B1 x u) d=dot d x - dot d u:=by simp only[dot,B1];grind
    omega
  -- so a plane that is turned a little would Te4 it out
  have main:∀ (e:V3) (t:V3),t∈l→dot p.n t=p.b→(∀ v∈ma6 (F0 l) l,dot p.n v=p.b→dot e v=dot e a)→dot e t≤dot e a:=fun e t ht hte hev=>by
   obtain⟨N,hN,hbig⟩:=big e ((ma6 (F0 l) l).map fun v=>⟨B1 v a,0⟩)
   have:=Db2 hl h4 (n:=⟨e.x+N*p.n.x,e.y+N*p.n.y,e.z+N*p.n.z⟩) (b:=dot e a+N*p.b) (fun v hv=>by
    have h1:dot ⟨e.x+N*p.n.x,e.y+N*p.n.y,e.z+N*p.n.z⟩ v=dot e v+N*dot p.n v:=by simp only[dot];grind
    rw[h1]
    by_cases hvp:dot p.n v=p.b
    ·rw[hvp,hev v hv hvp];exact Int.le_refl _
    ·have h2:=hp.hd v (db2 hl h4 hv)
     have h3:=(hbig _ (List.mem_map.2 ⟨v,hv,rfl⟩)).1
     have h4:dot (B1 v a) e=dot e v - dot e a:=by simp only[dot,B1];grind
     have h3:dot (B1 v a) e≤N:=h3
     have h5:N*dot p.n v≤N*(p.b - 1):=Int.mul_le_mul_of_nonneg_left (by omega) (by omega)
     rw[Int.mul_sub,Int.mul_one] at h5
     omega) t ht
   have h1:dot ⟨e.x+N*p.n.x,e.y+N*p.n.y,e.z+N*p.n.z⟩ t=dot e t+N*dot p.n t:=by simp only[dot];grind
   rw[h1,hte] at this
   omega
  have both:∀ t,t∈l→dot p.n t=p.b→dot d t=dot d a:=fun t ht hte=>by
   have g1:=main d t ht hte hdv
   have g2:=main (neg d) t ht hte (fun v hv e=>by
    have:=hdv v hv e
    have q1:∀ z:V3,dot (neg d) z=-dot d z:=fun z=>by simp only[dot,neg];grind
    rw[q1,q1];omega)
   have q1:∀ z:V3,dot (neg d) z=-dot d z:=fun z=>by simp only[dot,neg];grind
   rw[q1,q1] at g2
   omega
  exact hoff ⟨both u hu t1,both w hw t2,both x hx t3⟩
theorem Le2:F0 (ma6 (F0 l) l)=F0 l:=by
 refine ec6 (zd9 _) (zd9 _) fun p=>?_
 rw[db0 (Id0 hl h4),db0 hl]
 refine⟨fun h=>⟨⟨Db2 hl h4 h.hd,?_⟩,h.ok⟩,fun h=>xe4 hl h4 h⟩
 obtain⟨u,w,x,hu,hw,hx,hr⟩:=h.on
 exact⟨u,w,x,db2 hl h4 hu,db2 hl h4 hw,db2 hl h4 hx,hr⟩
theorem xe5 (h48:l.length≤48):Ma0 (ma6 (F0 l) l)=0:=by
 refine fc0 ?_ (Id0 hl h4) (xe3 hl h4)
 have h1:=sc6 l
 have h2:(ma6 (F0 l) l).length≤(dis l).length:=List.length_filter_le _ _
 omega
end
end Go.Ev.Ce
namespace Go.Ev.Ce
open Go Go.Ev Go.Ev.L Go.Proofs
theorem xe6 (p:Pln) (v:V3):Sa3 ⟨p.n.x,p.n.y,p.n.z,p.b,v.x,v.y,v.z⟩=⟨1,decide (V2 p v > 0)⟩:=by
 unfold Sa3 ta5
 simp only[Vb5,Vb6]
 rfl
theorem xe7 (l : List Pln) (v : V3) (hl : l.length ≤ 1000000000) :
  Q6 ⟨l,v.x,v.y,v.z⟩=⟨1,if l.any (fun p=>decide (V2 p v > 0)) then ((l.findIdx (fun p=>decide (V2 p v > 0)):Nat):Int) else -1⟩:=by
 have h:=Ra6 (step:=D2 ⟨l,(l.length:Int),v.x,v.y,v.z⟩) (mk:=fun j=>(⟨(j:Int)⟩:l9)) (c:=fun p=>decide (V2 p v > 0)) (u:=1) (fin:=2) tP l hl
  (fun j hj=>by
   simp only[D2,C3,Int.toNat_natCast,xe6,w8 hj (show l.length≤4611686018427387904 by omega)]
   rw[btD (k8 hj),bt (i4 hj)]
   rfl)
  (by simp only[D2,C3];rw[bfD (o8 (Nat.lt_irrefl _))]) 0 (Nat.zero_le _)
 rw[List.drop_zero] at h
 unfold Q6 C6
 simp only[p5,j9]
 rw[show (⟨0⟩:l9)=⟨((0:Nat):Int)⟩ from rfl,h]
 split
 ·simp only[Nat.zero_add];rfl
 ·rfl
theorem xe8 (l:List Pln) (v:V3) (hl:l.length≤1000000000):L5 ⟨l,v.x,v.y,v.z⟩=⟨1,l.any fun p=>decide (V2 p v > 0)⟩:=by
 unfold L5 y5
 simp only[p5,j9,xe7 l v hl]
 split
 ·rename_i h
  rw[h,show decide (((l.findIdx (fun p=>decide (V2 p v > 0)):Nat):Int)≥0)=true from decide_eq_true (by omega)];rfl
 ·rename_i h
  rw[Bool.not_eq_true] at h
  rw[h];rfl
theorem je0 {l:List V3} (hc:Ma0 l=0) {v:V3} (hv:inV v=true) (hf:∀ p∈F0 l,dot p.n v≤p.b):Za5 l v=some (b true,[]):=by
 obtain⟨h48,hl,h4⟩:=fc1 hc
 have hne:1≤l.length:=by
  obtain⟨a,ha⟩:=h4.ne
  exact List.length_pos_of_mem ha
 have hg:gb2 l=true:=decide_eq_true ⟨hne,by omega⟩
 have hp:Ka7 l=(F0 l,0):=by unfold Ka7 Za3;rw[if_pos hc]
 have hF:=qd8 h48 hl
 have hany:(F0 l).any (fun p=>decide (V2 p v > 0))=false:=by
  rw[List.any_eq_false]
  intro p hp' hs
  have:=(Dc4 ((db0 hl p).1 hp').ok hv).1 (of_decide_eq_true hs)
  have:=hf p hp'
  omega
 unfold Za5
 simp only[p5,Ua4,j9,hg,hp,(yb1 v).1,(yb1 v).2,hv,xe8 (F0 l) v (by omega),hany]
 rfl
theorem je1 {l:List V3} (hc:Ma0 l=0) {v:V3} (hv:inV v=true) (hf:∀ p∈F0 l,dot p.n v≤p.b):ra3 l v=true:=by unfold ra3;rw[je0 hc hv hf];rfl
theorem je2 {l:List V3} (hc:Ma0 l=0) {v:V3} (hv:inV v=true) (hf:∀ p∈F0 l,dot p.n v≤p.b):ra4 l v=true:=by unfold ra4;rw[je0 hc hv hf];rfl
end Go.Ev.Ce
namespace Go.Ev.Ce
open Go Go.Ev Go.Ev.L Go.Proofs
def Sa5 (a c:V3):V3:=⟨a.x+c.x,a.y+c.y,a.z+c.z⟩
theorem ed2 {a c:V3} (ha:Sm 1000 a.x∧Sm 1000 a.y∧Sm 1000 a.z) (hc:Sm 1000 c.x∧Sm 1000 c.y∧Sm 1000 c.z):e8 a c=Sa5 a c:=by
 obtain⟨⟨a1,a2⟩,⟨a3,a4⟩,a5,a6⟩:=ha
 obtain⟨⟨c1,c2⟩,⟨c3,c4⟩,c5,c6⟩:=hc
 unfold e8 Sa5
 rw[U5 (by omega) (by omega),U5 (by omega) (by omega),U5 (by omega) (by omega)]
theorem Id1 (n a c:V3):dot n (Sa5 a c)=dot n a+dot n c:=by simp only[dot,Sa5];grind
structure Sx (A B:List V3):Prop where
 a:Sol A
 b:∃ y,y∈B
 sa:∀ x∈A,Sm 1000 x.x∧Sm 1000 x.y∧Sm 1000 x.z
 sb:∀ y∈B,Sm 1000 y.x∧Sm 1000 y.y∧Sm 1000 y.z
 i:∀ x∈A,∀ y∈B,inV (Sa5 x y)=true
 la:A.length≤48
 lb:B.length≤48
 l:(la0 A B).length≤48
section
variable {A B:List V3} (h:Sx A B)
include h
theorem Sx.mem (w:V3):w∈la0 A B↔∃ x∈A,∃ y∈B,w=Sa5 x y:=by
 rw[rd4]
 constructor
 ·rintro⟨x,hx,y,hy,rfl⟩;exact⟨x,hx,y,hy,ed2 (h.sa x hx) (h.sb y hy)⟩
 ·rintro⟨x,hx,y,hy,rfl⟩;exact⟨x,hx,y,hy,(ed2 (h.sa x hx) (h.sb y hy)).symm⟩
theorem Sx.inV:(la0 A B).all Ce.inV=true:=List.all_eq_true.2 fun w hw=>by
 obtain⟨x,hx,y,hy,rfl⟩:=(h.mem w).1 hw
 exact h.i x hx y hy
theorem Sx.sol:Sol (la0 A B):=by
 obtain⟨a,c,k,v,ha,hc,hk,hv,hne⟩:=h.a
 obtain⟨y,hy⟩:=h.b
 exact⟨Sa5 a y,Sa5 c y,Sa5 k y,Sa5 v y,(h.mem _).2 ⟨a,ha,y,hy,rfl⟩,(h.mem _).2 ⟨c,hc,y,hy,rfl⟩,(h.mem _).2 ⟨k,hk,y,hy,rfl⟩,(h.mem _).2 ⟨v,hv,y,hy,rfl⟩,fun e=>hne (by
  rw[← e];simp only[dot,N3,d8,B1,Sa5];grind)⟩
theorem Sx.chk:Ma0 (la0 A B)=0:=fc0 h.l h.inV h.sol
theorem Sx.sum:Fc7 A B=(ma6 (F0 (la0 A B)) (la0 A B),0):=by
 unfold Fc7 fc2
 have:=h.la;have:=h.lb
 rw[if_neg (by omega),if_pos h.chk]
theorem Sx.has {w : V3} (hw : Ce.inV w = true) (hf : ∀ (n : V3) (b : Int), (∀ x ∈ A, ∀ y ∈ B, dot n x + dot n y ≤ b) → dot n w ≤ b) :
  ra3 (ma6 (F0 (la0 A B)) (la0 A B)) w=true∧ra4 (ma6 (F0 (la0 A B)) (la0 A B)) w=true:=by
 have hc:=xe5 h.inV h.sol h.l
 have hk:∀ p∈F0 (ma6 (F0 (la0 A B)) (la0 A B)),dot p.n w≤p.b:=fun p hp=>by
  rw[Le2 h.inV h.sol] at hp
  have hd:=((db0 h.inV p).1 hp).hd
  refine hf p.n p.b fun x hx y hy=>?_
  have:=hd _ ((h.mem _).2 ⟨x,hx,y,hy,rfl⟩)
  rwa [Id1] at this
 exact⟨je1 hc hw hk,je2 hc hw hk⟩
end
end Go.Ev.Ce
namespace Go.Ev.Ce
open Go Go.Ev Go.Ev.L Go.Proofs
noncomputable def tet:List V3:=[⟨0,0,0⟩,⟨1,0,0⟩,⟨0,1,0⟩,⟨0,0,1⟩]
noncomputable def je3:List V3:=[⟨0,0,0⟩,⟨2,0,0⟩,⟨1,0,0⟩,⟨3,0,0⟩,⟨0,1,0⟩,⟨2,1,0⟩,⟨0,0,1⟩,⟨2,0,1⟩]
noncomputable def xe9:List V3:=[⟨0,0,0⟩,⟨0,0,1⟩,⟨0,1,0⟩,⟨1,0,0⟩,⟨2,0,0⟩,⟨2,0,1⟩,⟨2,1,0⟩,⟨3,0,0⟩]
noncomputable def sd4:List V3:=[⟨0,0,0⟩,⟨0,0,1⟩,⟨0,1,0⟩,⟨2,0,1⟩,⟨2,1,0⟩,⟨3,0,0⟩]
theorem ye0:la0 tet [⟨0,0,0⟩,⟨2,0,0⟩]=je3:=by kernel_rfl
theorem ye1:Ma0 je3=0:=by kernel_rfl
theorem ye2:dis je3=xe9:=by
 refine jc3 _ _ (ee0 _) ?_ fun v=>?_
 ·simp[xe9,LtV]
 ·rw[Db0]
  unfold je3 xe9
  simp only[List.mem_cons,List.not_mem_nil,or_false]
  constructor<;>rintro (h | h | h | h | h | h | h | h)<;>simp[h]
theorem ye3:xe9.filter (kv (F0 je3))=sd4:=by kernel_rfl
theorem ye4:Fc7 tet [⟨0,0,0⟩,⟨2,0,0⟩]=(sd4,0):=by
 unfold Fc7
 rw[if_neg (by simp[tet]),ye0]
 unfold fc2 ma6
 rw[if_pos ye1,ye2,ye3]
theorem je4:Fc7 tet []=([],11):=by
 unfold Fc7
 rw[if_neg (by simp[tet])]
 have h:la0 tet []=[]:=by kernel_rfl
 rw[h]
 unfold fc2
 rw[yb6,if_neg (by omega)]
theorem ye5:Fc7 tet [⟨24,0,0⟩]=([],3):=by
 unfold Fc7
 rw[if_neg (by simp[tet])]
 have h:Ma0 (la0 tet [⟨24,0,0⟩])=3:=by kernel_rfl
 unfold fc2
 rw[h,if_neg (by omega)]
theorem ye6:ie8 tet ⟨3,-1,2⟩=(3,true):=by kernel_rfl
theorem cf8:zb1 [⟨⟨1,1,1⟩,3⟩,⟨⟨-1,0,0⟩,0⟩] ⟨1,0,2⟩ 1=([⟨⟨1,1,1⟩,6⟩,⟨⟨-1,0,0⟩,1⟩],true):=by kernel_rfl
theorem cf9:zb1 [⟨⟨1,1,1⟩,3⟩,⟨⟨-1,0,0⟩,0⟩] ⟨1,0,2⟩ (-1)=([⟨⟨1,1,1⟩,0⟩,⟨⟨-1,0,0⟩,-1⟩],true):=by kernel_rfl
theorem df0:zb1 [⟨⟨1,1,1⟩,3⟩,⟨⟨-1,0,0⟩,0⟩] ⟨13,0,0⟩ 1=([],false):=by kernel_rfl
theorem df1:zb1 [⟨⟨1,1,1⟩,3⟩,⟨⟨-1,0,0⟩,0⟩] ⟨0,-1,0⟩ (-1)=([],false):=by kernel_rfl
theorem df2:zb1 [⟨⟨1,0,0⟩,2097152⟩] ⟨1,0,0⟩ 1=([],false):=by kernel_rfl
theorem sd5:ra8=some (b true,[]):=by
 have ht:Ka8=tet:=xe0
 have lt:tet.length≤1000000:=by simp[tet]
 unfold ra8
 simp only[ht,xe1,p5,Ua4,Ce5,Ce6,ye4,je4,ye5,Vc0 tet _ lt,Vc1 tet _ lt,ye6,Vc0 [] _ (by simp),Vc1 [] _ (by simp)]
 rw[Bd1 _ _ (by simp),Bd2 _ _ (by simp),sd2 _ _ (by simp),sd3 _ _ (by simp),Bd1 _ ⟨13,0,0⟩ (by simp),Bd2 _ ⟨13,0,0⟩ (by simp),sd2 _ ⟨0,-1,0⟩ (by simp),sd3 _ ⟨0,-1,0⟩ (by simp),Bd1 [⟨⟨1,0,0⟩,2097152⟩] _ (by simp),Bd2 [⟨⟨1,0,0⟩,2097152⟩] _ (by simp),cf8,cf9,df0,df1,df2]
 simp only[ae7 _ (show [(⟨⟨1,1,1⟩,6⟩:Pln),⟨⟨-1,0,0⟩,1⟩].length≤1000000000 by simp),ae8 _ (show [(⟨⟨1,1,1⟩,6⟩:Pln),⟨⟨-1,0,0⟩,1⟩].length≤1000000000 by simp),ae7 _ (show [(⟨⟨1,1,1⟩,0⟩:Pln),⟨⟨-1,0,0⟩,-1⟩].length≤1000000000 by simp),ae8 _ (show [(⟨⟨1,1,1⟩,0⟩:Pln),⟨⟨-1,0,0⟩,-1⟩].length≤1000000000 by simp)]
 have e1:ra6 sd4 [⟨0,0,0⟩,⟨0,0,1⟩,⟨0,1,0⟩,⟨2,0,1⟩,⟨2,1,0⟩,⟨3,0,0⟩]=true:=we8 sd4 (by simp[sd4])
 have e2:ra7 sd4 [⟨0,0,0⟩,⟨0,0,1⟩,⟨0,1,0⟩,⟨2,0,1⟩,⟨2,1,0⟩,⟨3,0,0⟩]=true:=we9 sd4 (by simp[sd4])
 rw[e1,e2]
 rfl
theorem Bd3:Fa2=true:=by unfold Fa2;rw[sd5];rfl
theorem Bd4:Fa3=true:=by unfold Fa3;rw[sd5];rfl
end Go.Ev.Ce
section
namespace Go.Ev.Ce
open Go Go.Ev Go.Ev.L Go.Proofs
set_option maxRecDepth 100000
structure td1 where
 bs7:Bool
 df9:Int
 c9:Int
 c7:Int
 d7:Int
 d9:List V3
 Qd1:List V3
 Qd2:List V3
 Qd3:List V3
 Qd4:List V3
 Qd5:List V3
 Qd6:List V3
 Qd7:List V3
 Qd8:List V3
 ze2:Nat
 Ve6:Nat→List b7
 Ve7:Nat
 Ve8:Nat→List b7
structure td2 where
 ef5:Int
structure td3 where
 bs7:Bool
 c9:Int
 c7:Int
 d7:Int
structure td4 where
 df9:Int
 d9:List V3
 Qd1:List V3
 Qd2:List V3
 Qd3:List V3
 Qd4:List V3
 Qd5:List V3
 Qd6:List V3
 Qd7:List V3
 Qd8:List V3
end Go.Ev.Ce
end
namespace Go.Ev.Ce
open Go Go.Ev Go.Ev.L Go.Proofs
theorem Ue2 (x:List Int):(T8 x).1::(T8 x).2=f8 x:=by
 have h:=Cc8 x
 unfold T8
 cases hL:f8 x with
 | nil=>rw[hL] at h;simp at h
 | cons a l=>rfl
end Go.Ev.Ce
section
namespace Go.Ev.Ce
open Go Go.Ev Go.Ev.L Go.Proofs
set_option maxRecDepth 100000
noncomputable def Ib4:List (Nat×Sum):=[(80,Rc1)]
theorem Fc8:j7 prog G Ib4:=⟨yd4,trivial⟩
structure U9 where
 f7:List V3
 c9:Int
 c7:Int
 d7:Int
structure u7 where
 ph:Nat
 is6:Int
 ns5:Nat
 eh1:List (List b7)
noncomputable def gc3 (p:U9) (s:u7):St:=⟨((eL tV p.f7)::(.unk::(.unk::((.ptr 0 0 0 0)::(.unk::((.v (.slice none 0 0))::((i s.is6)::(ra 16 [])))))))),[⟨0,3,[[(i p.c9),(i p.c7),(i p.d7)]],true,false,0⟩]⟩
noncomputable def gc4 (p:U9) (s:u7):St:=⟨((eL tV p.f7)::(.unk::(.unk::((.ptr 0 0 0 0)::(.unk::((.sl 1 0 s.ns5 0)::((i s.is6)::(ra 16 [])))))))),[⟨0,3,[[(i p.c9),(i p.c7),(i p.d7)]],true,false,0⟩,⟨27,3,s.eh1,true,false,0⟩]⟩
noncomputable def pc6 (p:U9) (s:u7):St:=(sel (Nat.beq s.ph 1) (gc4 p s) (gc3 p s))
noncomputable def T1 {α:Type} (k:u7→α) (e:Nat→α) (z:α) (p:U9) (s:u7):α:=let t1:=(Cb1 (gL tV p.f7 s.is6.toNat) (⟨p.c9,p.c7,p.d7⟩:V3));(sl (decide (s.is6 < (↑(List.length p.f7):Int))) (sl (inB s.is6 (List.length p.f7)) (k ⟨1,(W (s.is6+1)),1,[[(i t1.x),(i t1.y),(i t1.z)]]⟩) z) (e 1))
noncomputable def T2 {α:Type} (k:u7→α) (e:Nat→α) (z:α) (p:U9) (s:u7):α:=let t1:=(Cb1 (gL tV p.f7 s.is6.toNat) (⟨p.c9,p.c7,p.d7⟩:V3));(sl (decide (s.is6 < (↑(List.length p.f7):Int))) (sl (inB s.is6 (List.length p.f7)) (sl (Nat.beq s.ns5 (len s.eh1)&&Nat.ble ((s.ns5+1)*24) room) (k ⟨1,(W (s.is6+1)),(s.ns5+1),(app s.eh1 [[(i t1.x),(i t1.y),(i t1.z)]])⟩) z) z) (e 2))
noncomputable def za1 (p:U9) (s:u7):Stp u7:=(sel (Nat.beq s.ph 1) (T2 .next .exit .fail p s) (T1 .next .exit .fail p s))
noncomputable def Za7:Lo U9 u7:=⟨En Ib4,0,Oe4,[1,1,0,1,4,4],[0,3,5,6],.p,[⟨((.s (.c 3 (nL tV)))::((.s (.o .unk))::((.s (.o .unk))::((.s (.o (.ptr 0 0 0 0)))::((.s (.o .unk))::((.s (.o .nil))::((.s (.o (.int .i64)))::(ru2 16 [])))))))),[⟨0,3,true,(some [[(.o (.int .i64)),(.o (.int .i64)),(.o (.int .i64))]])⟩],fun a H=>(⟨(rL tV (slT a 0)),(toI (slT (rwT (elT H 0) 0) 0)),(toI (slT (rwT (elT H 0) 0) 1)),(toI (slT (rwT (elT H 0) 0) 2))⟩,⟨0,(toI (slT a 6)),0,[]⟩)⟩,⟨((.s (.c 3 (nL tV)))::((.s (.o .unk))::((.s (.o .unk))::((.s (.o (.ptr 0 0 0 0)))::((.s (.o .unk))::((.s (.o (.sl 1 0 (some 0) none)))::((.s (.o (.int .i64)))::(ru2 16 [])))))))),[⟨0,3,true,(some [[(.o (.int .i64)),(.o (.int .i64)),(.o (.int .i64))]])⟩,⟨27,3,true,none⟩],fun a H=>(⟨(rL tV (slT a 0)),(toI (slT (rwT (elT H 0) 0) 0)),(toI (slT (rwT (elT H 0) 0) 1)),(toI (slT (rwT (elT H 0) 0) 2))⟩,⟨1,(toI (slT a 6)),(slN (slT a 5)),(elT H 1)⟩)⟩],za1,[(some 0,fun p s=>⟨((eL tV p.f7)::(.unk::(.unk::((.ptr 0 0 0 0)::(.unk::((.v (.slice none 0 0))::((i s.is6)::((i s.is6)::((eL tV p.f7)::((i (↑(List.length p.f7):Int))::((b (decide (s.is6 < (↑(List.length p.f7):Int))))::(ra 12 [])))))))))))),[⟨0,3,[[(i p.c9),(i p.c7),(i p.d7)]],true,false,0⟩]⟩),(some 0,fun p s=>⟨((eL tV p.f7)::(.unk::(.unk::((.ptr 0 0 0 0)::(.unk::((.sl 1 0 s.ns5 0)::((i s.is6)::((i s.is6)::((eL tV p.f7)::((i (↑(List.length p.f7):Int))::((b (decide (s.is6 < (↑(List.length p.f7):Int))))::(ra 12 [])))))))))))),[⟨0,3,[[(i p.c9),(i p.c7),(i p.d7)]],true,false,0⟩,⟨27,3,s.eh1,true,false,0⟩]⟩)],pc6⟩
theorem pc7:Za7.Ok:=Lo.ok [] (by kernel_rfl) .nil rfl (.cons (fun a H=>by kernel_rfl) (.cons (fun a H=>by kernel_rfl) .nil)) fun p s=>(.sel (Nat.beq s.ph 1) (.of @T2 (fun F _ _ _ _ _=>by unfold T2;(repeat' apply n7 (f:=F))<;>rfl) (by kernel_rfl)) (.of @T1 (fun F _ _ _ _ _=>by unfold T1;(repeat' apply n7 (f:=F))<;>rfl) (by kernel_rfl)))
structure Sa6 where
 alt:Nat
 ns0:Nat
 eh0:List (List b7)
noncomputable def ta6 {α:Type} (kk:Sa6→α) (x:List V3) (y:V3):α:=let t1:=(lp (za1 (⟨(rt tV x),y.x,y.y,y.z⟩:U9)) (⟨0,0,0,[]⟩:u7));(sl ((cnE tV x)&&true) (sl (Nat.beq t1.1 1) (kk ⟨1,0,[]⟩) (sl (Nat.beq t1.1 2) (kk ⟨2,t1.2.ns5,t1.2.eh1⟩) (kk ⟨0,0,[]⟩))) (kk ⟨0,0,[]⟩))
noncomputable def Fa4 (x:List V3) (y:V3):Sa6:=ta6 (fun r=>r) x y
noncomputable def gb5 (r:Sa6):DT (b7×List b9):=(.ite (Nat.beq r.alt 1) (.ret ((.v (.slice none 0 0)),[])) (.ite (Nat.beq r.alt 2) (.ret ((.sl 0 0 r.ns0 0),[⟨27,3,r.eh0,true,false,0⟩])) .fail))
theorem ed3 {α β:Type} (F:α→β) (kk:Sa6→α) (x:List V3) (y:V3):F (ta6 kk x y)=ta6 (fun r=>F (kk r)) x y:=by unfold ta6;(repeat' apply n7 (f:=F))<;>rfl
noncomputable def Wb3:Sum:=pa4 (Ba0 tV) (R7 tV) (fun x y=>gb5 (Fa4 x y))
theorem Nc3:g8 prog G 36 Wb3:=sa5 (bd b36 Fc8) fun x y=>Qa3 (.s .p (.s .p (.s (.s .p (.b (.u Za7.ls))) .p))) [Za7.pr] (by kernel_rfl) (.cons pc7 .nil) (Eq.trans (b:=ta6 (fun r=>(gb5 r).run) x y) (by kernel_rfl) (ed3 (fun r=>(gb5 r).run) (fun r=>r) x y).symm)
noncomputable def T3:List (Nat×Sum):=[(15,zb0),(25,Ib1),(34,vb8),(28,fc6),(33,Fc1),(36,Wb3)]
theorem Eb9:j7 prog G T3:=⟨pc5,Fc4,Qb7,Ec8,rd1,Nc3,trivial⟩
structure Z2 where
 is3:Int
 bs9:Bool
 V1:List V3
 c9:Int
 c7:Int
 d7:Int
 s6:Int
 s7:Int
 s8:Int
structure D4 where
 kb4:Nat
 Qd9:Int
 eh2:List (List b7)
noncomputable def zb2 (p:Z2) (s:D4):St:=⟨(ra 3 ((.v (.int .u8 p.is3))::(ra 5 ((b p.bs9)::((eL tV p.V1)::((.ptr 0 0 0 0)::((.ptr 1 0 0 0)::((.sl 2 0 s.kb4 0)::((i s.Qd9)::(ra 134 [])))))))))),[⟨0,3,[[(i p.c9),(i p.c7),(i p.d7)]],true,false,0⟩,⟨0,3,[[(i p.s6),(i p.s7),(i p.s8)]],true,false,0⟩,⟨27,3,s.eh2,true,false,0⟩]⟩
noncomputable def Q9 {α:Type} (k:D4→α) (e:Nat→α) (z:α) (p:Z2) (s:D4):α:=let t1:=(e8 (rdR tV s.eh2 (0+(W ((↑s.kb4:Int) - 1)).toNat)) (⟨p.s6,p.s7,p.s8⟩:V3));(sl (decide (s.Qd9 < (W (Int.tmod p.is3 4)))) (sl (inB (W ((↑s.kb4:Int) - 1)) s.kb4) (sl (ldR tV s.eh2 (0+(W ((↑s.kb4:Int) - 1)).toNat)) (sl (Nat.beq s.kb4 (len s.eh2)&&Nat.ble ((s.kb4+1)*24) room) (k ⟨(s.kb4+1),(W (s.Qd9+1)),(app s.eh2 [[(i t1.x),(i t1.y),(i t1.z)]])⟩) z) z) z) (e 1))
noncomputable def C4 (p:Z2) (s:D4):Stp D4:=Q9 .next .exit .fail p s
noncomputable def ua4:Lo Z2 D4:=⟨En T3,0,pf6,[1,1,1,1,1,1,0,1,4,4],[3,9,10,11,12,13,14],.p,[⟨(ru2 3 ((.s (.o (.int .u8)))::(ru2 5 ((.s (.o .bool))::((.s (.c 3 (nL tV)))::((.s (.o (.ptr 0 0 0 0)))::((.s (.o (.ptr 1 0 0 0)))::((.s (.o (.sl 2 0 (some 0) none)))::((.s (.o (.int .i64)))::(ru2 134 [])))))))))),[⟨0,3,true,(some [[(.o (.int .i64)),(.o (.int .i64)),(.o (.int .i64))]])⟩,⟨0,3,true,(some [[(.o (.int .i64)),(.o (.int .i64)),(.o (.int .i64))]])⟩,⟨27,3,true,none⟩],fun a H=>(⟨(toI (slT a 3)),(toB (slT a 9)),(rL tV (slT a 10)),(toI (slT (rwT (elT H 0) 0) 0)),(toI (slT (rwT (elT H 0) 0) 1)),(toI (slT (rwT (elT H 0) 0) 2)),(toI (slT (rwT (elT H 1) 0) 0)),(toI (slT (rwT (elT H 1) 0) 1)),(toI (slT (rwT (elT H 1) 0) 2))⟩,⟨(slN (slT a 13)),(toI (slT a 14)),(elT H 2)⟩)⟩],C4,[(some 0,fun p s=>⟨(ra 3 ((.v (.int .u8 p.is3))::(ra 5 ((b p.bs9)::((eL tV p.V1)::((.ptr 0 0 0 0)::((.ptr 1 0 0 0)::((.sl 2 0 s.kb4 0)::((i s.Qd9)::(ra 50 ((i s.Qd9)::((.v (.int .u8 p.is3))::((.v (.int .u8 (Int.tmod p.is3 4)))::((i (W (Int.tmod p.is3 4)))::((b (decide (s.Qd9 < (W (Int.tmod p.is3 4)))))::(ra 79 [])))))))))))))))),[⟨0,3,[[(i p.c9),(i p.c7),(i p.d7)]],true,false,0⟩,⟨0,3,[[(i p.s6),(i p.s7),(i p.s8)]],true,false,0⟩,⟨27,3,s.eh2,true,false,0⟩]⟩)],zb2⟩
theorem zb3:ua4.Ok:=Lo.ok [] (by kernel_rfl) .nil rfl (.cons (fun a H=>by kernel_rfl) .nil) fun p s=>(.of @Q9 (fun F _ _ _ _ _=>by unfold Q9;(repeat' apply n7 (f:=F))<;>rfl) (by kernel_rfl))
structure O6 where
 bs9:Bool
 V1:List V3
 P7:List V3
 Bd9:Nat
 jc5:Int
 db3:Int
 Wb7:List V3
 td0:Int
 c9:Int
 c7:Int
 d7:Int
 s6:Int
 s7:Int
 s8:Int
 ia4:Int
 ia5:Int
 ia6:Int
 eh3:List (List b7)
structure A1 where
 Gc0:Int
noncomputable def zb4 (p:O6) (s:A1):St:=⟨(ra 9 ((b p.bs9)::((eL tV p.V1)::((.ptr 0 0 0 0)::(ra 3 ((.ptr 1 0 0 0)::((eL tV p.P7)::(.unk::(.unk::((.ptr 2 0 0 0)::(ra 79 ((.sl 3 0 p.Bd9 0)::((i p.jc5)::((i p.db3)::(ra 3 ((eL tV p.Wb7)::((i p.td0)::((i s.Gc0)::(ra 41 []))))))))))))))))))),[⟨0,3,[[(i p.c9),(i p.c7),(i p.d7)]],true,false,0⟩,⟨0,3,[[(i p.s6),(i p.s7),(i p.s8)]],true,false,0⟩,⟨0,3,[[(i p.ia4),(i p.ia5),(i p.ia6)]],true,false,0⟩,⟨27,3,p.eh3,true,false,0⟩]⟩
noncomputable def R2 {α:Type} (k:A1→α) (e:Nat→α) (z:α) (p:O6) (s:A1):α:=let t1:=(e8 (gL tV p.Wb7 s.Gc0.toNat) (⟨p.ia4,p.ia5,p.ia6⟩:V3));let t2:=(ra3 (rt tV p.P7) t1);(sl (decide (s.Gc0 < p.td0)) (sl (inB s.Gc0 (List.length p.Wb7)) (sl (okE tV p.P7) (sl (ra4 (rt tV p.P7) t1) (sl (!t2) (e 1) (k ⟨(W (s.Gc0+1))⟩)) z) z) z) (e 2))
noncomputable def M4 (p:O6) (s:A1):Stp A1:=R2 .next .exit .fail p s
noncomputable def ua5:Lo O6 A1:=⟨En T3,0,pf6,[1,1,1,1,1,1,1,1,1,1,0,1,4,4,1,1,0,4,1,1,4,4],[9,10,11,15,16,19,99,100,101,105,106,107],.p,[⟨(ru2 9 ((.s (.o .bool))::((.s (.c 3 (nL tV)))::((.s (.o (.ptr 0 0 0 0)))::(ru2 3 ((.s (.o (.ptr 1 0 0 0)))::((.s (.c 3 (nL tV)))::((.s (.o .unk))::((.s (.o .unk))::((.s (.o (.ptr 2 0 0 0)))::(ru2 79 ((.s (.o (.sl 3 0 (some 0) none)))::((.s (.o (.int .i64)))::((.s (.o (.int .i64)))::(ru2 3 ((.s (.c 3 (nL tV)))::((.s (.o (.int .i64)))::((.s (.o (.int .i64)))::(ru2 41 []))))))))))))))))))),[⟨0,3,true,(some [[(.o (.int .i64)),(.o (.int .i64)),(.o (.int .i64))]])⟩,⟨0,3,true,(some [[(.o (.int .i64)),(.o (.int .i64)),(.o (.int .i64))]])⟩,⟨0,3,true,(some [[(.o (.int .i64)),(.o (.int .i64)),(.o (.int .i64))]])⟩,⟨27,3,true,none⟩],fun a H=>(⟨(toB (slT a 9)),(rL tV (slT a 10)),(rL tV (slT a 16)),(slN (slT a 99)),(toI (slT a 100)),(toI (slT a 101)),(rL tV (slT a 105)),(toI (slT a 106)),(toI (slT (rwT (elT H 0) 0) 0)),(toI (slT (rwT (elT H 0) 0) 1)),(toI (slT (rwT (elT H 0) 0) 2)),(toI (slT (rwT (elT H 1) 0) 0)),(toI (slT (rwT (elT H 1) 0) 1)),(toI (slT (rwT (elT H 1) 0) 2)),(toI (slT (rwT (elT H 2) 0) 0)),(toI (slT (rwT (elT H 2) 0) 1)),(toI (slT (rwT (elT H 2) 0) 2)),(elT H 3)⟩,⟨(toI (slT a 107))⟩)⟩],M4,[(none,fun p s=>⟨[(b false)],[]⟩),(some 4,fun p s=>⟨(ra 9 ((b p.bs9)::((eL tV p.V1)::((.ptr 0 0 0 0)::(ra 3 ((.ptr 1 0 0 0)::((eL tV p.P7)::(.unk::(.unk::((.ptr 2 0 0 0)::(ra 79 ((.sl 3 0 p.Bd9 0)::((i p.jc5)::((i p.db3)::(ra 3 ((eL tV p.Wb7)::((i p.td0)::((i s.Gc0)::((b (decide (s.Gc0 < p.td0)))::(ra 40 [])))))))))))))))))))),[⟨0,3,[[(i p.c9),(i p.c7),(i p.d7)]],true,false,0⟩,⟨0,3,[[(i p.s6),(i p.s7),(i p.s8)]],true,false,0⟩,⟨0,3,[[(i p.ia4),(i p.ia5),(i p.ia6)]],true,false,0⟩,⟨27,3,p.eh3,true,false,0⟩]⟩)],zb4⟩
theorem zb5:ua5.Ok:=Lo.ok [] (by kernel_rfl) .nil rfl (.cons (fun a H=>by kernel_rfl) .nil) fun p s=>(.of @R2 (fun F _ _ _ _ _=>by unfold R2;(repeat' apply n7 (f:=F))<;>rfl) (by kernel_rfl))
structure O7 where
 bs9:Bool
 Bd9:Nat
 jc5:Int
 c9:Int
 c7:Int
 d7:Int
 s6:Int
 s7:Int
 s8:Int
 eh2:List (List b7)
structure D5 where
 V1:List V3
 P7:List V3
 db3:Int
noncomputable def zb6 (p:O7) (s:D5):St:=⟨(ra 9 ((b p.bs9)::((eL tV s.V1)::((.ptr 0 0 0 0)::(ra 3 ((.ptr 1 0 0 0)::((eL tV s.P7)::(ra 82 ((.sl 2 0 p.Bd9 0)::((i p.jc5)::((i s.db3)::(ra 47 [])))))))))))),[⟨0,3,[[(i p.c9),(i p.c7),(i p.d7)]],true,false,0⟩,⟨0,3,[[(i p.s6),(i p.s7),(i p.s8)]],true,false,0⟩,⟨27,3,p.eh2,true,false,0⟩]⟩
noncomputable def R3 {α:Type} (k:D5→α) (e:Nat→α) (z:α) (p:O7) (s:D5):α:=let t1:=(lp (M4 (⟨p.bs9,(rt tV s.V1),(rt tV s.P7),p.Bd9,p.jc5,s.db3,(rt tV s.V1),(↑(List.length s.V1):Int),p.c9,p.c7,p.d7,p.s6,p.s7,p.s8,(rdR tV p.eh2 (0+s.db3.toNat)).x,(rdR tV p.eh2 (0+s.db3.toNat)).y,(rdR tV p.eh2 (0+s.db3.toNat)).z,p.eh2⟩:O6)) (⟨0⟩:A1));(sl (decide (s.db3 < p.jc5)) (sl (inB s.db3 p.Bd9) (sl (ldR tV p.eh2 (0+s.db3.toNat)) (sl ((cnE tV s.V1)&&((cnE tV s.P7)&&((cnE tV s.V1)&&true))) (sl (Nat.beq t1.1 1) (e 1) (sl (Nat.beq t1.1 2) (k ⟨(rt tV s.V1),(rt tV s.P7),(W (s.db3+1))⟩) z)) z) z) z) (e 2))
noncomputable def H4 (p:O7) (s:D5):Stp D5:=R3 .next .exit .fail p s
noncomputable def ua6:Lo O7 D5:=⟨En T3,0,pf6,[1,1,1,1,1,1,1,1,1,1,0,1,4,4],[9,10,11,15,16,99,100,101],(.s .p (.s .p (.s (.b (.s .p (.s .p (.b (.u ua5.ls))))) .p))),[⟨(ru2 9 ((.s (.o .bool))::((.s (.c 3 (nL tV)))::((.s (.o (.ptr 0 0 0 0)))::(ru2 3 ((.s (.o (.ptr 1 0 0 0)))::((.s (.c 3 (nL tV)))::(ru2 82 ((.s (.o (.sl 2 0 (some 0) none)))::((.s (.o (.int .i64)))::((.s (.o (.int .i64)))::(ru2 47 [])))))))))))),[⟨0,3,true,(some [[(.o (.int .i64)),(.o (.int .i64)),(.o (.int .i64))]])⟩,⟨0,3,true,(some [[(.o (.int .i64)),(.o (.int .i64)),(.o (.int .i64))]])⟩,⟨27,3,true,none⟩],fun a H=>(⟨(toB (slT a 9)),(slN (slT a 99)),(toI (slT a 100)),(toI (slT (rwT (elT H 0) 0) 0)),(toI (slT (rwT (elT H 0) 0) 1)),(toI (slT (rwT (elT H 0) 0) 2)),(toI (slT (rwT (elT H 1) 0) 0)),(toI (slT (rwT (elT H 1) 0) 1)),(toI (slT (rwT (elT H 1) 0) 2)),(elT H 2)⟩,⟨(rL tV (slT a 10)),(rL tV (slT a 16)),(toI (slT a 101))⟩)⟩],H4,[(none,fun p s=>⟨[(b false)],[]⟩),(some 2,fun p s=>⟨(ra 9 ((b p.bs9)::((eL tV s.V1)::((.ptr 0 0 0 0)::(ra 3 ((.ptr 1 0 0 0)::((eL tV s.P7)::(ra 82 ((.sl 2 0 p.Bd9 0)::((i p.jc5)::((i s.db3)::((b (decide (s.db3 < p.jc5)))::(ra 46 []))))))))))))),[⟨0,3,[[(i p.c9),(i p.c7),(i p.d7)]],true,false,0⟩,⟨0,3,[[(i p.s6),(i p.s7),(i p.s8)]],true,false,0⟩,⟨27,3,p.eh2,true,false,0⟩]⟩)],zb6⟩
theorem zb7:ua6.Ok:=Lo.ok [ua5.pr] (by kernel_rfl) (.cons zb5 .nil) rfl (.cons (fun a H=>by kernel_rfl) .nil) fun p s=>(.of @R3 (fun F _ _ _ _ _=>by unfold R3;(repeat' apply n7 (f:=F))<;>rfl) (by kernel_rfl))
structure v7 where
 bs9:Bool
 L6:List V3
 Za9:Int
 ja8:Int
 Wb8:Int
 c9:Int
 c7:Int
 d7:Int
 ed5:Nat
 Id3:Nat
 eh0:List (List b7)
 s6:Int
 s7:Int
 s8:Int
structure o0 where
 ph:Nat
 Gc1:Bool
 ab0:Int
noncomputable def qb9 (p:v7) (s:o0):St:=⟨(ra 9 ((b p.bs9)::(ra 12 ((.v (.slice none 0 0))::(.unk::((.ptr 0 0 0 0)::((b s.Gc1)::(ra 100 ((eL tV p.L6)::((i p.Za9)::((i p.ja8)::(ra 3 ((.v (.slice none 0 0))::((i p.Wb8)::((i s.ab0)::(ra 14 [])))))))))))))))),[⟨0,3,[[(i p.c9),(i p.c7),(i p.d7)]],true,false,0⟩]⟩
noncomputable def rb0 (p:v7) (s:o0):St:=⟨(ra 9 ((b p.bs9)::(ra 12 ((.sl 0 0 p.ed5 0)::(.unk::((.ptr 1 0 0 0)::((b s.Gc1)::(ra 100 ((eL tV p.L6)::((i p.Za9)::((i p.ja8)::(ra 3 ((.sl 0 0 p.Id3 0)::((i p.Wb8)::((i s.ab0)::(ra 14 [])))))))))))))))),[⟨27,3,p.eh0,true,false,0⟩,⟨0,3,[[(i p.s6),(i p.s7),(i p.s8)]],true,false,0⟩]⟩
noncomputable def zb8 (p:v7) (s:o0):St:=(sel (Nat.beq s.ph 1) (rb0 p s) (qb9 p s))
noncomputable def oa6 {α:Type} (k:o0→α) (e:Nat→α) (z:α) (p:v7) (s:o0):α:=(sl (decide (s.ab0 < p.Wb8)) z (e 1))
noncomputable def D6 {α:Type} (k:o0→α) (e:Nat→α) (z:α) (p:v7) (s:o0):α:=(sl (decide (s.ab0 < p.Wb8)) (sl (inB s.ab0 p.Id3) (sl (ldR tV p.eh0 (0+s.ab0.toNat)) (sl s.Gc1 (k ⟨1,true,(W (s.ab0+1))⟩) (k ⟨1,((p.s6==(rdR tV p.eh0 (0+s.ab0.toNat)).x)&&((p.s7==(rdR tV p.eh0 (0+s.ab0.toNat)).y)&&((p.s8==(rdR tV p.eh0 (0+s.ab0.toNat)).z)&&true))),(W (s.ab0+1))⟩)) z) z) (e 2))
noncomputable def V0 (p:v7) (s:o0):Stp o0:=(sel (Nat.beq s.ph 1) (D6 .next .exit .fail p s) (oa6 .next .exit .fail p s))
noncomputable def ua7:Lo v7 o0:=⟨En T3,0,pf6,[1,1,1,1,1,1,1,1,1,1,1,1,0,1,4,4,1,1,0,4,1,1,0,1,4,4],[9,22,24,25,126,127,128,132,133,134],.p,[⟨(ru2 9 ((.s (.o .bool))::(ru2 12 ((.s (.o .nil))::((.s (.o .unk))::((.s (.o (.ptr 0 0 0 0)))::((.s (.o .bool))::(ru2 100 ((.s (.c 3 (nL tV)))::((.s (.o (.int .i64)))::((.s (.o (.int .i64)))::(ru2 3 ((.s (.o .nil))::((.s (.o (.int .i64)))::((.s (.o (.int .i64)))::(ru2 14 [])))))))))))))))),[⟨0,3,true,(some [[(.o (.int .i64)),(.o (.int .i64)),(.o (.int .i64))]])⟩],fun a H=>(⟨(toB (slT a 9)),(rL tV (slT a 126)),(toI (slT a 127)),(toI (slT a 128)),(toI (slT a 133)),(toI (slT (rwT (elT H 0) 0) 0)),(toI (slT (rwT (elT H 0) 0) 1)),(toI (slT (rwT (elT H 0) 0) 2)),0,0,[],0,0,0⟩,⟨0,(toB (slT a 25)),(toI (slT a 134))⟩)⟩,⟨(ru2 9 ((.s (.o .bool))::(ru2 12 ((.s (.o (.sl 0 0 (some 0) none)))::((.s (.o .unk))::((.s (.o (.ptr 1 0 0 0)))::((.s (.o .bool))::(ru2 100 ((.s (.c 3 (nL tV)))::((.s (.o (.int .i64)))::((.s (.o (.int .i64)))::(ru2 3 ((.s (.o (.sl 0 0 (some 0) none)))::((.s (.o (.int .i64)))::((.s (.o (.int .i64)))::(ru2 14 [])))))))))))))))),[⟨27,3,true,none⟩,⟨0,3,true,(some [[(.o (.int .i64)),(.o (.int .i64)),(.o (.int .i64))]])⟩],fun a H=>(⟨(toB (slT a 9)),(rL tV (slT a 126)),(toI (slT a 127)),(toI (slT a 128)),(toI (slT a 133)),0,0,0,(slN (slT a 22)),(slN (slT a 132)),(elT H 0),(toI (slT (rwT (elT H 1) 0) 0)),(toI (slT (rwT (elT H 1) 0) 1)),(toI (slT (rwT (elT H 1) 0) 2))⟩,⟨1,(toB (slT a 25)),(toI (slT a 134))⟩)⟩],V0,[(some 8,fun p s=>⟨(ra 9 ((b p.bs9)::(ra 12 ((.v (.slice none 0 0))::(.unk::((.ptr 0 0 0 0)::((b s.Gc1)::(ra 100 ((eL tV p.L6)::((i p.Za9)::((i p.ja8)::(ra 3 ((.v (.slice none 0 0))::((i p.Wb8)::((i s.ab0)::((b (decide (s.ab0 < p.Wb8)))::(ra 13 []))))))))))))))))),[⟨0,3,[[(i p.c9),(i p.c7),(i p.d7)]],true,false,0⟩]⟩),(some 8,fun p s=>⟨(ra 9 ((b p.bs9)::(ra 12 ((.sl 0 0 p.ed5 0)::(.unk::((.ptr 1 0 0 0)::((b s.Gc1)::(ra 100 ((eL tV p.L6)::((i p.Za9)::((i p.ja8)::(ra 3 ((.sl 0 0 p.Id3 0)::((i p.Wb8)::((i s.ab0)::((b (decide (s.ab0 < p.Wb8)))::(ra 13 []))))))))))))))))),[⟨27,3,p.eh0,true,false,0⟩,⟨0,3,[[(i p.s6),(i p.s7),(i p.s8)]],true,false,0⟩]⟩)],zb8⟩
theorem zb9:ua7.Ok:=Lo.ok [] (by kernel_rfl) .nil rfl (.cons (fun a H=>by kernel_rfl) (.cons (fun a H=>by kernel_rfl) .nil)) fun p s=>(.sel (Nat.beq s.ph 1) (.of @D6 (fun F _ _ _ _ _=>by unfold D6;(repeat' apply n7 (f:=F))<;>rfl) (by kernel_rfl)) (.of @oa6 (fun F _ _ _ _ _=>by unfold oa6;(repeat' apply n7 (f:=F))<;>rfl) (by kernel_rfl)))
structure r4 where
 bs9:Bool
 Za9:Int
structure j5 where
 ph:Nat
 L6:List V3
 ja8:Int
 ed5:Nat
 eh0:List (List b7)
noncomputable def rb1 (p:r4) (s:j5):St:=⟨(ra 9 ((b p.bs9)::(ra 12 ((.v (.slice none 0 0))::(ra 103 ((eL tV s.L6)::((i p.Za9)::((i s.ja8)::(ra 20 []))))))))),[]⟩
noncomputable def rb2 (p:r4) (s:j5):St:=⟨(ra 9 ((b p.bs9)::(ra 12 ((.sl 0 0 s.ed5 0)::(ra 103 ((eL tV s.L6)::((i p.Za9)::((i s.ja8)::(ra 20 []))))))))),[⟨27,3,s.eh0,true,false,0⟩]⟩
noncomputable def Ab0 (p:r4) (s:j5):St:=(sel (Nat.beq s.ph 1) (rb2 p s) (rb1 p s))
noncomputable def oa7 {α:Type} (k:j5→α) (e:Nat→α) (z:α) (p:r4) (s:j5):α:=let t1:=(lp (V0 (⟨p.bs9,(rt tV s.L6),p.Za9,s.ja8,0,(gL tV s.L6 s.ja8.toNat).x,(gL tV s.L6 s.ja8.toNat).y,(gL tV s.L6 s.ja8.toNat).z,0,0,[],0,0,0⟩:v7)) (⟨0,false,0⟩:o0));(sl (decide (s.ja8 < p.Za9)) (sl (inB s.ja8 (List.length s.L6)) (sl ((cnE tV s.L6)&&true) (sl (Nat.beq t1.1 1) (sl (!t1.2.Gc1) (e 1) (k ⟨0,(rt tV s.L6),(W (s.ja8+1)),0,[]⟩)) (sl (Nat.beq t1.1 2) (sl (!t1.2.Gc1) (e 1) (k ⟨1,(rt tV s.L6),(W (s.ja8+1)),0,[]⟩)) z)) z) z) (e 2))
noncomputable def D7 {α:Type} (k:j5→α) (e:Nat→α) (z:α) (p:r4) (s:j5):α:=let t1:=(lp (V0 (⟨p.bs9,(rt tV s.L6),p.Za9,s.ja8,(↑s.ed5:Int),0,0,0,s.ed5,s.ed5,s.eh0,(gL tV s.L6 s.ja8.toNat).x,(gL tV s.L6 s.ja8.toNat).y,(gL tV s.L6 s.ja8.toNat).z⟩:v7)) (⟨1,false,0⟩:o0));(sl (decide (s.ja8 < p.Za9)) (sl (inB s.ja8 (List.length s.L6)) (sl ((cnE tV s.L6)&&true) (sl (Nat.beq t1.1 1) (sl (!t1.2.Gc1) (e 1) (k ⟨0,(rt tV s.L6),(W (s.ja8+1)),0,[]⟩)) (sl (Nat.beq t1.1 2) (sl (!t1.2.Gc1) (e 1) (k ⟨1,(rt tV s.L6),(W (s.ja8+1)),s.ed5,s.eh0⟩)) z)) z) z) (e 3))
noncomputable def H5 (p:r4) (s:j5):Stp j5:=(sel (Nat.beq s.ph 1) (D7 .next .exit .fail p s) (oa7 .next .exit .fail p s))
noncomputable def ua8:Lo r4 j5:=⟨En T3,0,pf6,[1,1,1,1,1,1,1,1,1,1,1,1,0,1,4,4],[9,22,126,127,128],(.s .p (.s .p (.s (.b (.s .p (.s .p (.s (.s .p (.b (.u ua7.ls))) .p)))) .p))),[⟨(ru2 9 ((.s (.o .bool))::(ru2 12 ((.s (.o .nil))::(ru2 103 ((.s (.c 3 (nL tV)))::((.s (.o (.int .i64)))::((.s (.o (.int .i64)))::(ru2 20 []))))))))),[],fun a H=>(⟨(toB (slT a 9)),(toI (slT a 127))⟩,⟨0,(rL tV (slT a 126)),(toI (slT a 128)),0,[]⟩)⟩,⟨(ru2 9 ((.s (.o .bool))::(ru2 12 ((.s (.o (.sl 0 0 (some 0) none)))::(ru2 103 ((.s (.c 3 (nL tV)))::((.s (.o (.int .i64)))::((.s (.o (.int .i64)))::(ru2 20 []))))))))),[⟨27,3,true,none⟩],fun a H=>(⟨(toB (slT a 9)),(toI (slT a 127))⟩,⟨1,(rL tV (slT a 126)),(toI (slT a 128)),(slN (slT a 22)),(elT H 0)⟩)⟩],H5,[(none,fun p s=>⟨[(b false)],[]⟩),(some 6,fun p s=>⟨(ra 9 ((b p.bs9)::(ra 12 ((.v (.slice none 0 0))::(ra 103 ((eL tV s.L6)::((i p.Za9)::((i s.ja8)::((b (decide (s.ja8 < p.Za9)))::(ra 19 [])))))))))),[]⟩),(some 6,fun p s=>⟨(ra 9 ((b p.bs9)::(ra 12 ((.sl 0 0 s.ed5 0)::(ra 103 ((eL tV s.L6)::((i p.Za9)::((i s.ja8)::((b (decide (s.ja8 < p.Za9)))::(ra 19 [])))))))))),[⟨27,3,s.eh0,true,false,0⟩]⟩)],Ab0⟩
theorem Ab1:ua8.Ok:=Lo.ok [ua7.pr] (by kernel_rfl) (.cons zb9 .nil) rfl (.cons (fun a H=>by kernel_rfl) (.cons (fun a H=>by kernel_rfl) .nil)) fun p s=>(.sel (Nat.beq s.ph 1) (.of @D7 (fun F _ _ _ _ _=>by unfold D7;(repeat' apply n7 (f:=F))<;>rfl) (by kernel_rfl)) (.of @oa7 (fun F _ _ _ _ _=>by unfold oa7;(repeat' apply n7 (f:=F))<;>rfl) (by kernel_rfl)))
noncomputable def ga6 (x:List Int) (y:B3) (z:B3) (w:Int):Option (b7×List b9):=let t1:=Fa2;let t2:=(T8 (rt tI x));let t3:=(lp (C4 (⟨w,t1,(rt tV (t2.1::t2.2)),(W ((W (Int.tmod y.b0 9)) - 4)),(W ((W (Int.tmod y.b1 9)) - 4)),(W ((W (Int.tmod y.b2 9)) - 4)),(W ((W (Int.tmod z.b0 5)) - 2)),(W ((W (Int.tmod z.b1 5)) - 2)),(W ((W (Int.tmod z.b2 5)) - 2))⟩:Z2)) (⟨1,0,[[(i (W ((W (Int.tmod y.b0 9)) - 4))),(i (W ((W (Int.tmod y.b1 9)) - 4))),(i (W ((W (Int.tmod y.b2 9)) - 4)))]]⟩:D4));let t4:=(Ia3 (rt tV (rt tV (t2.1::t2.2))) [(⟨(W ((W (Int.tmod y.b0 9)) - 4)),(W ((W (Int.tmod y.b1 9)) - 4)),(W ((W (Int.tmod y.b2 9)) - 4))⟩:V3),(rdR tV t3.2.eh2 (0+(W ((↑t3.2.kb4:Int) - 1)).toNat))]);let t5:=(lp (H4 (⟨t1,t3.2.kb4,(↑t3.2.kb4:Int),(W ((W (Int.tmod y.b0 9)) - 4)),(W ((W (Int.tmod y.b1 9)) - 4)),(W ((W (Int.tmod y.b2 9)) - 4)),(rdR tV t3.2.eh2 (0+(W ((↑t3.2.kb4:Int) - 1)).toNat)).x,(rdR tV t3.2.eh2 (0+(W ((↑t3.2.kb4:Int) - 1)).toNat)).y,(rdR tV t3.2.eh2 (0+(W ((↑t3.2.kb4:Int) - 1)).toNat)).z,t3.2.eh2⟩:O7)) (⟨(rt tV (rt tV (t2.1::t2.2))),(rt tV t4.1),0⟩:D5));let t6:=(Fa4 (rt tV t5.2.V1) (⟨(W ((W (Int.tmod y.b0 9)) - 4)),(W ((W (Int.tmod y.b1 9)) - 4)),(W ((W (Int.tmod y.b2 9)) - 4))⟩:V3));let t7:=(Fa4 (rt tV t5.2.V1) (rdR tV t3.2.eh2 (0+(W ((↑t3.2.kb4:Int) - 1)).toNat)));let t8:=(lp (H5 (⟨t1,(↑(List.length t5.2.P7):Int)⟩:r4)) (⟨0,(rt tV t5.2.P7),0,0,[]⟩:j5));let t9:=(lp (H5 (⟨t1,(↑(List.length t5.2.P7):Int)⟩:r4)) (⟨1,(rt tV t5.2.P7),0,(len (A3 (f9 t7.eh0 0) t7.ns0)),(A3 (f9 t7.eh0 0) t7.ns0)⟩:j5));let t10:=(lp (H5 (⟨t1,(↑(List.length t5.2.P7):Int)⟩:r4)) (⟨1,(rt tV t5.2.P7),0,t6.ns0,t6.eh0⟩:j5));let t11:=(lp (H5 (⟨t1,(↑(List.length t5.2.P7):Int)⟩:r4)) (⟨1,(rt tV t5.2.P7),0,(t6.ns0+(len (A3 (f9 t7.eh0 0) t7.ns0))),(app t6.eh0 (A3 (f9 t7.eh0 0) t7.ns0))⟩:j5));(sl Fa3 (sl (okE tI x) (sl (Qa5 (rt tI x)) (sl (Nat.ble 1 (List.length (f8 (rt tI x)))) (sl ((cnE tV (t2.1::t2.2))&&true) (sl (Nat.beq t3.1 1) (sl (inB (W ((↑t3.2.kb4:Int) - 1)) t3.2.kb4) (sl (ldR tV t3.2.eh2 (0+(W ((↑t3.2.kb4:Int) - 1)).toNat)) (sl (okE tV (rt tV (t2.1::t2.2))) (sl (Ia4 (rt tV (rt tV (t2.1::t2.2))) [(⟨(W ((W (Int.tmod y.b0 9)) - 4)),(W ((W (Int.tmod y.b1 9)) - 4)),(W ((W (Int.tmod y.b2 9)) - 4))⟩:V3),(rdR tV t3.2.eh2 (0+(W ((↑t3.2.kb4:Int) - 1)).toNat))]) (sl (t4.2 != 0) (some ((b false),[])) (sl ((cnE tV (rt tV (t2.1::t2.2)))&&((cnE tV t4.1)&&true)) (sl (Nat.beq t5.1 1) (some ((b false),[])) (sl (Nat.beq t5.1 2) (sl (okE tV t5.2.V1) (sl (Nat.beq t6.alt 1) (sl (okE tV t5.2.V1) (sl (Nat.beq t7.alt 1) (sl ((cnE tV t5.2.P7)&&true) (sl (Nat.beq t8.1 1) (some ((b false),[])) (sl (Nat.beq t8.1 2) (some ((b t1),[])) (sl (Nat.beq t8.1 3) (some ((b t1),[])) none))) none) (sl (Nat.beq t7.alt 2) (sl (Nat.beq (len (A3 (f9 t7.eh0 0) t7.ns0)) 0) (sl ((cnE tV t5.2.P7)&&true) (sl (Nat.beq t8.1 1) (some ((b false),[])) (sl (Nat.beq t8.1 2) (some ((b t1),[])) (sl (Nat.beq t8.1 3) (some ((b t1),[])) none))) none) (sl (Nat.ble ((len (A3 (f9 t7.eh0 0) t7.ns0))*24) room) (sl ((cnE tV t5.2.P7)&&true) (sl (Nat.beq t9.1 1) (some ((b false),[])) (sl (Nat.beq t9.1 2) (some ((b t1),[])) (sl (Nat.beq t9.1 3) (some ((b t1),[])) none))) none) none)) none)) none) (sl (Nat.beq t6.alt 2) (sl (okE tV t5.2.V1) (sl (Nat.beq t7.alt 1) (sl ((cnE tV t5.2.P7)&&true) (sl (Nat.beq t10.1 1) (some ((b false),[])) (sl (Nat.beq t10.1 2) (some ((b t1),[])) (sl (Nat.beq t10.1 3) (some ((b t1),[])) none))) none) (sl (Nat.beq t7.alt 2) (sl (Nat.beq (len (A3 (f9 t7.eh0 0) t7.ns0)) 0) (sl ((cnE tV t5.2.P7)&&true) (sl (Nat.beq t10.1 1) (some ((b false),[])) (sl (Nat.beq t10.1 2) (some ((b t1),[])) (sl (Nat.beq t10.1 3) (some ((b t1),[])) none))) none) (sl (Nat.beq t6.ns0 (len t6.eh0)&&Nat.ble ((t6.ns0+(len (A3 (f9 t7.eh0 0) t7.ns0)))*24) room) (sl ((cnE tV t5.2.P7)&&true) (sl (Nat.beq t11.1 1) (some ((b false),[])) (sl (Nat.beq t11.1 2) (some ((b t1),[])) (sl (Nat.beq t11.1 3) (some ((b t1),[])) none))) none) none)) none)) none) none)) none) none)) none)) none) none) none) none) none) none) none) none) none) none)
noncomputable def pa2 (x:List Int) (y:B3) (z:B3) (w:Int):Bool:=Y8 (one r1B) (ga6 x y z w)
noncomputable def pa3 (x:List Int) (y:B3) (z:B3) (w:Int):Bool:=okO (one r1B) (ga6 x y z w)
noncomputable def Wb4:Sum:=id9 (Ba0 tI) (R7 tW) (R7 tW) cU (fun x y z w=>.guard (pa3 x y z w) (.ret ((one r1B).enc (pa2 x y z w),[])))
theorem Mb6:g8 prog G 6 Wb4:=Ve9 (bd b6 Eb9) (one r1B) (o:=ga6) fun x y z w=>Qa3 (.s .p (.s .p (.s .p (.s .p (.s .p (.s .p (.s (.s .p (.b (.u ua4.ls))) (.s .p (.s .p (.s .p (.s (.s .p (.b (.u ua6.ls))) (.s .p (.s (.s .p (.b (.u ua8.ls))) .p))))))))))))) [ua4.pr,ua6.pr,ua8.pr] (by kernel_rfl) (.cons zb3 (.cons zb7 (.cons Ab1 .nil))) (by kernel_rfl)
end Go.Ev.Ce
end
namespace Go.Ev.Ce
open Go Go.Ev Go.Ev.L Go.Proofs
theorem sd6 (l:List V3) (v:V3) (hl:l.length≤1000000):∃ t s,lp (za1 ⟨l,v.x,v.y,v.z⟩) ⟨0,0,0,[]⟩=(t,s)∧(t=phV (l.map fun x=>e8 x v)+1∧∃ j:Int,s=⟨phV (l.map fun x=>e8 x v),j,(l.map fun x=>e8 x v).length,bL tV (l.map fun x=>e8 x v)⟩):=by
 refine Q3 (step:=za1 ⟨l,v.x,v.y,v.z⟩) (mk:=fun j (o:List V3)=>(⟨phV o,(j:Int),o.length,bL tV o⟩:u7)) l.length (fun j o=>j≤l.length∧o=(l.take j).map fun x=>e8 x v) (fun t s=>t=phV (l.map fun x=>e8 x v)+1∧∃ j:Int,s=⟨phV (l.map fun x=>e8 x v),j,(l.map fun x=>e8 x v).length,bL tV (l.map fun x=>e8 x v)⟩) (by omega)
  (fun j o hj hi=>?_) (fun j o hj hi=>?_) 0 [] ⟨Nat.zero_le _,by simp⟩
 ·obtain⟨_,hi⟩:=hi
  have hlen:o.length≤1000000:=by
   rw[hi,List.length_map]
   have:=List.length_take_le j l
   omega
  have hn:=w8 hj (show l.length≤4611686018427387904 by omega)
  have hb:=i4 hj
  have hT:(l.take (j+1)).map (fun x=>e8 x v)=o++[e8 (gL tV l j) v]:=by
   rw[Ea9 tV hj,List.map_append,← hi];rfl
  have hA:Cb1 (gL tV l j) ⟨v.x,v.y,v.z⟩=e8 (gL tV l j) v:=rfl
  have hnext : ∀ {s : u7}, s = ⟨1, ((j + 1 : Nat) : Int), o.length + 1, bL tV (o ++ [e8 (gL tV l j) v])⟩ → Nx (.next s) (fun t => t = phV (l.map fun x => e8 x v) + 1 ∧ ∃ j' : Int, (⟨phV o, (j : Int), o.length, bL tV o⟩ : u7) = ⟨phV (l.map fun x => e8 x v), j', (l.map fun x => e8 x v).length, bL tV (l.map fun x => e8 x v)⟩)
    (fun s=>∃ o',s=(⟨phV o',((j+1:Nat):Int),o'.length,bL tV o'⟩:u7)∧(j+1≤l.length∧o'=(l.take (j+1)).map fun x=>e8 x v)):=fun {s} hs=>.nx ⟨o++[e8 (gL tV l j) v],by rw[hs,bd1,List.length_append];rfl,by omega,hT.symm⟩
  clear hi
  cases o with
  | nil =>
   show Nx (T1 Stp.next Stp.exit Stp.fail _ _) _ _
   simp only[T1,Int.toNat_natCast,hA,hn,hb]
   rw[btD (k8 hj)]
   exact hnext rfl
  | cons q o =>
   have rr:(Nat.beq (q::o).length (len (bL tV (q::o)))&&Nat.ble (((q::o).length+1)*24) room)=true:=od6 rfl (by omega)
   show Nx (T2 Stp.next Stp.exit Stp.fail _ _) _ _
   simp only[T2,Int.toNat_natCast,hA,hn,hb,rr,Ke7]
   rw[btD (k8 hj)]
   exact hnext rfl
 ·obtain⟨h1,hi⟩:=hi
  have e:j=l.length:=by omega
  subst e
  have hO:o=l.map fun x=>e8 x v:=by rw[hi,List.take_length]
  rw[← hO]
  cases o with
  | nil =>
   refine⟨1,?_,rfl,_,rfl⟩
   show T1 Stp.next Stp.exit Stp.fail _ _=_
   simp only[T1]
   rw[bfD (o8 (Nat.lt_irrefl _))]
  | cons q o =>
   refine⟨2,?_,rfl,_,rfl⟩
   show T2 Stp.next Stp.exit Stp.fail _ _=_
   simp only[T2]
   rw[bfD (o8 (Nat.lt_irrefl _))]
theorem sd7 (l:List V3) (v:V3) (hl:l.length≤1000000) (hne:l≠[]):Fa4 l v=⟨2,(l.map fun x=>e8 x v).length,bL tV (l.map fun x=>e8 x v)⟩:=by
 obtain⟨t,s,h,rfl,j,rfl⟩:=sd6 l v hl
 unfold Fa4 ta6
 simp only[p5,j9,h]
 cases l with
 | nil=>exact absurd rfl hne
 | cons q o=>rfl
def PT (a d:V3) (k:Nat):V3:=⟨a.x+k*d.x,a.y+k*d.y,a.z+k*d.z⟩
def pth (a d:V3) (m:Nat):List V3:=(List.range (m+1)).map (PT a d)
theorem Wb5 (a d:V3) (m:Nat):(pth a d m).length=m+1:=by unfold pth;rw[List.length_map,List.length_range]
theorem Bd5 {a d:V3} {m k:Nat} (hk:k < m+1):gL tV (pth a d m) k=PT a d k:=by
 rw[pb6 tV (by rw[Wb5];exact hk)]
 unfold pth
 rw[List.getElem_map,List.getElem_range]
structure Sm4 (v:V3) (n:Int):Prop where
 x:Sm n v.x
 y:Sm n v.y
 z:Sm n v.z
theorem je5 {a d:V3} (ha:Sm4 a 4) (hd:Sm4 d 2) {k:Nat} (hk:k≤3):Sm4 (PT a d k) 10:=by
 obtain⟨⟨a1,a2⟩,⟨a3,a4⟩,a5,a6⟩:=ha
 obtain⟨⟨d1,d2⟩,⟨d3,d4⟩,d5,d6⟩:=hd
 have hc:k=0∨k=1∨k=2∨k=3:=by omega
 unfold PT
 rcases hc with rfl | rfl | rfl | rfl<;>exact⟨⟨by simp only;omega,by simp only;omega⟩,⟨by simp only;omega,by simp only;omega⟩,⟨by simp only;omega,by simp only;omega⟩⟩
theorem ye7 {a d:V3} (ha:Sm4 a 4) (hd:Sm4 d 2) {k:Nat} (hk:k < 3):e8 (PT a d k) d=PT a d (k+1):=by
 have h:=je5 ha hd (show k≤3 by omega)
 rw[ed2 ⟨h.x.mono (by omega),h.y.mono (by omega),h.z.mono (by omega)⟩ ⟨hd.x.mono (by omega),hd.y.mono (by omega),hd.z.mono (by omega)⟩]
 have hc:k=0∨k=1∨k=2:=by omega
 unfold PT Sa5
 rcases hc with rfl | rfl | rfl<;>simp only[V3.mk.injEq]<;>omega
theorem Pd6 (w : Int) (bs : Bool) (A : List V3) (a d : V3) (m : Nat) (hm : m ≤ 3) (hw : W (Int.tmod w 4) = (m : Int)) (ha : Sm4 a 4) (hd : Sm4 d 2) :
  lp (C4 ⟨w,bs,A,a.x,a.y,a.z,d.x,d.y,d.z⟩) ⟨1,0,[[i a.x,i a.y,i a.z]]⟩=(1,⟨m+1,(m:Int),bL tV (pth a d m)⟩):=by
 obtain⟨t,s,h,rfl,rfl⟩:=Q3 (step:=C4 ⟨w,bs,A,a.x,a.y,a.z,d.x,d.y,d.z⟩) (mk:=fun j (_:Unit)=>(⟨j+1,(j:Int),bL tV (pth a d j)⟩:D4)) m (fun j _=>j≤m) (fun t s=>t=1∧s=⟨m+1,(m:Int),bL tV (pth a d m)⟩) (by omega)
  (fun j _ hj hi=>by
   have hn:=w8 hj (show m≤4611686018427387904 by omega)
   have e1:W (((j+1:Nat):Int) - 1)=(j:Int):=by rw[U5 (by omega) (by omega)];omega
   have hlen:j < (pth a d j).length:=by rw[Wb5];omega
   have rr:(Nat.beq (j+1) (len (bL tV (pth a d j)))&&Nat.ble ((j+1+1)*24) room)=true:=od6 (Wb5 a d j) (by omega)
   have hT:pth a d (j+1)=pth a d j++[PT a d (j+1)]:=by unfold pth;rw[List.range_succ,List.map_append];rfl
   have e:C4 ⟨w,bs,A,a.x,a.y,a.z,d.x,d.y,d.z⟩ ⟨j+1,(j:Int),bL tV (pth a d j)⟩=.next ⟨j+1+1,((j+1:Nat):Int),bL tV (pth a d (j+1))⟩:=by
    simp only[C4,Q9,e1,Int.toNat_natCast,ob1 hlen,yb5 hlen,Bd5 (show j < j+1 by omega),ye7 ha hd (show j < 3 by omega),hn,rr,Ke7,hT,hw]
    rw[btD (k8 hj),bt (i4 (show j < j+1 by omega))]
    rfl
   rw[e]
   exact .nx ⟨(),rfl,by omega⟩)
  (fun j _ hj hi=>by
   have:j=m:=by omega
   subst this
   refine⟨1,?_,rfl,rfl⟩
   simp only[C4,Q9,hw]
   rw[bfD (o8 (Nat.lt_irrefl _))]) 0 () (Nat.zero_le _)
 have e0:bL tV (pth a d 0)=[[i a.x,i a.y,i a.z]]:=by
  show [[i (a.x+((0:Nat):Int)*d.x),i (a.y+((0:Nat):Int)*d.y),i (a.z+((0:Nat):Int)*d.z)]]=_
  rw[show a.x+((0:Nat):Int)*d.x=a.x by simp,show a.y+((0:Nat):Int)*d.y=a.y by simp,show a.z+((0:Nat):Int)*d.z=a.z by simp]
 rw[← e0]
 exact h
theorem je6 (P : O6) (A V : List V3) (q : V3) (h1 : P.P7 = V) (h2 : P.Wb7 = A) (h3 : P.td0 = (A.length : Int)) (h4 : P.ia4 = q.x ∧ P.ia5 = q.y ∧ P.ia6 = q.z) (hA : A.length ≤ 1000)
  (hh:∀ x∈A,ra3 V (e8 x q)=true∧ra4 V (e8 x q)=true):(lp (M4 P) ⟨0⟩).1=2:=by
 have h:=Lb6 (step:=M4 P) (mk:=fun j=>(⟨(j:Int)⟩:A1)) (c:=fun _=>false) (u:=1) (fin:=2) tV A (by omega)
  (fun j hj=>by
   obtain⟨k1,k2⟩:=hh _ (fb3 tV hj)
   simp only[M4,R2,h1,h2,h3,h4.1,h4.2.1,h4.2.2,Int.toNat_natCast,p5,Ua4,w8 hj (show A.length≤4611686018427387904 by omega)]
   rw[btD (k8 hj),bt (i4 hj)]
   rw[show (⟨q.x,q.y,q.z⟩:V3)=q from rfl,k1,k2]
   rfl)
  (by simp only[M4,R2,h3];rw[bfD (o8 (Nat.lt_irrefl _))]) 0 (Nat.zero_le _)
 rw[show (⟨0⟩:A1)=⟨((0:Nat):Int)⟩ from rfl,h,List.drop_zero,show (A.any fun _=>false)=false by simp]
 rfl
theorem Pd7 (bs : Bool) (a d en : V3) (m : Nat) (A V : List V3) (hA : A.length ≤ 1000) (hm : m ≤ 3)
  (hh:∀ k,k≤m→∀ x∈A,ra3 V (e8 x (PT a d k))=true∧ra4 V (e8 x (PT a d k))=true) :
  ∃ s,lp (H4 ⟨bs,m+1,((m+1:Nat):Int),a.x,a.y,a.z,en.x,en.y,en.z,bL tV (pth a d m)⟩) ⟨A,V,0⟩=(2,s)∧s.V1=A∧s.P7=V:=by
 obtain⟨t,s,h,rfl,h1,h2⟩:=Q3 (step:=H4 ⟨bs,m+1,((m+1:Nat):Int),a.x,a.y,a.z,en.x,en.y,en.z,bL tV (pth a d m)⟩) (mk:=fun j (_:Unit)=>(⟨A,V,(j:Int)⟩:D5)) (m+1) (fun _ _=>True) (fun t s=>t=2∧s.V1=A∧s.P7=V) (by omega)
  (fun j _ hj _=>by
   have hn:=w8 hj (show m+1≤4611686018427387904 by omega)
   have hlen:j < (pth a d m).length:=by rw[Wb5];exact hj
   have e:H4 ⟨bs,m+1,((m+1:Nat):Int),a.x,a.y,a.z,en.x,en.y,en.z,bL tV (pth a d m)⟩ ⟨A,V,(j:Int)⟩=.next ⟨A,V,((j+1:Nat):Int)⟩:=by
    simp only[H4,R3,Int.toNat_natCast,ob1 hlen,yb5 hlen,Bd5 hj,p5,j9,hn]
    rw[btD (k8 hj),bt (i4 hj),je6 _ A V (PT a d j) rfl rfl rfl ⟨rfl,rfl,rfl⟩ hA (hh j (by omega))]
    rfl
   rw[e]
   exact .nx ⟨(),rfl,trivial⟩)
  (fun j _ hj _=>by
   refine⟨2,?_,rfl,rfl,rfl⟩
   simp only[H4,R3]
   rw[bfD (by omega)]) 0 () trivial
 exact⟨s,h,h1,h2⟩
theorem Bd6 (P : v7) (E : List V3) (v : V3) (h1 : P.Wb8 = (E.length : Int)) (h2 : P.Id3 = E.length) (h3 : P.eh0 = bL tV E) (h4 : P.s6 = v.x ∧ P.s7 = v.y ∧ P.s8 = v.z) (hE : E.length ≤ 1000) :
  ∃ s,lp (V0 P) ⟨1,false,0⟩=(2,s)∧s.Gc1=E.any (eqV v):=by
 obtain⟨t,s,h,rfl,hs⟩:=Q3 (step:=V0 P) (mk:=fun j (c:Bool)=>(⟨1,c,(j:Int)⟩:o0)) E.length (fun j c=>j≤E.length∧c=(E.take j).any (eqV v)) (fun t s=>t=2∧s.Gc1=E.any (eqV v)) (by omega)
  (fun j c hj hi=>by
   obtain⟨_,hi⟩:=hi
   have hn:=w8 hj (show E.length≤4611686018427387904 by omega)
   have hT:(E.take (j+1)).any (eqV v)=(c||eqV v (gL tV E j)):=by rw[Ea9 tV hj,List.any_append,← hi,List.any_cons,List.any_nil,Bool.or_false]
   show Nx (D6 Stp.next Stp.exit Stp.fail P _) _ _
   simp only[D6,h1,h2,h3,h4.1,h4.2.1,h4.2.2,Int.toNat_natCast,ob1 hj,yb5 hj,hn]
   rw[btD (k8 hj),bt (i4 hj)]
   cases c with
   | true=>exact .nx ⟨true,rfl,by omega,by rw[hT];rfl⟩
   | false=>exact .nx ⟨eqV v (gL tV E j),rfl,by omega,by rw[hT];rfl⟩)
  (fun j c hj hi=>by
   obtain⟨hje,hi⟩:=hi
   have:j=E.length:=by omega
   subst this
   rw[List.take_length] at hi
   refine⟨2,?_,rfl,hi⟩
   show D6 Stp.next Stp.exit Stp.fail P _=_
   simp only[D6,h1]
   rw[bfD (o8 (Nat.lt_irrefl _))]) 0 false ⟨Nat.zero_le _,by simp⟩
 exact⟨s,h,hs⟩
theorem Pd8 (bs:Bool) (V E:List V3) (hV:V.length≤1000) (hE:E.length≤1000) (hh:∀ v∈V,v∈E):(lp (H5 ⟨bs,(V.length:Int)⟩) ⟨1,V,0,E.length,bL tV E⟩).1=3:=by
 have h:=Lb6 (step:=H5 ⟨bs,(V.length:Int)⟩) (mk:=fun j=>(⟨1,V,(j:Int),E.length,bL tV E⟩:j5)) (c:=fun _=>false) (u:=1) (fin:=3) tV V (by omega)
  (fun j hj=>by
   obtain⟨s,h1,h2⟩:=Bd6 ⟨bs,V,(V.length:Int),(j:Int),(E.length:Int),0,0,0,E.length,E.length,bL tV E,(gL tV V j).x,(gL tV V j).y,(gL tV V j).z⟩ E (gL tV V j) rfl rfl rfl ⟨rfl,rfl,rfl⟩ hE
   have h3:E.any (eqV (gL tV V j))=true:=List.any_eq_true.2 ⟨_,hh _ (fb3 tV hj),(Cb9 _ _).2 rfl⟩
   rw[h3] at h2
   show D7 Stp.next Stp.exit Stp.fail ⟨bs,(V.length:Int)⟩ ⟨1,V,(j:Int),E.length,bL tV E⟩=_
   simp only[D7,Int.toNat_natCast,p5,j9,h1,h2,w8 hj (show V.length≤4611686018427387904 by omega)]
   rw[btD (k8 hj),bt (i4 hj)]
   rfl)
  (by
   show D7 Stp.next Stp.exit Stp.fail ⟨bs,(V.length:Int)⟩ ⟨1,V,(V.length:Int),E.length,bL tV E⟩=_
   simp only[D7];rw[bfD (o8 (Nat.lt_irrefl _))]) 0 (Nat.zero_le _)
 rw[show (⟨1,V,0,E.length,bL tV E⟩:j5)=⟨1,V,((0:Nat):Int),E.length,bL tV E⟩ from rfl,h,List.drop_zero,show (V.any fun _=>false)=false by simp]
 rfl
end Go.Ev.Ce
namespace Go.Ev.Ce
open Go Go.Ev Go.Ev.L Go.Proofs
theorem Db3 {n:Int} (hn:0≤n) (k c:Int) (hk:0 < k) (hk2:k≤100) (hc:0≤c∧c≤100):∃ v,W (W (Int.tmod n k) - c)=v∧-c≤v∧v < k - c:=by
 have h1:=Int.tmod_nonneg k hn
 have h2:=Int.tmod_lt_of_pos n hk
 refine⟨Int.tmod n k - c,?_,by omega,by omega⟩
 rw[U5 (n:=Int.tmod n k) (by omega) (by omega),U5 (by omega) (by omega)]
theorem ye8 {x:List Int} {B:List V3} (hB:∃ y,y∈B) (hb:∀ y∈B,Sm4 y 10) (hl:B.length≤6):Sx (f8 x) B:=by
 have hM:=jc2 x
 have h1:=rd6 (f8 x) B
 have h2:(f8 x).length*B.length≤8*6:=Nat.mul_le_mul hM.l8 hl
 refine⟨Je5 hM.nf,hB,fun v hv=>?_,fun v hv=>⟨(hb v hv).x.mono (by omega),(hb v hv).y.mono (by omega),(hb v hv).z.mono (by omega)⟩,fun v hv y hy=>?_,by have:=hM.l8;omega,by omega,by omega⟩
 ·obtain⟨q1,q2,q3⟩:=hM.bd v hv
  exact⟨q1.mono (by omega),q2.mono (by omega),q3.mono (by omega)⟩
 ·obtain⟨⟨a1,a2⟩,⟨a3,a4⟩,a5,a6⟩:=hM.bd v hv
  obtain⟨⟨c1,c2⟩,⟨c3,c4⟩,c5,c6⟩:=hb y hy
  exact (Ea8 _).2 ⟨⟨by simp only[Sa5];omega,by simp only[Sa5];omega⟩,⟨by simp only[Sa5];omega,by simp only[Sa5];omega⟩,⟨by simp only[Sa5];omega,by simp only[Sa5];omega⟩⟩
theorem je7 (n a d:V3) (k:Nat):dot n (PT a d k)=dot n a+(k:Int)*dot n d:=by simp only[dot,PT];grind
theorem je8 (x:List Int):f8 x≠[]:=fun e=>by have:=Cc8 x;rw[e] at this;simp at this
theorem Pd9 {S:List V3} (h:S.length≤48):(ma6 (F0 S) S).length≤48:=by
 have h1:=sc6 S
 have h2:(ma6 (F0 S) S).length≤(dis S).length:=List.length_filter_le _ _
 omega
theorem Fc9 (x:List Int) (y z:B3) (w:Int) (hy:0≤y.b0∧0≤y.b1∧0≤y.b2) (hz:0≤z.b0∧0≤z.b1∧0≤z.b2) (hw:0≤w):ga6 x y z w=some (b true,[]):=by
 obtain⟨a0,e0,l0,u0⟩:=Db3 hy.1 9 4 (by omega) (by omega) (by omega)
 obtain⟨a1,e1,l1,u1⟩:=Db3 hy.2.1 9 4 (by omega) (by omega) (by omega)
 obtain⟨a2,e2,l2,u2⟩:=Db3 hy.2.2 9 4 (by omega) (by omega) (by omega)
 obtain⟨d0,f0,m0,n0⟩:=Db3 hz.1 5 2 (by omega) (by omega) (by omega)
 obtain⟨d1,f1,m1,n1⟩:=Db3 hz.2.1 5 2 (by omega) (by omega) (by omega)
 obtain⟨d2,f2,m2,n2⟩:=Db3 hz.2.2 5 2 (by omega) (by omega) (by omega)
 obtain⟨m,hm,hm3⟩:∃ m:Nat,W (Int.tmod w 4)=(m:Int)∧m≤3:=by
  have h1:=Int.tmod_nonneg 4 hw
  have h2:=Int.tmod_lt_of_pos w (show (0:Int) < 4 by omega)
  exact⟨(Int.tmod w 4).toNat,by rw[U5 (by omega) (by omega)];omega,by omega⟩
 have ha:Sm4 ⟨a0,a1,a2⟩ 4:=⟨⟨by simp only;omega,by simp only;omega⟩,⟨by simp only;omega,by simp only;omega⟩,⟨by simp only;omega,by simp only;omega⟩⟩
 have hd:Sm4 ⟨d0,d1,d2⟩ 2:=⟨⟨by simp only;omega,by simp only;omega⟩,⟨by simp only;omega,by simp only;omega⟩,⟨by simp only;omega,by simp only;omega⟩⟩
 have hp:=Cc8 x
 have hM:=jc2 x
 have hb1:Nat.ble 1 (f8 x).length=true:=by rw[Nat.ble_eq];omega
 have hen:=je5 ha hd hm3
 have hS:Sx (f8 x) [⟨a0,a1,a2⟩,PT ⟨a0,a1,a2⟩ ⟨d0,d1,d2⟩ m]:=ye8 ⟨_,List.mem_cons_self⟩ (fun v hv=>by
  rcases List.mem_cons.1 hv with rfl | hv
  ·exact⟨ha.x.mono (by omega),ha.y.mono (by omega),ha.z.mono (by omega)⟩
  ·rcases List.mem_cons.1 hv with rfl | hv
   ·exact hen
   ·cases hv) (by simp)
 have hsum:=hS.sum
 have hV48:=Pd9 hS.l
 have hlast:m < (pth ⟨a0,a1,a2⟩ ⟨d0,d1,d2⟩ m).length:=by rw[Wb5];omega
 have hW:W (((m+1:Nat):Int) - 1)=(m:Int):=by rw[U5 (by omega) (by omega)];omega
 have hpath:=Pd6 w true (f8 x) ⟨a0,a1,a2⟩ ⟨d0,d1,d2⟩ m hm3 hm ha hd
 have hpath:lp (C4 ⟨w,true,f8 x,a0,a1,a2,d0,d1,d2⟩) ⟨1,0,[[i a0,i a1,i a2]]⟩=_:=hpath
 have hhas:∀ k,k≤m→∀ v∈f8 x,ra3 (ma6 (F0 (la0 (f8 x) [⟨a0,a1,a2⟩,PT ⟨a0,a1,a2⟩ ⟨d0,d1,d2⟩ m])) (la0 (f8 x) [⟨a0,a1,a2⟩,PT ⟨a0,a1,a2⟩ ⟨d0,d1,d2⟩ m])) (e8 v (PT ⟨a0,a1,a2⟩ ⟨d0,d1,d2⟩ k))=true∧ra4 (ma6 (F0 (la0 (f8 x) [⟨a0,a1,a2⟩,PT ⟨a0,a1,a2⟩ ⟨d0,d1,d2⟩ m])) (la0 (f8 x) [⟨a0,a1,a2⟩,PT ⟨a0,a1,a2⟩ ⟨d0,d1,d2⟩ m])) (e8 v (PT ⟨a0,a1,a2⟩ ⟨d0,d1,d2⟩ k))=true:=fun k hk v hv=>by
  have hpk:=je5 ha hd (show k≤3 by omega)
  have hadd:=ed2 (hS.sa v hv) (c:=PT ⟨a0,a1,a2⟩ ⟨d0,d1,d2⟩ k) ⟨hpk.x.mono (by omega),hpk.y.mono (by omega),hpk.z.mono (by omega)⟩
  rw[hadd]
  refine hS.has ?_ fun n b hnb=>?_
  ·obtain⟨⟨q1,q2⟩,⟨q3,q4⟩,q5,q6⟩:=hM.bd v hv
   obtain⟨⟨c1,c2⟩,⟨c3,c4⟩,c5,c6⟩:=hpk
   exact (Ea8 _).2 ⟨⟨by simp only[Sa5];omega,by simp only[Sa5];omega⟩,⟨by simp only[Sa5];omega,by simp only[Sa5];omega⟩,⟨by simp only[Sa5];omega,by simp only[Sa5];omega⟩⟩
  ·have k1:=hnb v hv _ List.mem_cons_self
   have k2:=hnb v hv _ (List.mem_cons_of_mem _ List.mem_cons_self)
   rw[Id1,je7]
   rw[je7] at k2
   generalize dot n ⟨d0,d1,d2⟩=D at *
   generalize dot n ⟨a0,a1,a2⟩=A at *
   have hmc:m=0∨m=1∨m=2∨m=3:=by omega
   have hkc:k=0∨k=1∨k=2∨k=3:=by omega
   rcases hmc with rfl | rfl | rfl | rfl<;>rcases hkc with rfl | rfl | rfl | rfl<;>omega
 obtain⟨s5,h5,h5a,h5b⟩:=Pd7 true ⟨a0,a1,a2⟩ ⟨d0,d1,d2⟩ (PT ⟨a0,a1,a2⟩ ⟨d0,d1,d2⟩ m) m (f8 x) (ma6 (F0 (la0 (f8 x) [⟨a0,a1,a2⟩,PT ⟨a0,a1,a2⟩ ⟨d0,d1,d2⟩ m])) (la0 (f8 x) [⟨a0,a1,a2⟩,PT ⟨a0,a1,a2⟩ ⟨d0,d1,d2⟩ m])) (by omega) hm3 hhas
 have hsub:∀ v∈ma6 (F0 (la0 (f8 x) [⟨a0,a1,a2⟩,PT ⟨a0,a1,a2⟩ ⟨d0,d1,d2⟩ m])) (la0 (f8 x) [⟨a0,a1,a2⟩,PT ⟨a0,a1,a2⟩ ⟨d0,d1,d2⟩ m]),v∈(f8 x).map (fun q=>e8 q ⟨a0,a1,a2⟩)++(f8 x).map (fun q=>e8 q (PT ⟨a0,a1,a2⟩ ⟨d0,d1,d2⟩ m)):=fun v hv=>by
  obtain⟨q,hq,r,hr,rfl⟩:=(rd4 _ _ _).1 (db2 hS.inV hS.sol hv)
  rcases List.mem_cons.1 hr with rfl | hr
  ·exact List.mem_append_left _ (List.mem_map.2 ⟨q,hq,rfl⟩)
  ·rcases List.mem_cons.1 hr with rfl | hr
   ·exact List.mem_append_right _ (List.mem_map.2 ⟨q,hq,rfl⟩)
   ·cases hr
 generalize ma6 (F0 (la0 (f8 x) [⟨a0,a1,a2⟩,PT ⟨a0,a1,a2⟩ ⟨d0,d1,d2⟩ m])) (la0 (f8 x) [⟨a0,a1,a2⟩,PT ⟨a0,a1,a2⟩ ⟨d0,d1,d2⟩ m])=V at *
 have hm1:=sd7 (f8 x) ⟨a0,a1,a2⟩ (by omega) (je8 x)
 have hm2:=sd7 (f8 x) (PT ⟨a0,a1,a2⟩ ⟨d0,d1,d2⟩ m) (by omega) (je8 x)
 have hlen1:((f8 x).map fun q=>e8 q ⟨a0,a1,a2⟩).length=(f8 x).length:=List.length_map ..
 have hlen2:((f8 x).map fun q=>e8 q (PT ⟨a0,a1,a2⟩ ⟨d0,d1,d2⟩ m)).length=(f8 x).length:=List.length_map ..
 generalize (f8 x).map (fun q=>e8 q ⟨a0,a1,a2⟩)=M1 at *
 generalize (f8 x).map (fun q=>e8 q (PT ⟨a0,a1,a2⟩ ⟨d0,d1,d2⟩ m))=M2 at *
 have hends:=Pd8 true V (M1++M2) (by omega) (by rw[List.length_append];omega) hsub
 rw[List.length_append] at hends
 have hcut:A3 (f9 (bL tV M2) 0) M2.length=bL tV M2:=by rw[Vb2,List.drop_zero,Ec1,List.take_length]
 have hl2:len (bL tV M2)=M2.length:=ua1 tV M2
 have hl1:len (bL tV M1)=M1.length:=ua1 tV M1
 have hz0:Nat.beq M2.length 0=false:=by
  cases h:Nat.beq M2.length 0 with
  | false=>rfl
  | true=>have:=Nat.eq_of_beq_eq_true h;omega
 have hroom:Nat.ble ((M1.length+M2.length)*24) room=true:=Le0 (by omega)
 unfold ga6
 simp only[p5,Ua4,j9,Bd4,Bd3,be3,hb1,Ue2,e0,e1,e2,f0,f1,f2]
 simp only[hpath,hW,Int.toNat_natCast,ob1 hlast,yb5 hlast,Bd5 (show m < m+1 by omega),Ce5,Ce6,hsum,i4 (show m < m+1 by omega)]
 rw[show (⟨true,m+1,((m+1:Nat):Int),a0,a1,a2,(PT ⟨a0,a1,a2⟩ ⟨d0,d1,d2⟩ m).x,(PT ⟨a0,a1,a2⟩ ⟨d0,d1,d2⟩ m).y,(PT ⟨a0,a1,a2⟩ ⟨d0,d1,d2⟩ m).z,bL tV (pth ⟨a0,a1,a2⟩ ⟨d0,d1,d2⟩ m)⟩:O7)=⟨true,m+1,((m+1:Nat):Int),(⟨a0,a1,a2⟩:V3).x,(⟨a0,a1,a2⟩:V3).y,(⟨a0,a1,a2⟩:V3).z,(PT ⟨a0,a1,a2⟩ ⟨d0,d1,d2⟩ m).x,(PT ⟨a0,a1,a2⟩ ⟨d0,d1,d2⟩ m).y,(PT ⟨a0,a1,a2⟩ ⟨d0,d1,d2⟩ m).z,bL tV (pth ⟨a0,a1,a2⟩ ⟨d0,d1,d2⟩ m)⟩ from rfl,h5]
 simp only[h5a,h5b,hm1,hm2,hcut,hl2,hl1,hz0,hroom,Ma9,Nat.beq_refl,hends]
 rfl
theorem je9 (x:List Int) (y z:B3) (w:Int) (hy:0≤y.b0∧0≤y.b1∧0≤y.b2) (hz:0≤z.b0∧0≤z.b1∧0≤z.b2) (hw:0≤w):pa2 x y z w=true:=by unfold pa2;rw[Fc9 x y z w hy hz hw];rfl
theorem ke0 (x:List Int) (y z:B3) (w:Int) (hy:0≤y.b0∧0≤y.b1∧0≤y.b2) (hz:0≤z.b0∧0≤z.b1∧0≤z.b2) (hw:0≤w):pa3 x y z w=true:=by unfold pa3;rw[Fc9 x y z w hy hz hw];rfl
end Go.Ev.Ce
namespace Go.Ev.Ce
open Go Go.Ev Go.Ev.L Go.ChangeShapes Go.RowKit
theorem Vc2 (g:Nat→Int) (h:∀ c,c < 3→0≤g c∧g c≤255):∃ a,Rdg (R7 tW) (.agg (ja7 .u8 3 g)) a∧0≤a.b0∧0≤a.b1∧0≤a.b2 :=
 ⟨⟨g 0,g 1,g 2⟩,⟨rfl,rfl⟩,(h 0 (by omega)).1,(h 1 (by omega)).1,(h 2 (by omega)).1⟩
theorem Id2 {D : Type} {enc : TypeId × Value → D} {P : Program} {w : World} {base : Nat} {spare : Nat → Bool} {held : Bool} {ρ : Rho} {H : List b9} {F : Fz} {t e : TypeId} {d : Nat} {v : Value} {dd : DataW D} {pp : List MemPlace} {bs : Nat} {r : Reach}
  (ht:P.underlying t=some (.array 3 e)) (he:P.underlying e=some (.int .u8)) (hts:P.cellTypes P.depth t=some [e,e,e]) (hf:U0 P d t=some (za3 .u8 3)) (hes:P.cellsOf t=3)
  (hok:Value.okWide P w r bs t v) (h:DataW.Trod enc P w base spare held t v dd pp):∃ g:Nat→Int,(∀ c,c < 3→0≤g c∧g c≤255)∧X9 ρ H F w (.agg (ja7 .u8 3 g)) v:=by
 obtain⟨g,hv⟩:=we6 (ρ:=ρ) (H:=H) (F:=F) (by simp[agT,ht]) hf hes hok h
 refine⟨g,fun c hc=>?_,hv⟩
 obtain⟨vs,e0,hl,hr⟩:=oa8 (.val hv)
 subst e0
 have hlen:vs.size=3:=by rw[← hl];simp[ja7]
 have hc':c < vs.size:=by omega
 have hg:(ja7 .u8 3 g)[c]?=some (.v (.int .u8 (g c))):=by
  unfold ja7
  rw[List.getElem?_map,List.getElem?_range hc]
  rfl
 have hx:=aa4 (.val (.cell (hr c _ _ hg (Array.getElem?_eq_getElem hc'))))
 unfold Value.okWide at hok
 rw[ht] at hok
 obtain⟨cs,e1,hsz,ts,h1,h2,h3⟩:=hok
 injection e1 with e1
 subst e1
 rw[hts] at h1
 injection h1 with h1
 subst h1
 obtain⟨u,hu,hcell⟩:=h3 c _ (Array.getElem?_eq_getElem hc')
 rw[hx] at hcell
 have hue:u=e:=by
  have:c=0∨c=1∨c=2:=by omega
  rcases this with rfl | rfl | rfl<;>simpa using hu.symm
 subst hue
 simp only[Cell.okWide,Cell.ok,he] at hcell
 have:=hcell.2
 simp only[IntKind.has,IntKind.min,IntKind.max,IntKind.bits,IntKind.signed] at this
 simp at this
 omega
theorem ke1 {P : Program} {w : World} {ρ : Rho} {H : List b9} {F : Fz} {t : TypeId} {v : Value} {bs : Nat} {r : Reach} (ht : P.underlying t = some (.int .u8))
  (hok:Value.okWide P w r bs t v):∃ n:Int,0≤n∧X9 ρ H F w (.v (.int .u8 n)) v:=by
 unfold Value.okWide at hok
 rw[ht] at hok
 cases v with
 | int k' n =>
  simp only[Cell.okWide,ht,Cell.ok] at hok
  obtain⟨rfl,h⟩:=hok
  refine⟨n,?_,.cell (.v _)⟩
  simp only[IntKind.has,IntKind.min,IntKind.max,IntKind.bits,IntKind.signed] at h
  simp at h
  omega
 | _=>simp[Cell.okWide,ht,Cell.ok] at hok
theorem Le3 (n:Int) (h:0≤n):∃ a,Rdg cU (.v (.int .u8 n)) a∧0≤a:=⟨n,⟨rfl,rfl⟩,h⟩
end Go.Ev.Ce
