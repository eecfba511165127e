/- Own work: a part of the proof. -/
import Derived.Test.YtlccibobknidjaaGreatEvDH
import Derived.Test.YtlccibobknidjaaGreatEvDS
import Derived.Test.YtlccibobknidjaaGreatEvSp3
set_option linter.unusedVariables false
set_option linter.unusedSimpArgs false
set_option linter.unnecessarySimpa false
set_option linter.unusedSectionVars false
section
namespace Go.Ev.Ce
open Go Go.Ev Go.Ev.L Go.Proofs
set_option maxRecDepth 100000
noncomputable def ud9:List (Nat×Sum):=[(165,qb4)]
theorem md7:i4 prog G ud9:=⟨Sb0,trivial⟩
noncomputable def eb7 (x:V3):Option (b7×List b8):=let t1:=(la4 [x.x,x.y,x.z]);(sl (la5 [x.x,x.y,x.z]) (sl (t1==0) (some ((.tup [(.agg [(i 0),(i 0),(i 0)]),(i 0)]),[])) (sl (t1==0) none (sl (t1==0) none (sl (t1==0) none (some ((.tup [(.agg [(i (W (Int.tdiv x.x t1))),(i (W (Int.tdiv x.y t1))),(i (W (Int.tdiv x.z t1)))]),(i t1)]),[])))))) none)
noncomputable def Qa6 (x:V3):V3×Int:=aa3 (two r1V r1I) (eb7 x)
noncomputable def wb7 (x:V3):Bool:=okO (two r1V r1I) (eb7 x)
noncomputable def Hc9:Sum:=S5 (ua9 tV) (fun x=>.guard (wb7 x) (.ret ((two r1V r1I).enc (Qa6 x),[])))
theorem vd0:g8 prog G 239 Hc9:=Pa9 (bd Kf9 md7) (two r1V r1I) (o:=eb7) fun x=>q8 (by kernel_rfl)
noncomputable def Oc8:List (Nat×Sum):=[(107,Cb8),(116,mc2),(142,lb1),(239,Hc9),(129,Za0)]
theorem Ic0:i4 prog G Oc8:=⟨Lb3,Hc7,Ab8,vd0,bb6,trivial⟩
noncomputable def Ia2 (x:V3) (y:V3) (z:V3):Option (b7×List b8):=let t1:=(Ga0 x);let t2:=(Ga0 y);let t3:=(Ga0 z);let t4:=(Oa3 y x);let t5:=(Oa3 z x);let t6:=(D4 t4 t5);let t7:=(Qa6 t6);let t8:=(G5 t7.1 x);(sl (Ga1 x) (sl (!t1) (some ((.tup [(.agg [(i 0),(i 0),(i 0),(i 0)]),(b false)]),[])) (sl (Ga1 y) (sl (!t2) (some ((.tup [(.agg [(i 0),(i 0),(i 0),(i 0)]),(b false)]),[])) (sl (Ga1 z) (sl (!t3) (some ((.tup [(.agg [(i 0),(i 0),(i 0),(i 0)]),(b false)]),[])) (sl (wb7 t6) (some ((.tup [(.agg [(i t7.1.x),(i t7.1.y),(i t7.1.z),(i t8)]),(b (decide (t7.2 > 0)))]),[])) none)) none)) none)) none)
noncomputable def P7 (x:V3) (y:V3) (z:V3):Pln×Bool:=aa3 (two r1P r1B) (Ia2 x y z)
noncomputable def xa3 (x:V3) (y:V3) (z:V3):Bool:=okO (two r1P r1B) (Ia2 x y z)
noncomputable def sb8:Sum:=Fd1 (ua9 tV) (ua9 tV) (ua9 tV) (fun x y z=>.guard (xa3 x y z) (.ret ((two r1P r1B).enc (P7 x y z),[])))
theorem Tb5:g8 prog G 212 sb8:=sf4 (bd Jf6 Ic0) (two r1P r1B) (o:=Ia2) fun x y z=>q8 (by kernel_rfl)
noncomputable def vd1:List (Nat×Sum):=[(85,Ob2),(107,Cb8),(129,Za0),(179,Pb3)]
theorem md8:i4 prog G vd1:=⟨jc8,Lb3,bb6,lc2,trivial⟩
noncomputable def eb8 (x:Pln) (y:V3):Option (b7×List b8):=let t1:=(Ta8 x);let t2:=(Ga0 y);let t3:=(G5 x.n y);let t4:=(qa9 t3 x.b);(sl (Ta9 x) (sl (!t1) (some ((i 0),[])) (sl (Ga1 y) (sl (!t2) (some ((i 0),[])) (sl (ra0 t3 x.b) (some ((i t4),[])) none)) none)) none)
noncomputable def Ga4 (x:Pln) (y:V3):Int:=aa3 (one r1I) (eb8 x y)
noncomputable def Ga5 (x:Pln) (y:V3):Bool:=okO (one r1I) (eb8 x y)
noncomputable def wb8:Sum:=Sa3 (ua9 tP) (ua9 tV) (fun x y=>.guard (Ga5 x y) (.ret ((one r1I).enc (Ga4 x y),[])))
theorem Pb9:g8 prog G 132 wb8:=rc6 (bd Gf2 md8) (one r1I) (o:=eb8) fun x y=>q8 (by kernel_rfl)
structure lb9 where
 va0:Int
 va1:Int
 va2:Int
 e8:Int
 c7:Int
 f0:Int
 d9:Int
noncomputable def md9:List (Nat×Sum):=[(132,wb8)]
theorem Xc6:i4 prog G md9:=⟨Pb9,trivial⟩
structure mb0 where
 alt:Nat
 bs0:Bool
noncomputable def Ja7 {α:Type} (kk:mb0→α) (x:lb9):α:=let t1:=(Ga4 (⟨(⟨x.e8,x.c7,x.f0⟩:V3),x.d9⟩:Pln) (⟨x.va0,x.va1,x.va2⟩:V3));(sl (Ga5 (⟨(⟨x.e8,x.c7,x.f0⟩:V3),x.d9⟩:Pln) (⟨x.va0,x.va1,x.va2⟩:V3)) (kk ⟨1,(t1 != 0)⟩) (kk ⟨0,false⟩))
noncomputable def mb1 (x:lb9):mb0:=Ja7 (fun r=>r) x
noncomputable def Eb0 (x:lb9) (r:mb0):DT (b7×List b8):=(.ite (Nat.beq r.alt 1) (.ret ((b r.bs0),[⟨0,4,[[(i x.e8),(i x.c7),(i x.f0),(i x.d9)]],true,false,0⟩])) .fail)
theorem vd2 {α β:Type} (F:α→β) (kk:mb0→α) (x:lb9):F (Ja7 kk x)=Ja7 (fun r=>F (kk r)) x:=by unfold Ja7;(repeat' apply j5 (f:=F))<;>rfl
noncomputable def uc8:Sum:=za8 ⟨[(.agg [(.o (.int .i64)),(.o (.int .i64)),(.o (.int .i64))]),(.s (.o (.ptr 0 0 0 0)))],[⟨0,4,true,(some [[(.o (.int .i64)),(.o (.int .i64)),(.o (.int .i64)),(.o (.int .i64))]])⟩],fun a H=>(⟨(toI (slT (cellsOf (slT a 0)) 0)),(toI (slT (cellsOf (slT a 0)) 1)),(toI (slT (cellsOf (slT a 0)) 2)),(toI (slT (rwT (elT H 0) 0) 0)),(toI (slT (rwT (elT H 0) 0) 1)),(toI (slT (rwT (elT H 0) 0) 2)),(toI (slT (rwT (elT H 0) 0) 3))⟩,())⟩ (fun x=>Eb0 x (mb1 x))
theorem nd0:g8 prog G 238 uc8:=w7 (enc:=fun x=>⟨[(.agg [(i x.va0),(i x.va1),(i x.va2)]),(.ptr 0 0 0 0)],[⟨0,4,[[(i x.e8),(i x.c7),(i x.f0),(i x.d9)]],true,false,0⟩]⟩) (fun a H=>by kernel_rfl) (bd Kf8 Xc6) fun x=>q8 (Eq.trans (b:=Ja7 (fun r=>(Eb0 x r).run) x) (by kernel_rfl) (vd2 (fun r=>(Eb0 x r).run) (fun r=>r) x).symm)
structure ja3 where
 l5:List V3
 e8:Int
 c7:Int
 f0:Int
 d9:Int
noncomputable def Va1:List (Nat×Sum):=[(238,uc8)]
theorem Jb1:i4 prog G Va1:=⟨nd0,trivial⟩
structure R4 where
 l5:List V3
 is7:Int
 e8:Int
 c7:Int
 f0:Int
 d9:Int
structure r5 where
 is8:Int
noncomputable def Eb1 (p:R4) (s:r5):St:=⟨((eL tV p.l5)::((.fn 238 [(.ptr 0 0 0 0)])::(ra 5 ((i p.is7)::((i s.is8)::(ra 10 [])))))),[⟨0,4,[[(i p.e8),(i p.c7),(i p.f0),(i p.d9)]],true,false,0⟩]⟩
noncomputable def M8 {α:Type} (k:r5→α) (e:Nat→α) (z:α) (p:R4) (s:r5):α:=let t1:=(mb1 ⟨(gL tV p.l5 s.is8.toNat).x,(gL tV p.l5 s.is8.toNat).y,(gL tV p.l5 s.is8.toNat).z,p.e8,p.c7,p.f0,p.d9⟩);(sl (decide (s.is8 < p.is7)) (sl (inB s.is8 (List.length p.l5)) (sl (Nat.beq t1.alt 1) (sl t1.bs0 (e 1) (k ⟨(W (s.is8+1))⟩)) z) z) (e 2))
noncomputable def O6 (p:R4) (s:r5):Stp r5:=M8 .next .exit .fail p s
noncomputable def wa2:Lo R4 r5:=⟨En Va1,1,Sd5,[1,0,1,4,4],[0,1,7,8],.p,[⟨((.s (.c 3 (nL tV)))::((.fn 238 [(.o (.ptr 0 0 0 0))])::(ru2 5 ((.s (.o (.int .i64)))::((.s (.o (.int .i64)))::(ru2 10 [])))))),[⟨0,4,true,(some [[(.o (.int .i64)),(.o (.int .i64)),(.o (.int .i64)),(.o (.int .i64))]])⟩],fun a H=>(⟨(rL tV (slT a 0)),(toI (slT a 7)),(toI (slT (rwT (elT H 0) 0) 0)),(toI (slT (rwT (elT H 0) 0) 1)),(toI (slT (rwT (elT H 0) 0) 2)),(toI (slT (rwT (elT H 0) 0) 3))⟩,⟨(toI (slT a 8))⟩)⟩],O6,[(none,fun p s=>⟨[(i s.is8)],[⟨0,4,[[(i p.e8),(i p.c7),(i p.f0),(i p.d9)]],true,false,0⟩]⟩),(some 0,fun p s=>⟨((eL tV p.l5)::((.fn 238 [(.ptr 0 0 0 0)])::(ra 5 ((i p.is7)::((i s.is8)::((b (decide (s.is8 < p.is7)))::(ra 9 []))))))),[⟨0,4,[[(i p.e8),(i p.c7),(i p.f0),(i p.d9)]],true,false,0⟩]⟩)],Eb1⟩
theorem Eb2:wa2.Ok:=Lo.ok [] (by kernel_rfl) .nil rfl (.cons (fun a H=>by kernel_rfl) .nil) fun p s=>(.of @M8 (fun F _ _ _ _ _=>by unfold M8;(repeat' apply j5 (f:=F))<;>rfl) (by kernel_rfl))
structure ja4 where
 alt:Nat
 is0:Int
noncomputable def N7 {α:Type} (kk:ja4→α) (x:ja3):α:=let t1:=(lp (O6 (⟨(rt tV x.l5),(↑(List.length x.l5):Int),x.e8,x.c7,x.f0,x.d9⟩:R4)) (⟨0⟩:r5));(sl ((cnE tV x.l5)&&true) (sl (Nat.beq t1.1 1) (kk ⟨1,t1.2.is8⟩) (sl (Nat.beq t1.1 2) (kk ⟨1,(-1)⟩) (kk ⟨0,0⟩))) (kk ⟨0,0⟩))
noncomputable def ja5 (x:ja3):ja4:=N7 (fun r=>r) x
noncomputable def Aa6 (x:ja3) (r:ja4):DT (b7×List b8):=(.ite (Nat.beq r.alt 1) (.ret ((i r.is0),[⟨0,4,[[(i x.e8),(i x.c7),(i x.f0),(i x.d9)]],true,false,0⟩])) .fail)
theorem Tb6 {α β:Type} (F:α→β) (kk:ja4→α) (x:ja3):F (N7 kk x)=N7 (fun r=>F (kk r)) x:=by unfold N7;(repeat' apply j5 (f:=F))<;>rfl
noncomputable def Za6:Sum:=za8 ⟨[(.s (.c 3 (nL tV))),(.fn 238 [(.o (.ptr 0 0 0 0))])],[⟨0,4,true,(some [[(.o (.int .i64)),(.o (.int .i64)),(.o (.int .i64)),(.o (.int .i64))]])⟩],fun a H=>(⟨(rL tV (slT a 0)),(toI (slT (rwT (elT H 0) 0) 0)),(toI (slT (rwT (elT H 0) 0) 1)),(toI (slT (rwT (elT H 0) 0) 2)),(toI (slT (rwT (elT H 0) 0) 3))⟩,())⟩ (fun x=>Aa6 x (ja5 x))
theorem Qb0:g8 prog G 198 Za6:=w7 (enc:=fun x=>⟨[(eL tV x.l5),(.fn 238 [(.ptr 0 0 0 0)])],[⟨0,4,[[(i x.e8),(i x.c7),(i x.f0),(i x.d9)]],true,false,0⟩]⟩) (fun a H=>by kernel_rfl) (bd Ue2 Jb1) fun x=>Ma1 (.s .p (.s (.s .p (.b (.u wa2.ls))) .p)) [wa2.pr] (by kernel_rfl) (.cons Eb2 .nil) (Eq.trans (b:=N7 (fun r=>(Aa6 x r).run) x) (by kernel_rfl) (Tb6 (fun r=>(Aa6 x r).run) (fun r=>r) x).symm)
structure Z0 where
 l5:List V3
 e8:Int
 c7:Int
 f0:Int
 d9:Int
noncomputable def wb9:List (Nat×Sum):=[(198,Za6)]
theorem sb9:i4 prog G wb9:=⟨Qb0,trivial⟩
structure Z1 where
 alt:Nat
 bs0:Bool
noncomputable def E8 {α:Type} (kk:Z1→α) (x:Z0):α:=let t1:=(ja5 ⟨(rt tV x.l5),x.e8,x.c7,x.f0,x.d9⟩);(sl ((cnE tV x.l5)&&true) (sl (Nat.beq t1.alt 1) (kk ⟨1,(decide (t1.is0≥0))⟩) (kk ⟨0,false⟩)) (kk ⟨0,false⟩))
noncomputable def v8 (x:Z0):Z1:=E8 (fun r=>r) x
noncomputable def qa0 (x:Z0) (r:Z1):DT (b7×List b8):=(.ite (Nat.beq r.alt 1) (.ret ((b r.bs0),[⟨0,4,[[(i x.e8),(i x.c7),(i x.f0),(i x.d9)]],true,false,0⟩])) .fail)
theorem Eb3 {α β:Type} (F:α→β) (kk:Z1→α) (x:Z0):F (E8 kk x)=E8 (fun r=>F (kk r)) x:=by unfold E8;(repeat' apply j5 (f:=F))<;>rfl
noncomputable def Oa4:Sum:=za8 ⟨[(.s (.c 3 (nL tV))),(.fn 238 [(.o (.ptr 0 0 0 0))])],[⟨0,4,true,(some [[(.o (.int .i64)),(.o (.int .i64)),(.o (.int .i64)),(.o (.int .i64))]])⟩],fun a H=>(⟨(rL tV (slT a 0)),(toI (slT (rwT (elT H 0) 0) 0)),(toI (slT (rwT (elT H 0) 0) 1)),(toI (slT (rwT (elT H 0) 0) 2)),(toI (slT (rwT (elT H 0) 0) 3))⟩,())⟩ (fun x=>qa0 x (v8 x))
theorem xb0:g8 prog G 209 Oa4:=w7 (enc:=fun x=>⟨[(eL tV x.l5),(.fn 238 [(.ptr 0 0 0 0)])],[⟨0,4,[[(i x.e8),(i x.c7),(i x.f0),(i x.d9)]],true,false,0⟩]⟩) (fun a H=>by kernel_rfl) (bd kf9 sb9) fun x=>q8 (Eq.trans (b:=E8 (fun r=>(qa0 x r).run) x) (by kernel_rfl) (Eb3 (fun r=>(qa0 x r).run) (fun r=>r) x).symm)
noncomputable def cc6:List (Nat×Sum):=[]
theorem Oc9:i4 prog G cc6:=trivial
@[reducible] noncomputable def Eb4:Sum:=i9 (En cc6) df3
theorem cc7:g8 prog G 161 Eb4:=bd Gf9 Oc9
noncomputable def xb1:List (Nat×Sum):=[(212,sb8),(209,Oa4),(161,Eb4)]
theorem vd3:i4 prog G xb1:=⟨Tb5,xb0,cc7,trivial⟩
structure ra1 where
 is3:Int
 is4:Int
 is9:Int
 o9:Int
 kb5:Int
 N6:Int
 zc6:Int
 b9:List V3
 e7:List V3
structure P8 where
 F8:Int
noncomputable def nd1 (p:ra1) (s:P8):St:=⟨(.unk::((.ptr 0 0 0 0)::(.unk::((i p.is3)::((i p.is4)::(ra 4 ((i p.is9)::((i p.o9)::(ra 5 ((i p.kb5)::((i p.N6)::(ra 5 ((i p.zc6)::((i s.F8)::(ra 35 ((i 0)::(.unk::((.ptr 1 0 0 0)::((.ptr 2 0 0 0)::(ra 8 [])))))))))))))))))))),[⟨0,1,[[(eL tV p.b9)]],true,false,0⟩,⟨0,1,[[(eL tV p.e7)]],true,false,0⟩,⟨0,1,[[(b false)]],true,false,0⟩]⟩
noncomputable def Ia3 {α:Type} (k:P8→α) (e:Nat→α) (z:α) (p:ra1) (s:P8):α:=let t1:=(P7 (gL tV p.b9 s.F8.toNat) (gL tV p.b9 p.is4.toNat) (gL tV p.b9 p.is3.toNat));let t2:=(v8 ⟨(rt tV p.e7),t1.1.n.x,t1.1.n.y,t1.1.n.z,t1.1.b⟩);(sl (decide (s.F8 < p.zc6)) (sl (inB s.F8 (List.length p.b9)) (sl (inB p.is4 (List.length p.b9)) (sl (inB p.is3 (List.length p.b9)) (sl (xa3 (gL tV p.b9 s.F8.toNat) (gL tV p.b9 p.is4.toNat) (gL tV p.b9 p.is3.toNat)) (sl t1.2 (sl t1.2 (sl ((cnE tV p.e7)&&true) (sl (Nat.beq t2.alt 1) (e 1) z) z) (k ⟨(W (s.F8+1))⟩)) (sl t1.2 z (k ⟨(W (s.F8+1))⟩))) z) z) z) z) (e 2))
noncomputable def Z2 (p:ra1) (s:P8):Stp P8:=Ia3 .next .exit .fail p s
noncomputable def Qb1:Lo ra1 P8:=⟨En xb1,0,ke5,[1,0,1,4,4,1,4,4,1,1,0,4,1,1,4,4,1,1,0,4,1,1,4,4],[1,3,4,9,10,16,17,23,24,60,62,63],.p,[⟨((.s (.o .unk))::((.s (.o (.ptr 0 0 0 0)))::((.s (.o .unk))::((.s (.o (.int .i64)))::((.s (.o (.int .i64)))::(ru2 4 ((.s (.o (.int .i64)))::((.s (.o (.int .i64)))::(ru2 5 ((.s (.o (.int .i64)))::((.s (.o (.int .i64)))::(ru2 5 ((.s (.o (.int .i64)))::((.s (.o (.int .i64)))::(ru2 35 ((.s (.o (.lit .i64 0)))::((.s (.o .unk))::((.s (.o (.ptr 1 0 0 0)))::((.s (.o (.ptr 2 0 0 0)))::(ru2 8 [])))))))))))))))))))),[⟨0,1,true,(some [[(.c 3 (nL tV))]])⟩,⟨0,1,true,(some [[(.c 3 (nL tV))]])⟩,⟨0,1,true,(some [[(.o (.blit false))]])⟩],fun a H=>(⟨(toI (slT a 3)),(toI (slT a 4)),(toI (slT a 9)),(toI (slT a 10)),(toI (slT a 16)),(toI (slT a 17)),(toI (slT a 23)),(rL tV (slT (rwT (elT H 0) 0) 0)),(rL tV (slT (rwT (elT H 1) 0) 0))⟩,⟨(toI (slT a 24))⟩)⟩],Z2,[(none,fun p s=>let t1:=(P7 (gL tV p.b9 s.F8.toNat) (gL tV p.b9 p.is4.toNat) (gL tV p.b9 p.is3.toNat));let t2:=(v8 ⟨(rt tV p.e7),t1.1.n.x,t1.1.n.y,t1.1.n.z,t1.1.b⟩);⟨(.unk::((.ptr 0 0 0 0)::(.unk::((i p.is3)::((i p.is4)::((i s.F8)::((.ptr 3 0 0 0)::((b t1.2)::(.unk::((i p.is9)::((i p.o9)::(ra 5 ((i p.kb5)::((i p.N6)::(ra 5 ((i p.zc6)::((i s.F8)::((b (decide (s.F8 < p.zc6)))::((i s.F8)::((.tup [(.agg [(i t1.1.n.x),(i t1.1.n.y),(i t1.1.n.z),(i t1.1.b)]),(b t1.2)])::((eL tV p.b9)::((i s.F8)::((.tptr [(i (gL tV p.b9 s.F8.toNat).x),(i (gL tV p.b9 s.F8.toNat).y),(i (gL tV p.b9 s.F8.toNat).z)])::((.agg [(i (gL tV p.b9 s.F8.toNat).x),(i (gL tV p.b9 s.F8.toNat).y),(i (gL tV p.b9 s.F8.toNat).z)])::((eL tV p.b9)::((i p.is4)::((.tptr [(i (gL tV p.b9 p.is4.toNat).x),(i (gL tV p.b9 p.is4.toNat).y),(i (gL tV p.b9 p.is4.toNat).z)])::((.agg [(i (gL tV p.b9 p.is4.toNat).x),(i (gL tV p.b9 p.is4.toNat).y),(i (gL tV p.b9 p.is4.toNat).z)])::((eL tV p.b9)::((i p.is3)::((.tptr [(i (gL tV p.b9 p.is3.toNat).x),(i (gL tV p.b9 p.is3.toNat).y),(i (gL tV p.b9 p.is3.toNat).z)])::((.agg [(i (gL tV p.b9 p.is3.toNat).x),(i (gL tV p.b9 p.is3.toNat).y),(i (gL tV p.b9 p.is3.toNat).z)])::((.tup [(.agg [(i t1.1.n.x),(i t1.1.n.y),(i t1.1.n.z),(i t1.1.b)]),(b t1.2)])::((.agg [(i t1.1.n.x),(i t1.1.n.y),(i t1.1.n.z),(i t1.1.b)])::((b t1.2)::((b t1.2)::((b true)::(.unk::((.agg [(i t1.1.n.x),(i t1.1.n.y),(i t1.1.n.z),(i t1.1.b)])::((b false)::((b true)::((b true)::(.unk::(u::(u::(u::(u::((b true)::((b true)::(ra 3 ((i 1)::(.unk::((.ptr 1 0 0 0)::((.ptr 2 0 0 0)::(ra 8 []))))))))))))))))))))))))))))))))))))))))))))))))))))))),[⟨0,1,[[(eL tV p.b9)]],true,false,0⟩,⟨0,1,[[(eL tV p.e7)]],true,false,0⟩,⟨0,1,[[(b (!t2.bs0))]],true,false,0⟩,⟨0,4,[[(i t1.1.n.x),(i t1.1.n.y),(i t1.1.n.z),(i t1.1.b)]],true,false,0⟩,⟨0,4,[[(i t1.1.n.x),(i t1.1.n.y),(i t1.1.n.z),(i t1.1.b)]],true,false,0⟩]⟩),(some 4,fun p s=>⟨(.unk::((.ptr 0 0 0 0)::(.unk::((i p.is3)::((i p.is4)::(ra 4 ((i p.is9)::((i p.o9)::(ra 5 ((i p.kb5)::((i p.N6)::(ra 5 ((i p.zc6)::((i s.F8)::((b (decide (s.F8 < p.zc6)))::(ra 34 ((i 0)::(.unk::((.ptr 1 0 0 0)::((.ptr 2 0 0 0)::(ra 8 []))))))))))))))))))))),[⟨0,1,[[(eL tV p.b9)]],true,false,0⟩,⟨0,1,[[(eL tV p.e7)]],true,false,0⟩,⟨0,1,[[(b false)]],true,false,0⟩]⟩)],nd1⟩
theorem nd2:Qb1.OkM:=Lo.okM [] (by kernel_rfl) .nil rfl (.cons (fun a H=>by kernel_rfl) .nil) fun p s=>(.of @Ia3 (fun F _ _ _ _ _=>by unfold Ia3;(repeat' apply j5 (f:=F))<;>rfl) (by kernel_rfl))
structure Aa7 where
 is3:Int
 is9:Int
 o9:Int
 kb5:Int
structure T3 where
 N6:Int
 b9:List V3
 e7:List V3
noncomputable def nd3 (p:Aa7) (s:T3):St:=⟨(.unk::((.ptr 0 0 0 0)::(.unk::((i p.is3)::(ra 5 ((i p.is9)::((i p.o9)::(ra 5 ((i p.kb5)::((i s.N6)::(ra 42 ((i 0)::(.unk::((.ptr 1 0 0 0)::((.ptr 2 0 0 0)::(ra 8 [])))))))))))))))),[⟨0,1,[[(eL tV s.b9)]],true,false,0⟩,⟨0,1,[[(eL tV s.e7)]],true,false,0⟩,⟨0,1,[[(b false)]],true,false,0⟩]⟩
noncomputable def Ia4 {α:Type} (k:T3→α) (e:Nat→α) (z:α) (p:Aa7) (s:T3):α:=let t1:=(lp (Z2 (⟨p.is3,s.N6,p.is9,p.o9,p.kb5,s.N6,(↑(s.N6.toNat - 0):Int),(rt tV s.b9),(rt tV s.e7)⟩:ra1)) (⟨0⟩:P8));(sl (decide (s.N6 < p.kb5)) (sl (inB s.N6 ((List.length s.b9)+1)) (sl ((cnE tV s.b9)&&((cnE tV s.e7)&&true)) (sl (Nat.beq t1.1 1) (e 1) (sl (Nat.beq t1.1 2) (k ⟨(W (s.N6+1)),(rt tV s.b9),(rt tV s.e7)⟩) z)) z) z) (e 2))
noncomputable def ha9 (p:Aa7) (s:T3):Stp T3:=Ia4 .next .exit .fail p s
noncomputable def Qb2:Lo Aa7 T3:=⟨En xb1,0,ke5,[1,0,1,4,4,1,4,4,1,1,0,4,1,1,4,4],[1,3,9,10,16,17,60,62,63],(.s .p (.s .p (.s (.b (.s .p (.s .p (.b (.u Qb1.lsM))))) .p))),[⟨((.s (.o .unk))::((.s (.o (.ptr 0 0 0 0)))::((.s (.o .unk))::((.s (.o (.int .i64)))::(ru2 5 ((.s (.o (.int .i64)))::((.s (.o (.int .i64)))::(ru2 5 ((.s (.o (.int .i64)))::((.s (.o (.int .i64)))::(ru2 42 ((.s (.o (.lit .i64 0)))::((.s (.o .unk))::((.s (.o (.ptr 1 0 0 0)))::((.s (.o (.ptr 2 0 0 0)))::(ru2 8 [])))))))))))))))),[⟨0,1,true,(some [[(.c 3 (nL tV))]])⟩,⟨0,1,true,(some [[(.c 3 (nL tV))]])⟩,⟨0,1,true,(some [[(.o (.blit false))]])⟩],fun a H=>(⟨(toI (slT a 3)),(toI (slT a 9)),(toI (slT a 10)),(toI (slT a 16))⟩,⟨(toI (slT a 17)),(rL tV (slT (rwT (elT H 0) 0) 0)),(rL tV (slT (rwT (elT H 1) 0) 0))⟩)⟩],ha9,[(none,fun p s=>let t1:=(lp (Z2 (⟨p.is3,s.N6,p.is9,p.o9,p.kb5,s.N6,(↑(s.N6.toNat - 0):Int),(rt tV s.b9),(rt tV s.e7)⟩:ra1)) (⟨0⟩:P8));let t2:=(P7 (gL tV (rt tV s.b9) t1.2.F8.toNat) (gL tV (rt tV s.b9) s.N6.toNat) (gL tV (rt tV s.b9) p.is3.toNat));let t3:=(v8 ⟨(rt tV (rt tV s.e7)),t2.1.n.x,t2.1.n.y,t2.1.n.z,t2.1.b⟩);⟨(.unk::((.ptr 0 0 0 0)::(.unk::((i p.is3)::((i s.N6)::((i t1.2.F8)::((.ptr 3 0 0 0)::((b t2.2)::(.unk::((i p.is9)::((i p.o9)::(ra 5 ((i p.kb5)::((i s.N6)::(ra 5 ((i (↑(s.N6.toNat - 0):Int))::((i t1.2.F8)::((b (decide (t1.2.F8 < (↑(s.N6.toNat - 0):Int))))::((i t1.2.F8)::((.tup [(.agg [(i t2.1.n.x),(i t2.1.n.y),(i t2.1.n.z),(i t2.1.b)]),(b t2.2)])::((eL tV (rt tV s.b9))::((i t1.2.F8)::((.tptr [(i (gL tV (rt tV s.b9) t1.2.F8.toNat).x),(i (gL tV (rt tV s.b9) t1.2.F8.toNat).y),(i (gL tV (rt tV s.b9) t1.2.F8.toNat).z)])::((.agg [(i (gL tV (rt tV s.b9) t1.2.F8.toNat).x),(i (gL tV (rt tV s.b9) t1.2.F8.toNat).y),(i (gL tV (rt tV s.b9) t1.2.F8.toNat).z)])::((eL tV (rt tV s.b9))::((i s.N6)::((.tptr [(i (gL tV (rt tV s.b9) s.N6.toNat).x),(i (gL tV (rt tV s.b9) s.N6.toNat).y),(i (gL tV (rt tV s.b9) s.N6.toNat).z)])::((.agg [(i (gL tV (rt tV s.b9) s.N6.toNat).x),(i (gL tV (rt tV s.b9) s.N6.toNat).y),(i (gL tV (rt tV s.b9) s.N6.toNat).z)])::((eL tV (rt tV s.b9))::((i p.is3)::((.tptr [(i (gL tV (rt tV s.b9) p.is3.toNat).x),(i (gL tV (rt tV s.b9) p.is3.toNat).y),(i (gL tV (rt tV s.b9) p.is3.toNat).z)])::((.agg [(i (gL tV (rt tV s.b9) p.is3.toNat).x),(i (gL tV (rt tV s.b9) p.is3.toNat).y),(i (gL tV (rt tV s.b9) p.is3.toNat).z)])::((.tup [(.agg [(i t2.1.n.x),(i t2.1.n.y),(i t2.1.n.z),(i t2.1.b)]),(b t2.2)])::((.agg [(i t2.1.n.x),(i t2.1.n.y),(i t2.1.n.z),(i t2.1.b)])::((b t2.2)::((b t2.2)::((b true)::(.unk::((.agg [(i t2.1.n.x),(i t2.1.n.y),(i t2.1.n.z),(i t2.1.b)])::((b false)::((b true)::((b true)::(.unk::(u::(u::(u::(u::((b true)::((b true)::(ra 3 ((i 1)::(.unk::((.ptr 1 0 0 0)::((.ptr 2 0 0 0)::(ra 8 []))))))))))))))))))))))))))))))))))))))))))))))))))))))),[⟨0,1,[[(eL tV (rt tV s.b9))]],true,false,0⟩,⟨0,1,[[(eL tV (rt tV s.e7))]],true,false,0⟩,⟨0,1,[[(b (!t3.bs0))]],true,false,0⟩,⟨0,4,[[(i t2.1.n.x),(i t2.1.n.y),(i t2.1.n.z),(i t2.1.b)]],true,false,0⟩,⟨0,4,[[(i t2.1.n.x),(i t2.1.n.y),(i t2.1.n.z),(i t2.1.b)]],true,false,0⟩]⟩),(some 2,fun p s=>⟨(.unk::((.ptr 0 0 0 0)::(.unk::((i p.is3)::(ra 5 ((i p.is9)::((i p.o9)::(ra 5 ((i p.kb5)::((i s.N6)::((b (decide (s.N6 < p.kb5)))::(ra 41 ((i 0)::(.unk::((.ptr 1 0 0 0)::((.ptr 2 0 0 0)::(ra 8 []))))))))))))))))),[⟨0,1,[[(eL tV s.b9)]],true,false,0⟩,⟨0,1,[[(eL tV s.e7)]],true,false,0⟩,⟨0,1,[[(b false)]],true,false,0⟩]⟩)],nd3⟩
theorem nd4:Qb2.OkM:=Lo.okM [Qb1.prM] (by kernel_rfl) (.cons nd2 .nil) rfl (.cons (fun a H=>by kernel_rfl) .nil) fun p s=>(.of @Ia4 (fun F _ _ _ _ _=>by unfold Ia4;(repeat' apply j5 (f:=F))<;>rfl) (by kernel_rfl))
structure Va2 where
 is9:Int
structure ga2 where
 o9:Int
 b9:List V3
 e7:List V3
noncomputable def nd5 (p:Va2) (s:ga2):St:=⟨(.unk::((.ptr 0 0 0 0)::(ra 7 ((i p.is9)::((i s.o9)::(ra 49 ((i 0)::(.unk::((.ptr 1 0 0 0)::((.ptr 2 0 0 0)::(ra 8 []))))))))))),[⟨0,1,[[(eL tV s.b9)]],true,false,0⟩,⟨0,1,[[(eL tV s.e7)]],true,false,0⟩,⟨0,1,[[(b false)]],true,false,0⟩]⟩
noncomputable def Ia5 {α:Type} (k:ga2→α) (e:Nat→α) (z:α) (p:Va2) (s:ga2):α:=let t1:=(lp (ha9 (⟨s.o9,p.is9,s.o9,(↑(s.o9.toNat - 0):Int)⟩:Aa7)) (⟨0,(rt tV s.b9),(rt tV s.e7)⟩:T3));(sl (decide (s.o9 < p.is9)) (sl (inB s.o9 ((List.length s.b9)+1)) (sl ((cnE tV s.b9)&&((cnE tV s.e7)&&true)) (sl (Nat.beq t1.1 1) (e 1) (sl (Nat.beq t1.1 2) (k ⟨(W (s.o9+1)),t1.2.b9,t1.2.e7⟩) z)) z) z) (e 2))
noncomputable def Ea4 (p:Va2) (s:ga2):Stp ga2:=Ia5 .next .exit .fail p s
noncomputable def Qb3:Lo Va2 ga2:=⟨En xb1,0,ke5,[1,0,1,4,4,1,4,4],[1,9,10,60,62,63],(.s .p (.s .p (.s (.b (.s .p (.s .p (.b (.u Qb2.lsM))))) .p))),[⟨((.s (.o .unk))::((.s (.o (.ptr 0 0 0 0)))::(ru2 7 ((.s (.o (.int .i64)))::((.s (.o (.int .i64)))::(ru2 49 ((.s (.o (.lit .i64 0)))::((.s (.o .unk))::((.s (.o (.ptr 1 0 0 0)))::((.s (.o (.ptr 2 0 0 0)))::(ru2 8 []))))))))))),[⟨0,1,true,(some [[(.c 3 (nL tV))]])⟩,⟨0,1,true,(some [[(.c 3 (nL tV))]])⟩,⟨0,1,true,(some [[(.o (.blit false))]])⟩],fun a H=>(⟨(toI (slT a 9))⟩,⟨(toI (slT a 10)),(rL tV (slT (rwT (elT H 0) 0) 0)),(rL tV (slT (rwT (elT H 1) 0) 0))⟩)⟩],Ea4,[(none,fun p s=>let t1:=(lp (ha9 (⟨s.o9,p.is9,s.o9,(↑(s.o9.toNat - 0):Int)⟩:Aa7)) (⟨0,(rt tV s.b9),(rt tV s.e7)⟩:T3));let t2:=(lp (Z2 (⟨s.o9,t1.2.N6,p.is9,s.o9,(↑(s.o9.toNat - 0):Int),t1.2.N6,(↑(t1.2.N6.toNat - 0):Int),(rt tV t1.2.b9),(rt tV t1.2.e7)⟩:ra1)) (⟨0⟩:P8));let t3:=(P7 (gL tV (rt tV t1.2.b9) t2.2.F8.toNat) (gL tV (rt tV t1.2.b9) t1.2.N6.toNat) (gL tV (rt tV t1.2.b9) s.o9.toNat));let t4:=(v8 ⟨(rt tV (rt tV t1.2.e7)),t3.1.n.x,t3.1.n.y,t3.1.n.z,t3.1.b⟩);⟨(.unk::((.ptr 0 0 0 0)::(.unk::((i s.o9)::((i t1.2.N6)::((i t2.2.F8)::((.ptr 3 0 0 0)::((b t3.2)::(.unk::((i p.is9)::((i s.o9)::(ra 5 ((i (↑(s.o9.toNat - 0):Int))::((i t1.2.N6)::(ra 5 ((i (↑(t1.2.N6.toNat - 0):Int))::((i t2.2.F8)::((b (decide (t2.2.F8 < (↑(t1.2.N6.toNat - 0):Int))))::((i t2.2.F8)::((.tup [(.agg [(i t3.1.n.x),(i t3.1.n.y),(i t3.1.n.z),(i t3.1.b)]),(b t3.2)])::((eL tV (rt tV t1.2.b9))::((i t2.2.F8)::((.tptr [(i (gL tV (rt tV t1.2.b9) t2.2.F8.toNat).x),(i (gL tV (rt tV t1.2.b9) t2.2.F8.toNat).y),(i (gL tV (rt tV t1.2.b9) t2.2.F8.toNat).z)])::((.agg [(i (gL tV (rt tV t1.2.b9) t2.2.F8.toNat).x),(i (gL tV (rt tV t1.2.b9) t2.2.F8.toNat).y),(i (gL tV (rt tV t1.2.b9) t2.2.F8.toNat).z)])::((eL tV (rt tV t1.2.b9))::((i t1.2.N6)::((.tptr [(i (gL tV (rt tV t1.2.b9) t1.2.N6.toNat).x),(i (gL tV (rt tV t1.2.b9) t1.2.N6.toNat).y),(i (gL tV (rt tV t1.2.b9) t1.2.N6.toNat).z)])::((.agg [(i (gL tV (rt tV t1.2.b9) t1.2.N6.toNat).x),(i (gL tV (rt tV t1.2.b9) t1.2.N6.toNat).y),(i (gL tV (rt tV t1.2.b9) t1.2.N6.toNat).z)])::((eL tV (rt tV t1.2.b9))::((i s.o9)::((.tptr [(i (gL tV (rt tV t1.2.b9) s.o9.toNat).x),(i (gL tV (rt tV t1.2.b9) s.o9.toNat).y),(i (gL tV (rt tV t1.2.b9) s.o9.toNat).z)])::((.agg [(i (gL tV (rt tV t1.2.b9) s.o9.toNat).x),(i (gL tV (rt tV t1.2.b9) s.o9.toNat).y),(i (gL tV (rt tV t1.2.b9) s.o9.toNat).z)])::((.tup [(.agg [(i t3.1.n.x),(i t3.1.n.y),(i t3.1.n.z),(i t3.1.b)]),(b t3.2)])::((.agg [(i t3.1.n.x),(i t3.1.n.y),(i t3.1.n.z),(i t3.1.b)])::((b t3.2)::((b t3.2)::((b true)::(.unk::((.agg [(i t3.1.n.x),(i t3.1.n.y),(i t3.1.n.z),(i t3.1.b)])::((b false)::((b true)::((b true)::(.unk::(u::(u::(u::(u::((b true)::((b true)::(ra 3 ((i 1)::(.unk::((.ptr 1 0 0 0)::((.ptr 2 0 0 0)::(ra 8 []))))))))))))))))))))))))))))))))))))))))))))))))))))))),[⟨0,1,[[(eL tV (rt tV t1.2.b9))]],true,false,0⟩,⟨0,1,[[(eL tV (rt tV t1.2.e7))]],true,false,0⟩,⟨0,1,[[(b (!t4.bs0))]],true,false,0⟩,⟨0,4,[[(i t3.1.n.x),(i t3.1.n.y),(i t3.1.n.z),(i t3.1.b)]],true,false,0⟩,⟨0,4,[[(i t3.1.n.x),(i t3.1.n.y),(i t3.1.n.z),(i t3.1.b)]],true,false,0⟩]⟩),(some 0,fun p s=>⟨(.unk::((.ptr 0 0 0 0)::(ra 7 ((i p.is9)::((i s.o9)::((b (decide (s.o9 < p.is9)))::(ra 48 ((i 0)::(.unk::((.ptr 1 0 0 0)::((.ptr 2 0 0 0)::(ra 8 [])))))))))))),[⟨0,1,[[(eL tV s.b9)]],true,false,0⟩,⟨0,1,[[(eL tV s.e7)]],true,false,0⟩,⟨0,1,[[(b false)]],true,false,0⟩]⟩)],nd5⟩
theorem nd6:Qb3.OkM:=Lo.okM [Qb2.prM] (by kernel_rfl) (.cons nd4 .nil) rfl (.cons (fun a H=>by kernel_rfl) .nil) fun p s=>(.of @Ia5 (fun F _ _ _ _ _=>by unfold Ia5;(repeat' apply j5 (f:=F))<;>rfl) (by kernel_rfl))
noncomputable def pb1 (x:List V3):Option (b7×List b8):=let t1:=(lp (Ea4 (⟨(↑(List.length x):Int)⟩:Va2)) (⟨0,(rt tV x),(rt tV x)⟩:ga2));let t2:=(lp (ha9 (⟨t1.2.o9,(↑(List.length x):Int),t1.2.o9,(↑(t1.2.o9.toNat - 0):Int)⟩:Aa7)) (⟨0,(rt tV t1.2.b9),(rt tV t1.2.e7)⟩:T3));let t3:=(lp (Z2 (⟨t1.2.o9,t2.2.N6,(↑(List.length x):Int),t1.2.o9,(↑(t1.2.o9.toNat - 0):Int),t2.2.N6,(↑(t2.2.N6.toNat - 0):Int),(rt tV t2.2.b9),(rt tV t2.2.e7)⟩:ra1)) (⟨0⟩:P8));let t4:=(P7 (gL tV (rt tV t2.2.b9) t3.2.F8.toNat) (gL tV (rt tV t2.2.b9) t2.2.N6.toNat) (gL tV (rt tV t2.2.b9) t1.2.o9.toNat));let t5:=(v8 ⟨(rt tV (rt tV t2.2.e7)),t4.1.n.x,t4.1.n.y,t4.1.n.z,t4.1.b⟩);(sl ((cnE tV x)&&((cnE tV x)&&true)) (sl (Nat.beq t1.1 1) (some ((b (!t5.bs0)),[])) (sl (Nat.beq t1.1 2) (some ((b true),[])) none)) none)
noncomputable def Lb8 (x:List V3):Bool:=aa3 (one r1B) (pb1 x)
noncomputable def Lb9 (x:List V3):Bool:=okO (one r1B) (pb1 x)
noncomputable def Tc9:Sum:=S5 (Fa1 tV) (fun x=>.guard (Lb9 x) (.ret ((one r1B).enc (Lb8 x),[])))
theorem Kd9:g8 prog G 210 Tc9:=Pa9 (bd Jf5 vd3) (one r1B) (o:=pb1) fun x=>ke6 (.s .p (.s (.s .p (.b (.i (.s .p (.b (.u Qb3.lsM)))))) .p)) [Qb3.prM] (by kernel_rfl) (.cons nd6 .nil) (by kernel_rfl)
end Go.Ev.Ce
end
section
namespace Go.Ev.Ce
open Go Go.Ev Go.Ev.L Go.Proofs
set_option maxRecDepth 100000
structure Wa9 where
 va0:Int
 va1:Int
 va2:Int
 e8:Int
 c7:Int
 f0:Int
 d9:Int
noncomputable def Pc0:List (Nat×Sum):=[(132,wb8)]
theorem Ic1:i4 prog G Pc0:=⟨Pb9,trivial⟩
structure Xa0 where
 alt:Nat
 bs0:Bool
noncomputable def xa4 {α:Type} (kk:Xa0→α) (x:Wa9):α:=let t1:=(Ga4 (⟨(⟨x.e8,x.c7,x.f0⟩:V3),x.d9⟩:Pln) (⟨x.va0,x.va1,x.va2⟩:V3));(sl (Ga5 (⟨(⟨x.e8,x.c7,x.f0⟩:V3),x.d9⟩:Pln) (⟨x.va0,x.va1,x.va2⟩:V3)) (kk ⟨1,(decide (t1 > 0))⟩) (kk ⟨0,false⟩))
noncomputable def Xa1 (x:Wa9):Xa0:=xa4 (fun r=>r) x
noncomputable def jb9 (x:Wa9) (r:Xa0):DT (b7×List b8):=(.ite (Nat.beq r.alt 1) (.ret ((b r.bs0),[⟨0,4,[[(i x.e8),(i x.c7),(i x.f0),(i x.d9)]],true,false,0⟩])) .fail)
theorem Xc7 {α β:Type} (F:α→β) (kk:Xa0→α) (x:Wa9):F (xa4 kk x)=xa4 (fun r=>F (kk r)) x:=by unfold xa4;(repeat' apply j5 (f:=F))<;>rfl
noncomputable def cc8:Sum:=za8 ⟨[(.agg [(.o (.int .i64)),(.o (.int .i64)),(.o (.int .i64))]),(.s (.o (.ptr 0 0 0 0)))],[⟨0,4,true,(some [[(.o (.int .i64)),(.o (.int .i64)),(.o (.int .i64)),(.o (.int .i64))]])⟩],fun a H=>(⟨(toI (slT (cellsOf (slT a 0)) 0)),(toI (slT (cellsOf (slT a 0)) 1)),(toI (slT (cellsOf (slT a 0)) 2)),(toI (slT (rwT (elT H 0) 0) 0)),(toI (slT (rwT (elT H 0) 0) 1)),(toI (slT (rwT (elT H 0) 0) 2)),(toI (slT (rwT (elT H 0) 0) 3))⟩,())⟩ (fun x=>jb9 x (Xa1 x))
theorem Pc1:g8 prog G 213 cc8:=w7 (enc:=fun x=>⟨[(.agg [(i x.va0),(i x.va1),(i x.va2)]),(.ptr 0 0 0 0)],[⟨0,4,[[(i x.e8),(i x.c7),(i x.f0),(i x.d9)]],true,false,0⟩]⟩) (fun a H=>by kernel_rfl) (bd Jf7 Ic1) fun x=>q8 (Eq.trans (b:=xa4 (fun r=>(jb9 x r).run) x) (by kernel_rfl) (Xc7 (fun r=>(jb9 x r).run) (fun r=>r) x).symm)
structure ja6 where
 l5:List V3
 e8:Int
 c7:Int
 f0:Int
 d9:Int
noncomputable def Va3:List (Nat×Sum):=[(213,cc8)]
theorem Jb2:i4 prog G Va3:=⟨Pc1,trivial⟩
structure R5 where
 l5:List V3
 is7:Int
 e8:Int
 c7:Int
 f0:Int
 d9:Int
structure r6 where
 is8:Int
noncomputable def Eb5 (p:R5) (s:r6):St:=⟨((eL tV p.l5)::((.fn 213 [(.ptr 0 0 0 0)])::(ra 5 ((i p.is7)::((i s.is8)::(ra 10 [])))))),[⟨0,4,[[(i p.e8),(i p.c7),(i p.f0),(i p.d9)]],true,false,0⟩]⟩
noncomputable def M9 {α:Type} (k:r6→α) (e:Nat→α) (z:α) (p:R5) (s:r6):α:=let t1:=(Xa1 ⟨(gL tV p.l5 s.is8.toNat).x,(gL tV p.l5 s.is8.toNat).y,(gL tV p.l5 s.is8.toNat).z,p.e8,p.c7,p.f0,p.d9⟩);(sl (decide (s.is8 < p.is7)) (sl (inB s.is8 (List.length p.l5)) (sl (Nat.beq t1.alt 1) (sl t1.bs0 (e 1) (k ⟨(W (s.is8+1))⟩)) z) z) (e 2))
noncomputable def O7 (p:R5) (s:r6):Stp r6:=M9 .next .exit .fail p s
noncomputable def wa3:Lo R5 r6:=⟨En Va3,1,Sd5,[1,0,1,4,4],[0,1,7,8],.p,[⟨((.s (.c 3 (nL tV)))::((.fn 213 [(.o (.ptr 0 0 0 0))])::(ru2 5 ((.s (.o (.int .i64)))::((.s (.o (.int .i64)))::(ru2 10 [])))))),[⟨0,4,true,(some [[(.o (.int .i64)),(.o (.int .i64)),(.o (.int .i64)),(.o (.int .i64))]])⟩],fun a H=>(⟨(rL tV (slT a 0)),(toI (slT a 7)),(toI (slT (rwT (elT H 0) 0) 0)),(toI (slT (rwT (elT H 0) 0) 1)),(toI (slT (rwT (elT H 0) 0) 2)),(toI (slT (rwT (elT H 0) 0) 3))⟩,⟨(toI (slT a 8))⟩)⟩],O7,[(none,fun p s=>⟨[(i s.is8)],[⟨0,4,[[(i p.e8),(i p.c7),(i p.f0),(i p.d9)]],true,false,0⟩]⟩),(some 0,fun p s=>⟨((eL tV p.l5)::((.fn 213 [(.ptr 0 0 0 0)])::(ra 5 ((i p.is7)::((i s.is8)::((b (decide (s.is8 < p.is7)))::(ra 9 []))))))),[⟨0,4,[[(i p.e8),(i p.c7),(i p.f0),(i p.d9)]],true,false,0⟩]⟩)],Eb5⟩
theorem Eb6:wa3.Ok:=Lo.ok [] (by kernel_rfl) .nil rfl (.cons (fun a H=>by kernel_rfl) .nil) fun p s=>(.of @M9 (fun F _ _ _ _ _=>by unfold M9;(repeat' apply j5 (f:=F))<;>rfl) (by kernel_rfl))
structure ja7 where
 alt:Nat
 is0:Int
noncomputable def N8 {α:Type} (kk:ja7→α) (x:ja6):α:=let t1:=(lp (O7 (⟨(rt tV x.l5),(↑(List.length x.l5):Int),x.e8,x.c7,x.f0,x.d9⟩:R5)) (⟨0⟩:r6));(sl ((cnE tV x.l5)&&true) (sl (Nat.beq t1.1 1) (kk ⟨1,t1.2.is8⟩) (sl (Nat.beq t1.1 2) (kk ⟨1,(-1)⟩) (kk ⟨0,0⟩))) (kk ⟨0,0⟩))
noncomputable def ja8 (x:ja6):ja7:=N8 (fun r=>r) x
noncomputable def Aa8 (x:ja6) (r:ja7):DT (b7×List b8):=(.ite (Nat.beq r.alt 1) (.ret ((i r.is0),[⟨0,4,[[(i x.e8),(i x.c7),(i x.f0),(i x.d9)]],true,false,0⟩])) .fail)
theorem Tb7 {α β:Type} (F:α→β) (kk:ja7→α) (x:ja6):F (N8 kk x)=N8 (fun r=>F (kk r)) x:=by unfold N8;(repeat' apply j5 (f:=F))<;>rfl
noncomputable def Za7:Sum:=za8 ⟨[(.s (.c 3 (nL tV))),(.fn 213 [(.o (.ptr 0 0 0 0))])],[⟨0,4,true,(some [[(.o (.int .i64)),(.o (.int .i64)),(.o (.int .i64)),(.o (.int .i64))]])⟩],fun a H=>(⟨(rL tV (slT a 0)),(toI (slT (rwT (elT H 0) 0) 0)),(toI (slT (rwT (elT H 0) 0) 1)),(toI (slT (rwT (elT H 0) 0) 2)),(toI (slT (rwT (elT H 0) 0) 3))⟩,())⟩ (fun x=>Aa8 x (ja8 x))
theorem Qb4:g8 prog G 198 Za7:=w7 (enc:=fun x=>⟨[(eL tV x.l5),(.fn 213 [(.ptr 0 0 0 0)])],[⟨0,4,[[(i x.e8),(i x.c7),(i x.f0),(i x.d9)]],true,false,0⟩]⟩) (fun a H=>by kernel_rfl) (bd Ue2 Jb2) fun x=>Ma1 (.s .p (.s (.s .p (.b (.u wa3.ls))) .p)) [wa3.pr] (by kernel_rfl) (.cons Eb6 .nil) (Eq.trans (b:=N8 (fun r=>(Aa8 x r).run) x) (by kernel_rfl) (Tb7 (fun r=>(Aa8 x r).run) (fun r=>r) x).symm)
structure Z3 where
 l5:List V3
 e8:Int
 c7:Int
 f0:Int
 d9:Int
noncomputable def xb2:List (Nat×Sum):=[(198,Za7)]
theorem tb0:i4 prog G xb2:=⟨Qb4,trivial⟩
structure Z4 where
 alt:Nat
 bs0:Bool
noncomputable def E9 {α:Type} (kk:Z4→α) (x:Z3):α:=let t1:=(ja8 ⟨(rt tV x.l5),x.e8,x.c7,x.f0,x.d9⟩);(sl ((cnE tV x.l5)&&true) (sl (Nat.beq t1.alt 1) (kk ⟨1,(decide (t1.is0≥0))⟩) (kk ⟨0,false⟩)) (kk ⟨0,false⟩))
noncomputable def Z5 (x:Z3):Z4:=E9 (fun r=>r) x
noncomputable def qa1 (x:Z3) (r:Z4):DT (b7×List b8):=(.ite (Nat.beq r.alt 1) (.ret ((b r.bs0),[⟨0,4,[[(i x.e8),(i x.c7),(i x.f0),(i x.d9)]],true,false,0⟩])) .fail)
theorem Eb7 {α β:Type} (F:α→β) (kk:Z4→α) (x:Z3):F (E9 kk x)=E9 (fun r=>F (kk r)) x:=by unfold E9;(repeat' apply j5 (f:=F))<;>rfl
noncomputable def Oa5:Sum:=za8 ⟨[(.s (.c 3 (nL tV))),(.fn 213 [(.o (.ptr 0 0 0 0))])],[⟨0,4,true,(some [[(.o (.int .i64)),(.o (.int .i64)),(.o (.int .i64)),(.o (.int .i64))]])⟩],fun a H=>(⟨(rL tV (slT a 0)),(toI (slT (rwT (elT H 0) 0) 0)),(toI (slT (rwT (elT H 0) 0) 1)),(toI (slT (rwT (elT H 0) 0) 2)),(toI (slT (rwT (elT H 0) 0) 3))⟩,())⟩ (fun x=>qa1 x (Z5 x))
theorem xb3:g8 prog G 209 Oa5:=w7 (enc:=fun x=>⟨[(eL tV x.l5),(.fn 213 [(.ptr 0 0 0 0)])],[⟨0,4,[[(i x.e8),(i x.c7),(i x.f0),(i x.d9)]],true,false,0⟩]⟩) (fun a H=>by kernel_rfl) (bd kf9 tb0) fun x=>q8 (Eq.trans (b:=E9 (fun r=>(qa1 x r).run) x) (by kernel_rfl) (Eb7 (fun r=>(qa1 x r).run) (fun r=>r) x).symm)
noncomputable def nd7:List (Nat×Sum):=[(209,Oa5)]
theorem Xc8:i4 prog G nd7:=⟨xb3,trivial⟩
noncomputable def Va4 (x:List V3) (y:Pln):Option (b7×List b8):=let t1:=(Z5 ⟨(rt tV x),y.n.x,y.n.y,y.n.z,y.b⟩);(sl ((cnE tV x)&&true) (sl (Nat.beq t1.alt 1) (some ((b t1.bs0),[])) none) none)
noncomputable def ra2 (x:List V3) (y:Pln):Bool:=aa3 (one r1B) (Va4 x y)
noncomputable def P9 (x:List V3) (y:Pln):Bool:=okO (one r1B) (Va4 x y)
noncomputable def uc9:Sum:=Sa3 (Fa1 tV) (ua9 tP) (fun x y=>.guard (P9 x y) (.ret ((one r1B).enc (ra2 x y),[])))
theorem nd8:g8 prog G 162 uc9:=rc6 (bd Hf0 Xc8) (one r1B) (o:=Va4) fun x y=>q8 (by kernel_rfl)
end Go.Ev.Ce
end
section
namespace Go.Ev.Ce
open Go Go.Ev Go.Ev.L Go.Proofs
set_option maxRecDepth 100000
noncomputable def Xc9:List (Nat×Sum):=[(107,Cb8)]
theorem Pc2:i4 prog G Xc9:=⟨Lb3,trivial⟩
noncomputable def Oa6 (x:V3):Option (b7×List b8):=let t1:=(Ga0 x);(sl (Ga1 x) (some ((b (!t1)),[])) none)
noncomputable def eb9 (x:V3):Bool:=aa3 (one r1B) (Oa6 x)
noncomputable def fb0 (x:V3):Bool:=okO (one r1B) (Oa6 x)
noncomputable def mc3:Sum:=S5 (ua9 tV) (fun x=>.guard (fb0 x) (.ret ((one r1B).enc (eb9 x),[])))
theorem Yc0:g8 prog G 208 mc3:=Pa9 (bd Jf4 Pc2) (one r1B) (o:=Oa6) fun x=>q8 (by kernel_rfl)
structure ja9 where
 l5:List V3
noncomputable def Va5:List (Nat×Sum):=[(208,mc3)]
theorem Jb3:i4 prog G Va5:=⟨Yc0,trivial⟩
structure R6 where
 l5:List V3
 is7:Int
structure r7 where
 is8:Int
noncomputable def Eb8 (p:R6) (s:r7):St:=⟨((eL tV p.l5)::((.fn 208 [])::(ra 5 ((i p.is7)::((i s.is8)::(ra 10 [])))))),[]⟩
noncomputable def N0 {α:Type} (k:r7→α) (e:Nat→α) (z:α) (p:R6) (s:r7):α:=let t1:=(eb9 (gL tV p.l5 s.is8.toNat));(sl (decide (s.is8 < p.is7)) (sl (inB s.is8 (List.length p.l5)) (sl (fb0 (gL tV p.l5 s.is8.toNat)) (sl t1 (e 1) (k ⟨(W (s.is8+1))⟩)) z) z) (e 2))
noncomputable def O8 (p:R6) (s:r7):Stp r7:=N0 .next .exit .fail p s
noncomputable def wa4:Lo R6 r7:=⟨En Va5,0,Sd5,[1,0,1,4,4],[0,1,7,8],.p,[⟨((.s (.c 3 (nL tV)))::((.s (.o (.fn 208)))::(ru2 5 ((.s (.o (.int .i64)))::((.s (.o (.int .i64)))::(ru2 10 [])))))),[],fun a H=>(⟨(rL tV (slT a 0)),(toI (slT a 7))⟩,⟨(toI (slT a 8))⟩)⟩],O8,[(none,fun p s=>⟨[(i s.is8)],[]⟩),(some 0,fun p s=>⟨((eL tV p.l5)::((.fn 208 [])::(ra 5 ((i p.is7)::((i s.is8)::((b (decide (s.is8 < p.is7)))::(ra 9 []))))))),[]⟩)],Eb8⟩
theorem Eb9:wa4.Ok:=Lo.ok [] (by kernel_rfl) .nil rfl (.cons (fun a H=>by kernel_rfl) .nil) fun p s=>(.of @N0 (fun F _ _ _ _ _=>by unfold N0;(repeat' apply j5 (f:=F))<;>rfl) (by kernel_rfl))
structure ka0 where
 alt:Nat
 is0:Int
noncomputable def N9 {α:Type} (kk:ka0→α) (x:ja9):α:=let t1:=(lp (O8 (⟨(rt tV x.l5),(↑(List.length x.l5):Int)⟩:R6)) (⟨0⟩:r7));(sl ((cnE tV x.l5)&&true) (sl (Nat.beq t1.1 1) (kk ⟨1,t1.2.is8⟩) (sl (Nat.beq t1.1 2) (kk ⟨1,(-1)⟩) (kk ⟨0,0⟩))) (kk ⟨0,0⟩))
noncomputable def ka1 (x:ja9):ka0:=N9 (fun r=>r) x
noncomputable def Aa9 (x:ja9) (r:ka0):DT (b7×List b8):=(.ite (Nat.beq r.alt 1) (.ret ((i r.is0),[])) .fail)
theorem Tb8 {α β:Type} (F:α→β) (kk:ka0→α) (x:ja9):F (N9 kk x)=N9 (fun r=>F (kk r)) x:=by unfold N9;(repeat' apply j5 (f:=F))<;>rfl
noncomputable def Za8:Sum:=za8 ⟨[(.s (.c 3 (nL tV))),(.s (.o (.fn 208)))],[],fun a H=>(⟨(rL tV (slT a 0))⟩,())⟩ (fun x=>Aa9 x (ka1 x))
theorem Qb5:g8 prog G 198 Za8:=w7 (enc:=fun x=>⟨[(eL tV x.l5),(.fn 208 [])],[]⟩) (fun a H=>by kernel_rfl) (bd Ue2 Jb3) fun x=>Ma1 (.s .p (.s (.s .p (.b (.u wa4.ls))) .p)) [wa4.pr] (by kernel_rfl) (.cons Eb9 .nil) (Eq.trans (b:=N9 (fun r=>(Aa9 x r).run) x) (by kernel_rfl) (Tb8 (fun r=>(Aa9 x r).run) (fun r=>r) x).symm)
structure Z6 where
 l5:List V3
noncomputable def xb4:List (Nat×Sum):=[(198,Za8)]
theorem tb1:i4 prog G xb4:=⟨Qb5,trivial⟩
structure Z7 where
 alt:Nat
 bs0:Bool
noncomputable def F4 {α:Type} (kk:Z7→α) (x:Z6):α:=let t1:=(ka1 ⟨(rt tV x.l5)⟩);(sl ((cnE tV x.l5)&&true) (sl (Nat.beq t1.alt 1) (kk ⟨1,(decide (t1.is0≥0))⟩) (kk ⟨0,false⟩)) (kk ⟨0,false⟩))
noncomputable def Z8 (x:Z6):Z7:=F4 (fun r=>r) x
noncomputable def qa2 (x:Z6) (r:Z7):DT (b7×List b8):=(.ite (Nat.beq r.alt 1) (.ret ((b r.bs0),[])) .fail)
theorem Fb0 {α β:Type} (F:α→β) (kk:Z7→α) (x:Z6):F (F4 kk x)=F4 (fun r=>F (kk r)) x:=by unfold F4;(repeat' apply j5 (f:=F))<;>rfl
noncomputable def Oa7:Sum:=za8 ⟨[(.s (.c 3 (nL tV))),(.s (.o (.fn 208)))],[],fun a H=>(⟨(rL tV (slT a 0))⟩,())⟩ (fun x=>qa2 x (Z8 x))
theorem xb5:g8 prog G 209 Oa7:=w7 (enc:=fun x=>⟨[(eL tV x.l5),(.fn 208 [])],[]⟩) (fun a H=>by kernel_rfl) (bd kf9 tb1) fun x=>q8 (Eq.trans (b:=F4 (fun r=>(qa2 x r).run) x) (by kernel_rfl) (Fb0 (fun r=>(qa2 x r).run) (fun r=>r) x).symm)
noncomputable def vd4:List (Nat×Sum):=[(209,Oa7),(210,Tc9)]
theorem nd9:i4 prog G vd4:=⟨xb5,Kd9,trivial⟩
noncomputable def fb1 (x:List V3):Option (b7×List b8):=let t1:=(Z8 ⟨(rt tV x)⟩);let t2:=(Lb8 (rt tV x));(sl (decide ((↑(List.length x):Int) > 48)) (some ((i 2),[])) (sl ((cnE tV x)&&true) (sl (Nat.beq t1.alt 1) (sl t1.bs0 (some ((i 3),[])) (sl (okE tV x) (sl (Lb9 (rt tV x)) (sl t2 (some ((i 11),[])) (some ((i 0),[]))) none) none)) none) none))
noncomputable def xb6 (x:List V3):Int:=aa3 (one r1I) (fb1 x)
noncomputable def xb7 (x:List V3):Bool:=okO (one r1I) (fb1 x)
noncomputable def Ic2:Sum:=S5 (Fa1 tV) (fun x=>.guard (xb7 x) (.ret ((one r1I).enc (xb6 x),[])))
theorem vd5:g8 prog G 160 Ic2:=Pa9 (bd Gf8 nd9) (one r1I) (o:=fb1) fun x=>q8 (by kernel_rfl)
end Go.Ev.Ce
end
section
namespace Go.Ev.Ce
open Go Go.Ev Go.Ev.L Go.Proofs
set_option maxRecDepth 100000
noncomputable def Pc3:List (Nat×Sum):=[]
theorem Ic3:i4 prog G Pc3:=trivial
noncomputable def Xa2 (x:Int):Bool:=(x != x)
noncomputable def cc9:Sum:=S5 cI (fun x=>.ret ((one r1B).enc (Xa2 x),[]))
theorem Pc4:g8 prog G 253 cc9:=lb0 (bd Lf0 Ic3) fun x=>q8 (by kernel_rfl)
noncomputable def yc8:List (Nat×Sum):=[(253,cc9)]
theorem sc6:i4 prog G yc8:=⟨Pc4,trivial⟩
noncomputable def za0 (x:Int) (y:Int):Option (b7×List b8):=let t1:=(Xa2 x);let t2:=(Xa2 y);(sl t1 (sl t2 (some ((i 0),[])) (some ((i (-1)),[]))) (sl t2 (some ((i 1),[])) (sl (decide (x < y)) (some ((i (-1)),[])) (sl (decide (x > y)) (some ((i 1),[])) (some ((i 0),[]))))))
noncomputable def ka2 (x:Int) (y:Int):Int:=aa3 (one r1I) (za0 x y)
noncomputable def ka3 (x:Int) (y:Int):Bool:=okO (one r1I) (za0 x y)
noncomputable def Mb0:Sum:=Sa3 cI cI (fun x y=>.guard (ka3 x y) (.ret ((one r1I).enc (ka2 x y),[])))
theorem yc9:g8 prog G 235 Mb0:=rc6 (bd Kf7 sc6) (one r1I) (o:=za0) fun x y=>q8 (by kernel_rfl)
noncomputable def vc0:List (Nat×Sum):=[]
theorem od0:i4 prog G vc0:=trivial
structure Oa8 where
 Ba3:List Int
 is7:Int
structure T4 where
 is8:Int
noncomputable def Yc1 (p:Oa8) (s:T4):St:=⟨(ra 3 ((i 0)::(.unk::(.unk::((eL tI p.Ba3)::((i p.is7)::((i s.is8)::(ra 9 [])))))))),[]⟩
noncomputable def kb0 {α:Type} (k:T4→α) (e:Nat→α) (z:α) (p:Oa8) (s:T4):α:=(sl (decide (s.is8 < p.is7)) (sl (inB s.is8 (List.length p.Ba3)) (sl ((gL tI p.Ba3 s.is8.toNat) != 0) (e 1) (k ⟨(W (s.is8+1))⟩)) z) (e 2))
noncomputable def ma2 (p:Oa8) (s:T4):Stp T4:=kb0 .next .exit .fail p s
noncomputable def Fb1:Lo Oa8 T4:=⟨En vc0,0,ef6,[1,1,0,1,4,4],[3,6,7,8],.p,[⟨(ru2 3 ((.s (.o (.lit .i64 0)))::((.s (.o .unk))::((.s (.o .unk))::((.s (.c 1 (nL tI)))::((.s (.o (.int .i64)))::((.s (.o (.int .i64)))::(ru2 9 [])))))))),[],fun a H=>(⟨(rL tI (slT a 6)),(toI (slT a 7))⟩,⟨(toI (slT a 8))⟩)⟩],ma2,[(none,fun p s=>⟨[(i (gL tI p.Ba3 s.is8.toNat))],[]⟩),(some 0,fun p s=>⟨(ra 3 ((i 0)::(.unk::(.unk::((eL tI p.Ba3)::((i p.is7)::((i s.is8)::((b (decide (s.is8 < p.is7)))::(ra 8 []))))))))),[]⟩)],Yc1⟩
theorem Yc2:Fb1.Ok:=Lo.ok [] (by kernel_rfl) .nil rfl (.cons (fun a H=>by kernel_rfl) .nil) fun p s=>(.of @kb0 (fun F _ _ _ _ _=>by unfold kb0;(repeat' apply j5 (f:=F))<;>rfl) (by kernel_rfl))
noncomputable def fb2 (x:List Int):Option (b7×List b8):=let t1:=(lp (ma2 (⟨(rt tI x),(↑(List.length x):Int)⟩:Oa8)) (⟨0⟩:T4));(sl ((cnE tI x)&&true) (sl (Nat.beq t1.1 1) (some ((i (gL tI (rt tI x) t1.2.is8.toNat)),[])) (sl (Nat.beq t1.1 2) (some ((i 0),[])) none)) none)
noncomputable def xb8 (x:List Int):Int:=aa3 (one r1I) (fb2 x)
noncomputable def xb9 (x:List Int):Bool:=okO (one r1I) (fb2 x)
noncomputable def Ic4:Sum:=S5 (Fa1 tI) (fun x=>.guard (xb9 x) (.ret ((one r1I).enc (xb8 x),[])))
theorem vd6:g8 prog G 234 Ic4:=Pa9 (bd Kf6 od0) (one r1I) (o:=fb2) fun x=>Ma1 (.s .p (.s .p (.s (.s .p (.b (.u Fb1.ls))) .p))) [Fb1.pr] (by kernel_rfl) (.cons Yc2 .nil) (by kernel_rfl)
noncomputable def Yc3:List (Nat×Sum):=[(235,Mb0),(234,Ic4)]
theorem Pc5:i4 prog G Yc3:=⟨yc9,vd6,trivial⟩
noncomputable def Oa9 (x:V3) (y:V3):Option (b7×List b8):=let t1:=(ka2 x.x y.x);let t2:=(ka2 x.y y.y);let t3:=(ka2 x.z y.z);let t4:=(xb8 [t1,t2,t3]);(sl (ka3 x.x y.x) (sl (ka3 x.y y.y) (sl (ka3 x.z y.z) (sl (xb9 [t1,t2,t3]) (some ((i t4),[])) none) none) none) none)
noncomputable def fb3 (x:V3) (y:V3):Int:=aa3 (one r1I) (Oa9 x y)
noncomputable def fb4 (x:V3) (y:V3):Bool:=okO (one r1I) (Oa9 x y)
noncomputable def Fb2:Sum:=Sa3 (ua9 tV) (ua9 tV) (fun x y=>.guard (fb4 x y) (.ret ((one r1I).enc (fb3 x y),[])))
theorem Yc4:g8 prog G 201 Fb2:=rc6 (bd Jf1 Pc5) (one r1I) (o:=Oa9) fun x y=>q8 (by kernel_rfl)
end Go.Ev.Ce
end
namespace Go.Proofs
open Go.Shelf
set_option maxRecDepth 100000 in
def Ce.sortLayV_ren:Go.Shelf.Ren:=⟨fun | 6=>200 | 15=>178 | 14=>233 | 28=>230 | 29=>231 | 20=>245 | 21=>246 | 22=>247 | 23=>248 | 24=>249 | 25=>250 | 26=>251 | 27=>252 | 46=>255 | 47=>241 | 48=>242 | 49=>256 | 50=>257 | 57=>258 | n=>n,fun | 22=>40 | 24=>36 | 25=>87 | 3=>3 | 39=>185 | 0=>0 | 53=>213 | 55=>215 | 4=>4 | 46=>207 | 45=>206 | 50=>72 | 5=>5 | 9=>9 | 66=>219 | 70=>223 | 76=>231 | 77=>232 | n=>n,fun | n=>n⟩
set_option maxRecDepth 100000 in
theorem Ce.sortLayV:Go.Proofs.SlLaysF0.n6 Tryz.prog Ce.sortLayV_ren:={
 mixed:=by kernel_rfl
 f6:=⟨Tryz.f200.name,by decide,Tryz.func200.trans (congrArg some (by kernel_rfl))⟩
 f14:=⟨Tryz.f233.name,by decide,Tryz.func233.trans (congrArg some (by kernel_rfl))⟩
 f15:=Tryz.func178.trans (congrArg some (by kernel_rfl))
 f20:=⟨Tryz.f245.name,by decide,Tryz.func245.trans (congrArg some (by kernel_rfl))⟩
 f21:=⟨Tryz.f246.name,by decide,Tryz.func246.trans (congrArg some (by kernel_rfl))⟩
 f22:=⟨Tryz.f247.name,by decide,Tryz.func247.trans (congrArg some (by kernel_rfl))⟩
 f23:=⟨Tryz.f248.name,by decide,Tryz.func248.trans (congrArg some (by kernel_rfl))⟩
 f24:=⟨Tryz.f249.name,by decide,Tryz.func249.trans (congrArg some (by kernel_rfl))⟩
 f25:=⟨Tryz.f250.name,by decide,Tryz.func250.trans (congrArg some (by kernel_rfl))⟩
 f26:=⟨Tryz.f251.name,by decide,Tryz.func251.trans (congrArg some (by kernel_rfl))⟩
 f27:=⟨Tryz.f252.name,by decide,Tryz.func252.trans (congrArg some (by kernel_rfl))⟩
 f28:=Tryz.func230.trans (congrArg some (by kernel_rfl))
 f29:=Tryz.func231.trans (congrArg some (by kernel_rfl))
 f46:=⟨Tryz.f255.name,by decide,Tryz.func255.trans (congrArg some (by kernel_rfl))⟩
 f47:=Tryz.func241.trans (congrArg some (by kernel_rfl))
 f48:=Tryz.func242.trans (congrArg some (by kernel_rfl))
 f49:=⟨Tryz.f256.name,by decide,Tryz.func256.trans (congrArg some (by kernel_rfl))⟩
 f50:=⟨Tryz.f257.name,by decide,Tryz.func257.trans (congrArg some (by kernel_rfl))⟩
 f57:=⟨Tryz.f258.name,by decide,Tryz.func258.trans (congrArg some (by kernel_rfl))⟩
 t0:=Tryz.underlying0
 a0:=Tryz.isAgg0
 z0:=Tryz.sizeOf0
 v0:=Tryz.zeroValue0
 t3:=Tryz.underlying3
 a3:=Tryz.isAgg3
 z3:=Tryz.sizeOf3
 v3:=Tryz.zeroValue3
 t4:=Tryz.underlying4
 a4:=Tryz.isAgg4
 z4:=Tryz.sizeOf4
 v4:=Tryz.zeroValue4
 t5:=Tryz.underlying5
 a5:=Tryz.isAgg5
 z5:=Tryz.sizeOf5
 v5:=Tryz.zeroValue5
 t9:=Tryz.underlying9
 a9:=Tryz.isAgg9
 z9:=Tryz.sizeOf9
 v9:=Tryz.zeroValue9
 t22:=Tryz.underlying40
 a22:=Tryz.isAgg40
 z22:=Tryz.sizeOf40
 v22:=Tryz.zeroValue40
 t25:=Tryz.underlying87
 a25:=Tryz.isAgg87
 z25:=Tryz.sizeOf87
 v25:=Tryz.zeroValue87
 t39:=Tryz.underlying185
 a39:=Tryz.isAgg185
 z39:=Tryz.sizeOf185
 v39:=Tryz.zeroValue185
 t45:=Tryz.underlying206
 a45:=Tryz.isAgg206
 z45:=Tryz.sizeOf206
 v45:=Tryz.zeroValue206
 t46:=Tryz.underlying207
 a46:=Tryz.isAgg207
 z46:=Tryz.sizeOf207
 v46:=Tryz.zeroValue207
 t50:=Tryz.underlying72
 a50:=Tryz.isAgg72
 z50:=Tryz.sizeOf72
 v50:=Tryz.zeroValue72
 t53:=Tryz.underlying213
 a53:=Tryz.isAgg213
 z53:=Tryz.sizeOf213
 v53:=Tryz.zeroValue213
 t55:=Tryz.underlying215
 a55:=Tryz.isAgg215
 z55:=Tryz.sizeOf215
 v55:=Tryz.zeroValue215
 t66:=Tryz.underlying219
 a66:=Tryz.isAgg219
 z66:=Tryz.sizeOf219
 v66:=Tryz.zeroValue219
 t70:=Tryz.underlying223
 a70:=Tryz.isAgg223
 z70:=Tryz.sizeOf223
 v70:=Tryz.zeroValue223
 t76:=Tryz.underlying231
 a76:=Tryz.isAgg231
 z76:=Tryz.sizeOf231
 v76:=Tryz.zeroValue231
 t77:=Tryz.underlying232
 a77:=Tryz.isAgg232
 z77:=Tryz.sizeOf232
 v77:=Tryz.zeroValue232 }
end Go.Proofs
namespace Go.Ev.Ce
open Go Go.Ev Go.Ev.L Go.Proofs Go.Sort
theorem ne6 (x y:Int):za0 x y=some (i (Pb5 x y),[]):=by
 unfold za0 Xa2 Pb5
 simp only[bne_self_eq_false,Nb2,decide_eq_true_eq,Bool.false_eq_true,if_false]
 split<;>(try split)<;>rfl
theorem of6 (x y:Int):ka2 x y=Pb5 x y:=by unfold ka2;rw[ne6];rfl
theorem of7 (x y:Int):ka3 x y=true:=by unfold ka3;rw[ne6];rfl
def orI (a c d:Int):Int:=if a=0 then if c=0 then d else c else a
theorem Ze0 (a c d:Int):((lp (ma2 ⟨[a,c,d],3⟩) ⟨0⟩).1=1∧gL tI [a,c,d] (lp (ma2 ⟨[a,c,d],3⟩) ⟨0⟩).2.is8.toNat=orI a c d)∨((lp (ma2 ⟨[a,c,d],3⟩) ⟨0⟩).1=2∧orI a c d=0):=by
 have g0:gL tI [a,c,d] 0=a:=rfl
 have g1:gL tI [a,c,d] 1=c:=rfl
 have g2:gL tI [a,c,d] 2=d:=rfl
 refine ic6 (step:=ma2 ⟨[a,c,d],3⟩) (I:=fun m s=>(m=3∧s=⟨0⟩)∨(m=2∧s=⟨1⟩∧a=0)∨(m=1∧s=⟨2⟩∧a=0∧c=0)∨(m=0∧s=⟨3⟩∧a=0∧c=0∧d=0))
  (Q:=fun t s=>(t=1∧gL tI [a,c,d] s.is8.toNat=orI a c d)∨(t=2∧orI a c d=0)) (fun m s hi=>?_) 3 ⟨0⟩ (by omega) (.inl ⟨rfl,rfl⟩)
 rcases hi with⟨rfl,rfl⟩ | ⟨rfl,rfl,ha⟩ | ⟨rfl,rfl,ha,hc⟩ | ⟨rfl,rfl,ha,hc,hd⟩
 ·by_cases h:a=0
  ·exact .inr ⟨⟨1⟩,2,rfl,by subst h;rfl,.inr (.inl ⟨rfl,rfl,h⟩)⟩
  ·refine .inl ⟨1,?_,.inl ⟨rfl,by unfold orI;rw[if_neg h];rfl⟩⟩
   show sl (a != 0) (Stp.exit 1) (Stp.next (⟨W (0+1)⟩:T4))=_
   rw[bt (by simpa using h)]
 ·by_cases h:c=0
  ·exact .inr ⟨⟨2⟩,1,rfl,by subst h;rfl,.inr (.inr (.inl ⟨rfl,rfl,ha,h⟩))⟩
  ·refine .inl ⟨1,?_,.inl ⟨rfl,by unfold orI;rw[if_pos ha,if_neg h];rfl⟩⟩
   show sl (c != 0) (Stp.exit 1) (Stp.next (⟨W (1+1)⟩:T4))=_
   rw[bt (by simpa using h)]
 ·by_cases h:d=0
  ·exact .inr ⟨⟨3⟩,0,rfl,by subst h;rfl,.inr (.inr (.inr ⟨rfl,rfl,ha,hc,h⟩))⟩
  ·refine .inl ⟨1,?_,.inl ⟨rfl,by unfold orI;rw[if_pos ha,if_pos hc];rfl⟩⟩
   show sl (d != 0) (Stp.exit 1) (Stp.next (⟨W (2+1)⟩:T4))=_
   rw[bt (by simpa using h)]
 ·exact .inl ⟨2,rfl,.inr ⟨rfl,by unfold orI;rw[if_pos ha,if_pos hc];exact hd⟩⟩
theorem gf6 (a c d:Int):fb2 [a,c,d]=some (i (orI a c d),[]):=by
 have h:=Ze0 a c d
 unfold fb2
 simp only[l6,j9]
 rw[show ((([a,c,d]:List Int).length:Nat):Int)=3 from rfl]
 generalize lp (ma2 ⟨[a,c,d],3⟩) ⟨0⟩=r at *
 rcases h with⟨h1,h2⟩ | ⟨h1,h2⟩
 ·rw[h1,h2];rfl
 ·rw[h1,h2];rfl
theorem Lf4 (a c d:Int):xb8 [a,c,d]=orI a c d:=by unfold xb8;rw[gf6];rfl
theorem Lf5 (a c d:Int):xb9 [a,c,d]=true:=by unfold xb9;rw[gf6];rfl
def Qb6 (x y:V3):Int:=orI (Pb5 x.x y.x) (Pb5 x.y y.y) (Pb5 x.z y.z)
def LtV (x y:V3):Prop:=x.x < y.x∨x.x=y.x∧(x.y < y.y∨x.y=y.y∧x.z < y.z)
instance (x y:V3):Decidable (LtV x y):=by unfold LtV;exact inferInstance
theorem Ze1 (x y:V3):Qb6 x y < 0↔LtV x y:=by
 have h1:=Zb4 x.x y.x;have h2:=Gc4 x.x y.x
 have h3:=Zb4 x.y y.y;have h4:=Gc4 x.y y.y
 have h5:=Zb4 x.z y.z
 unfold Qb6 orI LtV
 split
 ·split<;>omega
 ·omega
theorem Za9 (x y:V3):ltOf Qb6 x y=decide (LtV x y):=by
 unfold ltOf
 rw[decide_eq_decide]
 exact Ze1 x y
theorem Bf4:SWO (ltOf Qb6) where
 irrefl x:=by rw[Za9];simp[LtV]
 trans x y z h1 h2:=by rw[Za9,decide_eq_true_eq] at *;unfold LtV at *;omega
 ntrans x y z h1 h2:=by rw[Za9,decide_eq_false_iff_not] at *;unfold LtV at *;omega
theorem Lf6 (x y:V3) (h1:ltOf Qb6 x y=false) (h2:ltOf Qb6 y x=false):x=y:=by
 rw[Za9,decide_eq_false_iff_not] at *
 unfold LtV at *
 obtain⟨a,b,c⟩:=x;obtain⟨a',b',c'⟩:=y
 simp only at *
 have:a=a'∧b=b'∧c=c':=by omega
 obtain⟨rfl,rfl,rfl⟩:=this
 rfl
theorem Uc0 (x y:V3):Oa9 x y=some (i (Qb6 x y),[]):=by
 unfold Oa9 Qb6
 simp only[of6,of7,Lf4,Lf5,w6]
theorem of8 (x y:V3):fb3 x y=Qb6 x y:=by unfold fb3;rw[Uc0];rfl
theorem of9 (x y:V3):fb4 x y=true:=by unfold fb4;rw[Uc0];rfl
theorem pf0 (x y:V3):(Fb2 [.agg (tV.row x),.agg (tV.row y)] []).run=some (i (Qb6 x y),[]):=by
 have:(Fb2 [.agg (tV.row x),.agg (tV.row y)] []).run=sel (fb4 x y) (some (i (fb3 x y),[])) none:=by kernel_rfl
 rw[this,of9,of8]
def Le1 (p:V3):List Value:=[.int .i64 p.x,.int .i64 p.y,.int .i64 p.z]
instance:Inhabited V3:=⟨⟨0,0,0⟩⟩
def dc0 (l:List V3):List V3:=l.mergeSort fun x y=>!ltOf Qb6 y x
theorem Bd4 (l:List V3):(dc0 l).length=l.length:=List.length_mergeSort l
noncomputable def Ka7:Sum:=me1 tV 201 36 dc0
theorem ve3:Ce.sortLayV_ren.f 6=200:=by kernel_rfl
theorem od1:Ce.sortLayV_ren.t 24=36:=by kernel_rfl
set_option maxRecDepth 100000 in
theorem fb5:g8 prog G 200 Ka7:=by
 refine me2 (enc:=Le1) (cf:=Qb6) ⟨_,Tryz.func200,by kernel_rfl,of_decide_eq_true (by kernel_rfl)⟩ (by decide) (fun _=>rfl) (fun r h=>Ya8 (n:=3) h) (fun x v hv=>?_) Bd4
  (fun blk off size w=>me0 Yc4 pf0 (fun _=>rfl) (fun _=>rfl) _ _ _ _ _) (fun blk cap d w hcl hH hb hs=>?_)
 ·simp[Le1] at hv
  rcases hv with rfl | rfl | rfl<;>rfl
 ·have eg:∀ args w,(callFunc 201 args).run Tryz.prog w=.ok (.enter 201 args) w:=enters_of Tryz.func201 (by kernel_rfl) rfl
  have:=AnyQ.slices_SortFunc Ce.sortLayV 3 (by rw[od1];exact Tryz.isAgg36) (by rw[od1];exact Tryz.sizeOf36) Le1 (fun _=>rfl) (fun x v hv=>by simp[Le1] at hv;rcases hv with rfl | rfl | rfl<;>rfl) Qb6 Bf4 201 #[] blk 0 cap d w eg (hcl 0 d.size) hH hb hs
  rw[ve3] at this
  refine this.mono fun e w' ⟨h1,d',n,os,h2,h3,h4⟩=>⟨h1,n,os,?_⟩
  have h5:=sorted_unique_holds Bf4 Lf6 d d' h2 h3
  rw[h4]
  show _=sortWorldK Le1 3 w blk 0 n (d.toList.mergeSort fun x y=>!ltOf Qb6 y x).toArray os
  rw[← h5]
end Go.Ev.Ce
section
namespace Go.Ev.Ce
open Go Go.Ev Go.Ev.L Go.Proofs
set_option maxRecDepth 100000
noncomputable def sc7:List (Nat×Sum):=[]
theorem mc4:i4 prog G sc7:=trivial
structure Ga6 where
 alt:Nat
 ns0:Nat
 eh0:List (List b7)
noncomputable def ea3 {α:Type} (kk:Ga6→α) (x:V3×List V3):α:=(sl (Nat.beq (len (w8 (fun k=>(tV).row (gL tV (x.1::x.2) k)) (List.range (List.length x.2+1)))) 0) (kk ⟨1,0,[]⟩) (sl (Nat.beq 0 0&&Nat.ble ((0+(len (w8 (fun k=>(tV).row (gL tV (x.1::x.2) k)) (List.range (List.length x.2+1)))))*24) room) (kk ⟨1,(0+(len (w8 (fun k=>(tV).row (gL tV (x.1::x.2) k)) (List.range (List.length x.2+1))))),(app [] (w8 (fun k=>(tV).row (gL tV (x.1::x.2) k)) (List.range (List.length x.2+1))))⟩) (kk ⟨0,0,[]⟩)))
noncomputable def ua1 (x:V3×List V3):Ga6:=ea3 (fun r=>r) x
noncomputable def Sa6 (r:Ga6):DT (b7×List b8):=(.ite (Nat.beq r.alt 1) (.ret ((.sl 0 0 r.ns0 0),[⟨36,3,r.eh0,true,false,0⟩])) .fail)
theorem zc0 {α β:Type} (F:α→β) (kk:Ga6→α) (x:V3×List V3):F (ea3 kk x)=ea3 (fun r=>F (kk r)) x:=by unfold ea3;(repeat' apply j5 (f:=F))<;>rfl
noncomputable def Ya4:Sum:=S5 (qd1 tV) (fun x=>Sa6 (ua1 x))
theorem ub3:g8 prog G 199 Ya4:=lb0 (bd Jf0 mc4) fun x=>q8 (Eq.trans (b:=ea3 (fun r=>(Sa6 r).run) x) (by kernel_rfl) (zc0 (fun r=>(Sa6 r).run) (fun r=>r) x).symm)
structure za1 where
 ns0:Nat
 eh0:List (List b7)
noncomputable def Ka8:List (Nat×Sum):=[]
theorem bc1:i4 prog G Ka8:=trivial
structure J3 where
 ns0:Nat
 os4:Nat
 ns4:Nat
structure s9 where
 is3:Int
 is5:Int
 eh0:List (List b7)
noncomputable def Tb9 (p:J3) (s:s9):St:=⟨((.sl 0 0 p.ns0 0)::(.unk::(.unk::((i s.is3)::((.sl 0 p.os4 p.ns4 0)::((i s.is5)::(ra 55 []))))))),[⟨36,3,s.eh0,true,false,0⟩]⟩
noncomputable def T5 {α:Type} (k:s9→α) (e:Nat→α) (z:α) (p:J3) (s:s9):α:=(sl (decide (s.is5 < (↑p.ns4:Int))) (sl (inB s.is5 p.ns4) (sl (ldR tV s.eh0 (p.os4+s.is5.toNat)) (sl (inB (W (s.is5 - 1)) p.ns4) (sl (ldR tV s.eh0 (p.os4+(W (s.is5 - 1)).toNat)) (sl (!(((rdR tV s.eh0 (p.os4+s.is5.toNat)).x==(rdR tV s.eh0 (p.os4+(W (s.is5 - 1)).toNat)).x)&&(((rdR tV s.eh0 (p.os4+s.is5.toNat)).y==(rdR tV s.eh0 (p.os4+(W (s.is5 - 1)).toNat)).y)&&(((rdR tV s.eh0 (p.os4+s.is5.toNat)).z==(rdR tV s.eh0 (p.os4+(W (s.is5 - 1)).toNat)).z)&&true)))) (sl (inB s.is5 p.ns4) (sl (ldR tV s.eh0 (p.os4+s.is5.toNat)) (sl (inB s.is3 p.ns0) (sl ((Nat.blt (0+s.is3.toNat) (len s.eh0))&&(Nat.ble (0+3) (len (j6 s.eh0 (0+s.is3.toNat))))) (k ⟨(W (s.is3+1)),(W (s.is5+1)),(setAt s.eh0 (0+s.is3.toNat) (S7 (j6 s.eh0 (0+s.is3.toNat)) 0 [(i (rdR tV s.eh0 (p.os4+s.is5.toNat)).x),(i (rdR tV s.eh0 (p.os4+s.is5.toNat)).y),(i (rdR tV s.eh0 (p.os4+s.is5.toNat)).z)]))⟩) z) z) z) z) (k ⟨s.is3,(W (s.is5+1)),s.eh0⟩)) z) z) z) z) (e 1))
noncomputable def y6 (p:J3) (s:s9):Stp s9:=T5 .next .exit .fail p s
noncomputable def Ga7:Lo J3 s9:=⟨En Ka8,1,De7,[1,1,0,1,4,4,1,0,4,1,2,1,0,1,4,4],[0,3,4,5],.p,[⟨((.s (.o (.sl 0 0 (some 0) none)))::((.s (.o .unk))::((.s (.o .unk))::((.s (.o (.int .i64)))::((.s (.o (.sl 0 0 none none)))::((.s (.o (.int .i64)))::(ru2 55 []))))))),[⟨36,3,true,none⟩],fun a H=>(⟨(slN (slT a 0)),(slO (slT a 4)),(slN (slT a 4))⟩,⟨(toI (slT a 3)),(toI (slT a 5)),(elT H 0)⟩)⟩],y6,[(some 2,fun p s=>⟨((.sl 0 0 p.ns0 0)::(.unk::(.unk::((i s.is3)::((.sl 0 p.os4 p.ns4 0)::((i s.is5)::(ra 23 ((i s.is5)::((.sl 0 p.os4 p.ns4 0)::((i (↑p.ns4:Int))::((b (decide (s.is5 < (↑p.ns4:Int))))::(ra 28 [])))))))))))),[⟨36,3,s.eh0,true,false,0⟩]⟩)],Tb9⟩
theorem Ub0:Ga7.Ok:=Lo.ok [] (by kernel_rfl) .nil rfl (.cons (fun a H=>by kernel_rfl) .nil) fun p s=>(.of @T5 (fun F _ _ _ _ _=>by unfold T5;(repeat' apply j5 (f:=F))<;>rfl) (by kernel_rfl))
structure Z9 where
 ns0:Nat
 eh0:List (List b7)
structure A0 where
 is3:Int
noncomputable def Ub1 (p:Z9) (s:A0):St:=⟨((.sl 0 0 p.ns0 0)::(.unk::(.unk::((i s.is3)::(ra 57 []))))),[⟨36,3,p.eh0,true,false,0⟩]⟩
noncomputable def T6 {α:Type} (k:A0→α) (e:Nat→α) (z:α) (p:Z9) (s:A0):α:=let t1:=(lp (y6 (⟨p.ns0,(0+s.is3.toNat),(p.ns0 - s.is3.toNat)⟩:J3)) (⟨s.is3,1,p.eh0⟩:s9));(sl (decide (s.is3 < (↑p.ns0:Int))) (sl (inB s.is3 p.ns0) (sl (ldR tV p.eh0 (0+s.is3.toNat)) (sl (inB (W (s.is3 - 1)) p.ns0) (sl (ldR tV p.eh0 (0+(W (s.is3 - 1)).toNat)) (sl (((rdR tV p.eh0 (0+s.is3.toNat)).x==(rdR tV p.eh0 (0+(W (s.is3 - 1)).toNat)).x)&&(((rdR tV p.eh0 (0+s.is3.toNat)).y==(rdR tV p.eh0 (0+(W (s.is3 - 1)).toNat)).y)&&(((rdR tV p.eh0 (0+s.is3.toNat)).z==(rdR tV p.eh0 (0+(W (s.is3 - 1)).toNat)).z)&&true))) (sl (inB s.is3 (p.ns0+1)) (sl (Nat.beq t1.1 1) (sl (inB t1.2.is3 (p.ns0+1)) (sl (inB t1.2.is3 (p.ns0+1)) (e 1) z) z) z) z) (k ⟨(W (s.is3+1))⟩)) z) z) z) z) (e 2))
noncomputable def W6 (p:Z9) (s:A0):Stp A0:=T6 .next .exit .fail p s
noncomputable def Ga8:Lo Z9 A0:=⟨En Ka8,1,De7,[1,1,0,1,4,4],[0,3],(.s .p (.s (.b (.s .p (.c (.s .p (.s (.s .p (.b (.u Ga7.ls))) .p)) .p))) .p)),[⟨((.s (.o (.sl 0 0 (some 0) none)))::((.s (.o .unk))::((.s (.o .unk))::((.s (.o (.int .i64)))::(ru2 57 []))))),[⟨36,3,true,none⟩],fun a H=>(⟨(slN (slT a 0)),(elT H 0)⟩,⟨(toI (slT a 3))⟩)⟩],W6,[(none,fun p s=>let t1:=(lp (y6 (⟨p.ns0,(0+s.is3.toNat),(p.ns0 - s.is3.toNat)⟩:J3)) (⟨s.is3,1,p.eh0⟩:s9));⟨[(.sl 0 0 (t1.2.is3.toNat - 0) 0)],[⟨36,3,(app (J7 t1.2.eh0 (0+t1.2.is3.toNat)) (app (List.replicate (p.ns0 - t1.2.is3.toNat) [(i 0),(i 0),(i 0)]) (g9 t1.2.eh0 ((0+t1.2.is3.toNat)+(p.ns0 - t1.2.is3.toNat))))),true,false,0⟩]⟩),(some 0,fun p s=>⟨((.sl 0 0 p.ns0 0)::(.unk::(.unk::((i s.is3)::(ra 6 ((i s.is3)::((.sl 0 0 p.ns0 0)::((i (↑p.ns0:Int))::((b (decide (s.is3 < (↑p.ns0:Int))))::(ra 47 [])))))))))),[⟨36,3,p.eh0,true,false,0⟩]⟩)],Ub1⟩
theorem Ub2:Ga8.Ok:=Lo.ok [Ga7.pr] (by kernel_rfl) (.cons Ub0 .nil) rfl (.cons (fun a H=>by kernel_rfl) .nil) fun p s=>(.of @T6 (fun F _ _ _ _ _=>by unfold T6;(repeat' apply j5 (f:=F))<;>rfl) (by kernel_rfl))
structure za2 where
 alt:Nat
 ns0:Nat
 eh0:List (List b7)
noncomputable def W7 {α:Type} (kk:za2→α) (x:za1):α:=let t1:=(lp (W6 (⟨x.ns0,x.eh0⟩:Z9)) (⟨1⟩:A0));let t2:=(lp (y6 (⟨x.ns0,(0+t1.2.is3.toNat),(x.ns0 - t1.2.is3.toNat)⟩:J3)) (⟨t1.2.is3,1,x.eh0⟩:s9));(sl (decide ((↑x.ns0:Int) < 2)) (kk ⟨1,x.ns0,x.eh0⟩) (sl (Nat.beq t1.1 1) (kk ⟨1,(t2.2.is3.toNat - 0),(app (J7 t2.2.eh0 (0+t2.2.is3.toNat)) (app (List.replicate (x.ns0 - t2.2.is3.toNat) [(i 0),(i 0),(i 0)]) (g9 t2.2.eh0 ((0+t2.2.is3.toNat)+(x.ns0 - t2.2.is3.toNat)))))⟩) (sl (Nat.beq t1.1 2) (kk ⟨1,x.ns0,x.eh0⟩) (kk ⟨0,0,[]⟩))))
noncomputable def W8 (x:za1):za2:=W7 (fun r=>r) x
noncomputable def Ka9 (x:za1) (r:za2):DT (b7×List b8):=(.ite (Nat.beq r.alt 1) (.ret ((.sl 0 0 r.ns0 0),[⟨36,3,r.eh0,true,false,0⟩])) .fail)
theorem mc5 {α β:Type} (F:α→β) (kk:za2→α) (x:za1):F (W7 kk x)=W7 (fun r=>F (kk r)) x:=by unfold W7;(repeat' apply j5 (f:=F))<;>rfl
noncomputable def Pa0:Sum:=za8 ⟨[(.s (.o (.sl 0 0 (some 0) none)))],[⟨36,3,true,none⟩],fun a H=>(⟨(slN (slT a 0)),(elT H 0)⟩,())⟩ (fun x=>Ka9 x (W8 x))
theorem gb5:g8 prog G 202 Pa0:=w7 (enc:=fun x=>⟨[(.sl 0 0 x.ns0 0)],[⟨36,3,x.eh0,true,false,0⟩]⟩) (fun a H=>by kernel_rfl) (bd Jf2 bc1) fun x=>Ma1 (.s .p (.s .p (.s (.s .p (.b (.u Ga8.ls))) .p))) [Ga8.pr] (by kernel_rfl) (.cons Ub2 .nil) (Eq.trans (b:=W7 (fun r=>(Ka9 x r).run) x) (by kernel_rfl) (mc5 (fun r=>(Ka9 x r).run) (fun r=>r) x).symm)
noncomputable def Pc6:List (Nat×Sum):=[(199,Ya4),(200,Ka7),(202,Pa0)]
theorem Ic5:i4 prog G Pc6:=⟨ub3,fb5,gb5,trivial⟩
noncomputable def Ia6 (x:V3×List V3):Option (b7×List b8):=let t1:=(ua1 (hC tV (fun k=>(tV).row (gL tV (x.1::x.2) k)),tC tV (List.length x.2) (fun k=>(tV).row (gL tV (x.1::x.2) k))));let t2:=(W8 ⟨t1.ns0,(app (bL tV (dc0 (slR tV t1.eh0 0 t1.ns0))) (g9 t1.eh0 t1.ns0))⟩);(sl (okL tV (List.length x.2+1) (fun k=>(tV).row (gL tV (x.1::x.2) k))) (sl (Nat.beq t1.alt 1) (sl (Bool.and (Nat.ble t1.ns0 room) (Bool.and (Nat.ble t1.ns0 (len t1.eh0)) (okS tV t1.eh0 0 t1.ns0))) (sl (Nat.beq t2.alt 1) (some ((.sl 0 0 t2.ns0 0),[⟨36,3,t2.eh0,true,false,0⟩])) none) none) none) none)
noncomputable def tb2 (x:V3×List V3):List V3:=aa3 (one (r1L tV)) (Ia6 x)
noncomputable def tb3 (x:V3×List V3):Bool:=okO (one (r1L tV)) (Ia6 x)
noncomputable def dc1:Sum:=S5 (qd1 tV) (fun x=>.guard (tb3 x) (.ret ((one (r1L tV)).enc (tb2 x),[])))
theorem Pc7:g8 prog G 136 dc1:=Pa9 (bd yf3 Ic5) (one (r1L tV)) (o:=Ia6) fun x=>q8 (by kernel_rfl)
end Go.Ev.Ce
end
namespace Go.Ev.Ce
open Go Go.Ev Go.Ev.L Go.Proofs Go.Sort
def eqV (x y:V3):Bool:=x.x==y.x&&(x.y==y.y&&(x.z==y.z&&true))
theorem Ld0 (x y:V3):eqV x y=true↔x=y:=by
 unfold eqV
 simp only[Bool.and_true,Bool.and_eq_true,beq_iff_eq]
 refine⟨fun⟨h1,h2,h3⟩=>V3.ext' h1 h2 h3,fun h=>by subst h;exact⟨rfl,rfl,rfl⟩⟩
theorem Ld1 {l:List V3} {j:Nat} (h:j < l.length):ldR tV (bL tV l) (0+j)=true:=by rw[Nat.zero_add];exact Kc8 tV h
theorem od2 {l:List V3} {j:Nat} (h:j < l.length):rdR tV (bL tV l) (0+j)=gL tV l j:=by rw[Nat.zero_add];exact Kc7 tV h
theorem Xd6 (l:List V3) (n:Nat):J7 (bL tV l) n=bL tV (l.take n):=by unfold bL;rw[L6,o0,o0,List.map_take]
theorem od3 (l:List V3) (n:Nat):g9 (bL tV l) n=bL tV (l.drop n):=by unfold bL;rw[L7,o0,o0,List.map_drop]
theorem Xd7 (n:Nat):List.replicate n [i 0,i 0,i 0]=bL tV (List.replicate n ⟨0,0,0⟩):=by unfold bL;rw[o0,List.map_replicate];rfl
def dvF:V3→List V3→List V3
 | _,[]=>[]
 | a,x::l=>if eqV x a then dvF x l else x::dvF x l
def ddV:List V3→List V3
 | []=>[]
 | x::l=>x::dvF x l
structure Le2 (l:List V3) (n:Nat) (cur:List V3) (m j:Nat) (R:List V3):Prop where
 len:cur.length=l.length
 t:cur.take m++dvF (gL tV l (j - 1)) ((l.take n).drop j)=R
 d:cur.drop (j - 1)=l.drop (j - 1)
 le:m+1≤j
theorem vd7 (l : List V3) (n o : Nat) (hn : n ≤ l.length) (hl : l.length ≤ 1000000000) (ho : o < n) (m : Nat) (cur : List V3) (R : List V3) (hd : Le2 l n cur m (o + 1) R) :
  ∃ t s,lp (y6 ⟨n,0+o,n - o⟩) ⟨(m:Int),((1:Nat):Int),bL tV cur⟩=(t,s)∧(t=1∧∃ m' cur' k,s=⟨((m':Nat):Int),k,bL tV cur'⟩∧cur'.length=l.length∧cur'.take m'=R∧m'≤n):=by
 refine ya6 (step:=y6 ⟨n,0+o,n - o⟩) (mk:=fun j (x:Nat×List V3)=>(⟨(x.1:Int),(j:Int),bL tV x.2⟩:s9)) (n - o) (fun j x=>Le2 l n x.2 x.1 (o+j) R∧1≤j∧x.1≤n) (fun t s=>t=1∧∃ m' cur' k,s=⟨((m':Nat):Int),k,bL tV cur'⟩∧cur'.length=l.length∧cur'.take m'=R∧m'≤n) (by omega) (fun j x hj hx=>?_) (fun j x hj hx=>?_) 1 (m,cur) ⟨hd,Nat.le_refl _,by have:=hd.le;show m≤n;omega⟩
 ·obtain⟨m,cur⟩:=x
  obtain⟨⟨h1,h2,h3,h4⟩,hj1,hmn⟩:=hx
  simp only at h1 h2 h3 h4 hmn
  have hoj:o+j < n:=by omega
  have hjc:o+j < cur.length:=by omega
  have hjc':o+(j - 1) < cur.length:=by omega
  have hmc:m < cur.length:=by omega
  have hg':gL tV cur (o+(j - 1))=gL tV l (o+j - 1):=by rw[show o+(j - 1)=o+j - 1 by omega];exact yb9 tV h3
  have hd1:cur.drop (o+j)=l.drop (o+j):=by have:=wb3 h3 1;rw[show o+j - 1+1=o+j by omega] at this;exact this
  have hg:gL tV cur (o+j)=gL tV l (o+j):=yb9 tV hd1
  have hWm:W ((m:Int)+1)=((m+1:Nat):Int):=by rw[na5 (by omega) (by omega)];omega
  have hWj:W ((j:Int) - 1)=((j - 1:Nat):Int):=by rw[na5 (by omega) (by omega)];omega
  have hb:Nat.blt m cur.length=true:=by rw[Nat.blt_eq];exact hmc
  have hrow:j6 (bL tV cur) m=tV.row (gL tV cur m):=Q3 tV hmc
  have sp:∀ (v:V3) (x1 x2 x3:Int),S7 (tV.row v) 0 [i x1,i x2,i x3]=tV.row ⟨x1,x2,x3⟩:=fun _ _ _ _=>rfl
  have rl:∀ v:V3,Nat.ble 3 (len (tV.row v))=true:=fun _=>rfl
  simp only[y6,T5,Int.toNat_natCast,Nat.zero_add,hWj,Kc8 tV hjc,Kc8 tV hjc',Kc7 tV hjc,Kc7 tV hjc',q7 hj (show n - o≤4611686018427387904 by omega),hWm,hg,hg',hrow,na4,hb,sp,rl,Ta3,f8 (show m < n by omega)]
  rw[btD (m0 hj)]
  simp only[f8 hj,f8 (show j - 1 < n - o by omega),w6,Bool.and_self]
  rw[show ((gL tV l (o+j)).x==(gL tV l (o+j - 1)).x&&((gL tV l (o+j)).y==(gL tV l (o+j - 1)).y&&((gL tV l (o+j)).z==(gL tV l (o+j - 1)).z&&true)))=eqV (gL tV l (o+j)) (gL tV l (o+j - 1)) from rfl]
  have hcons:(l.take n).drop (o+j)=gL tV l (o+j)::(l.take n).drop (o+(j+1)):=by
   rw[List.drop_eq_getElem_cons (by rw[List.length_take];omega),List.getElem_take,gb0 tV (by omega)]
   rfl
  rw[hcons] at h2
  have hlast:o+(j+1) - 1=o+j:=by omega
  unfold dvF at h2
  cases he:eqV (gL tV l (o+j)) (gL tV l (o+j - 1)) with
  | true =>
   rw[he] at h2
   simp only[if_true] at h2
   refine .nx ⟨(m,cur),rfl,⟨⟨h1,?_,?_,by show m+1≤o+(j+1);omega⟩,by omega,hmn⟩⟩
   ·rw[hlast];exact h2
   ·rw[hlast];exact hd1
  | false =>
   rw[he] at h2
   simp only[Bool.false_eq_true,if_false] at h2
   refine .nx ⟨(m+1,cur.set m (gL tV l (o+j))),rfl,⟨⟨by rw[List.length_set];exact h1,?_,?_,by show m+1+1≤o+(j+1);omega⟩,by omega,by show m+1≤n;omega⟩⟩
   ·rw[hlast]
    show (cur.set m (gL tV l (o+j))).take (m+1)++_=R
    rw[List.take_succ_eq_append_getElem (by rw[List.length_set];exact hmc),List.getElem_set_self,List.take_set_of_le (Nat.le_refl _),List.append_assoc]
    exact h2
   ·rw[hlast]
    show (cur.set m (gL tV l (o+j))).drop (o+j)=_
    rw[List.drop_set_of_lt (by omega),hd1]
 ·obtain⟨m,cur⟩:=x
  obtain⟨⟨h1,h2,h3,h4⟩,hj1,hmn⟩:=hx
  simp only at h1 h2 h3 h4 hmn
  refine⟨1,?_,rfl,m,cur,_,rfl,h1,?_,hmn⟩
  ·simp only[y6,T5]
   rw[bfD (by omega)]
  ·rw[List.drop_eq_nil_of_le (by rw[List.length_take];omega)] at h2
   unfold dvF at h2
   rw[List.append_nil] at h2
   exact h2
theorem Xd8 (l : List V3) (n : Nat) (hn : n ≤ l.length) (hl : l.length ≤ 1000000000) :
  ∃ m r,W8 ⟨n,bL tV l⟩=⟨1,m,bL tV r⟩∧m≤r.length∧r.take m=ddV (l.take n)∧r.length=l.length:=by
 unfold W8 W7
 simp only
 by_cases h2:(n:Int) < 2
 ·rw[btD h2]
  refine⟨n,l,rfl,hn,?_,rfl⟩
  have:n=0∨n=1:=by omega
  rcases this with rfl | rfl
  ·rfl
  ·cases l with
   | nil=>rfl
   | cons x l=>rfl
 ·rw[bfD h2]
  have h1n:1≤n:=by omega
  have hI : ∀ j, j < n → 1 ≤ j → l.take j ++ dvF (gL tV l (j - 1)) ((l.take n).drop j) = ddV (l.take n) →
    (eqV (gL tV l j) (gL tV l (j - 1))=true→Le2 l n l j (j+1) (ddV (l.take n)))∧(eqV (gL tV l j) (gL tV l (j - 1))=false→l.take (j+1)++dvF (gL tV l (j+1 - 1)) ((l.take n).drop (j+1))=ddV (l.take n)):=by
   intro j hj hj1 hR
   have hcons:(l.take n).drop j=gL tV l j::(l.take n).drop (j+1):=by
    rw[List.drop_eq_getElem_cons (by rw[List.length_take];omega),List.getElem_take,gb0 tV (by omega)]
   rw[hcons] at hR
   unfold dvF at hR
   constructor
   ·intro he
    rw[he] at hR
    simp only[if_true] at hR
    exact⟨rfl,hR,rfl,Nat.le_refl _⟩
   ·intro he
    rw[he] at hR
    simp only[Bool.false_eq_true,if_false] at hR
    rw[Zb7 tV (show j < l.length by omega),List.append_assoc]
    exact hR
  have inner:∀ k,k < n→1≤k→Le2 l n l k (k+1) (ddV (l.take n))→∃ m' cur' k',lp (y6 ⟨n,0+k,n - k⟩) ⟨(k:Int),1,bL tV l⟩=(1,⟨((m':Nat):Int),k',bL tV cur'⟩)∧cur'.length=l.length∧cur'.take m'=ddV (l.take n)∧m'≤n:=by
   intro k hk hk1 hc
   obtain⟨t,s,e1,rfl,m',cur',k',rfl,e2,e3,e4⟩:=vd7 l n k hn hl hk k l _ hc
   exact⟨m',cur',k',e1,e2,e3,e4⟩
  have key:=ya6 (step:=W6 ⟨n,bL tV l⟩) (mk:=fun j (_:Unit)=>(⟨(j:Int)⟩:A0)) n (fun j _=>1≤j∧j≤n∧l.take j++dvF (gL tV l (j - 1)) ((l.take n).drop j)=ddV (l.take n))
   (fun t s=>(t=1∧∃ k:Nat,s=⟨(k:Int)⟩∧k < n∧1≤k∧Le2 l n l k (k+1) (ddV (l.take n)))∨(t=2∧l.take n=ddV (l.take n))) (by omega) (fun j x hj hx=>?_) (fun j x hj hx=>?_) 1 () ⟨Nat.le_refl _,h1n,by
    cases l with
    | nil=>simp only[List.length_nil] at hn;omega
    | cons x l =>
     cases n with
     | zero=>omega
     | succ n=>rfl⟩
  ·obtain⟨t,s,e1,e2⟩:=key
   rw[show (⟨1⟩:A0)=⟨((1:Nat):Int)⟩ from rfl,e1]
   rcases e2 with⟨rfl,k,rfl,hk,hk1,hc⟩ | ⟨rfl,he⟩
   ·obtain⟨m',cur',k',e2,e3,e4,e5⟩:=inner k hk hk1 hc
    simp only[Int.toNat_natCast,e2]
    simp only[Nat.zero_add,Nat.sub_zero]
    refine⟨m',cur'.take m'++(List.replicate (n - m') ⟨0,0,0⟩++cur'.drop (m'+(n - m'))),?_,?_,?_,?_⟩
    ·rw[Xd6,Xd7,od3,Ma0,Ma0]
     rfl
    ·rw[List.length_append,List.length_take,e3];omega
    ·rw[List.take_append_of_le_length (by rw[List.length_take,e3];omega),List.take_take,Nat.min_self,e4]
    ·rw[List.length_append,List.length_append,List.length_take,List.length_replicate,List.length_drop,e3];omega
   ·exact⟨n,l,rfl,hn,he,rfl⟩
  ·obtain⟨hj1,hjn,hR⟩:=hx
   obtain⟨i1,i2⟩:=hI j hj hj1 hR
   have hWj:W ((j:Int) - 1)=((j - 1:Nat):Int):=by rw[na5 (by omega) (by omega)];omega
   have hjl:j < l.length:=by omega
   have hjl':j - 1 < l.length:=by omega
   simp only[W6,T6,Int.toNat_natCast,hWj,Ld1 hjl,Ld1 hjl',od2 hjl,od2 hjl',q7 hj (show n≤4611686018427387904 by omega)]
   rw[btD (m0 hj),bt (f8 hj),bt (f8 (show j - 1 < n by omega)),bt (f8 (show j < n+1 by omega))]
   simp only[w6]
   rw[show ((gL tV l j).x==(gL tV l (j - 1)).x&&((gL tV l j).y==(gL tV l (j - 1)).y&&((gL tV l j).z==(gL tV l (j - 1)).z&&true)))=eqV (gL tV l j) (gL tV l (j - 1)) from rfl]
   cases he:eqV (gL tV l j) (gL tV l (j - 1)) with
   | false=>exact .nx ⟨(),rfl,by omega,by omega,i2 he⟩
   | true =>
    obtain⟨m',cur',k',e2,e3,e4,e5⟩:=inner j hj hj1 (i1 he)
    rw[e2]
    simp only[f8 (show m' < n+1 by omega)]
    exact .ex (.inl ⟨rfl,j,rfl,hj,hj1,i1 he⟩)
  ·obtain⟨hj1,hjn,hR⟩:=hx
   refine⟨2,?_,.inr ⟨rfl,?_⟩⟩
   ·simp only[W6,T6]
    rw[bfD (by omega)]
   ·have:j=n:=by omega
    subst this
    rw[List.drop_eq_nil_of_le (by rw[List.length_take];omega)] at hR
    unfold dvF at hR
    rw[List.append_nil] at hR
    exact hR
def Le3 (l:List V3):Prop:=l.Pairwise LtV
theorem Bd5 {x y z:V3} (h1:LtV x y) (h2:LtV y z):LtV x z:=by unfold LtV at *;omega
theorem ne7 (x:V3):¬ LtV x x:=by unfold LtV;omega
theorem Ze2 (x y:V3):LtV x y∨x=y∨LtV y x:=by
 by_cases h1:LtV x y
 ·exact .inl h1
 ·by_cases h2:LtV y x
  ·exact .inr (.inr h2)
  ·refine .inr (.inl ?_)
   unfold LtV at h1 h2
   exact V3.ext' (by omega) (by omega) (by omega)
theorem fe8 (l:List V3):List.Perm (dc0 l) l:=List.mergeSort_perm l _
theorem ve4 (x y z:V3) (h1:(!ltOf Qb6 y x)=true) (h2:(!ltOf Qb6 z y)=true):(!ltOf Qb6 z x)=true:=by
 rw[Za9] at *
 simp only[Bool.not_eq_true',decide_eq_false_iff_not] at *
 unfold LtV at *
 omega
theorem ve5 (x y:V3):((!ltOf Qb6 y x)||(!ltOf Qb6 x y))=true:=by
 rw[Za9,Za9]
 by_cases h:LtV y x
 ·have h2:¬ LtV x y:=fun h2=>ne7 x (Bd5 h2 h)
  simp[h2]
 ·simp[h]
theorem Ld2 (l:List V3):(dc0 l).Pairwise fun x y=>(!ltOf Qb6 y x)=true:=List.pairwise_mergeSort ve4 ve5 l
theorem ne8 (p:V3):∀ (a:V3) (l:List V3),p∈a::dvF a l↔p∈a::l
 | a,[]=>by simp[dvF]
 | a,x::l=>by
  have ih:=ne8 p x l
  unfold dvF
  split
  ·rename_i h
   rw[Ld0] at h
   subst h
   rw[ih]
   simp
  ·simp only[List.mem_cons] at ih ⊢
   rw[ih]
theorem pf1 (p:V3):∀ l:List V3,p∈ddV l↔p∈l
 | []=>Iff.rfl
 | x::l=>ne8 p x l
theorem ne9:∀ (a:V3) (l:List V3),(a::l).Pairwise (fun x y=>(!ltOf Qb6 y x)=true)→Le3 (a::dvF a l)
 | a,[],_=>List.pairwise_singleton _ _
 | a,x::l,h=>by
  obtain⟨h1,h2⟩:=List.pairwise_cons.1 h
  have ih:=ne9 x l h2
  have hle:=h1 x List.mem_cons_self
  rw[Za9] at hle
  have hle:¬ LtV x a:=by simpa using hle
  unfold dvF
  split
  ·rename_i he
   rw[Ld0] at he
   subst he
   exact ih
  ·rename_i hne
   have hlt:LtV a x:=by
    rcases Ze2 a x with h | h | h
    ·exact h
    ·exact absurd ((Ld0 _ _).2 h.symm) hne
    ·exact absurd h hle
   refine List.pairwise_cons.2 ⟨fun p hp=>?_,ih⟩
   rcases List.mem_cons.1 hp with e | hp'
   ·subst e;exact hlt
   ·exact Bd5 hlt ((List.pairwise_cons.1 ih).1 p hp')
theorem pf2 (l:List V3):Le3 (ddV (dc0 l)):=by
 have h:=Ld2 l
 cases hs:dc0 l with
 | nil=>exact .nil
 | cons a l'=>rw[hs] at h;exact ne9 a l' h
noncomputable def dis (l:List V3):List V3:=ddV (dc0 l)
theorem qc9 (l:List V3) (v:V3):v∈dis l↔v∈l:=by unfold dis;rw[pf1,(fe8 l).mem_iff]
theorem Bd6 (l:List V3):(dis l).Nodup:=List.Pairwise.imp (fun {x y} (h:LtV x y) (e:x=y)=>ne7 y (e ▸ h)) (pf2 l)
theorem oe0 (l:List V3):(dis l).length≤l.length:=by
 have:=List.Nodup.length_le_of_subset (Bd6 l) (fun v hv=>(qc9 l v).1 hv)
 exact this
theorem Bd7 (l:List V3) (n:Nat) (hn:n≤l.length):slR tV (bL tV l) 0 n=l.take n:=Kc6 tV (by rw[List.length_take];omega) fun k hk=>by
 rw[Nat.zero_add,Q3 tV (by omega)]
 congr 1
 simp[gL,List.getD_eq_getElem?_getD,List.getElem?_take,hk]
theorem Pc8 (l:List V3) (n:Nat) (hn:n≤l.length):okS tV (bL tV l) 0 n=true:=hb9 tV (f:=fun k=>gL tV l k) fun k hk=>by rw[Nat.zero_add,Q3 tV (by omega)]
theorem Bd8 (a:V3) (l:List V3) (hl:l.length≤1000000):ua1 (a,l)=⟨1,(a::l).length,bL tV (a::l)⟩:=by
 have ec:w8 (fun k=>tV.row (gL tV (a::l) k)) (List.range (l.length+1))=bL tV (a::l):=fd6 tV (a::l)
 unfold ua1 ea3
 simp only[ec,na4]
 have z:Nat.beq (a::l).length 0=false:=rfl
 have r:Nat.ble ((0+(a::l).length)*24) room=true:=by rw[Nat.ble_eq];unfold room;simp only[List.length_cons];omega
 rw[z,r,Nat.zero_add]
 rfl
theorem Ic6 (a:V3) (l:List V3) (hl:l.length≤1000000):∃ m r,W8 ⟨(a::l).length,app (bL tV (dc0 (slR tV (bL tV (a::l)) 0 (a::l).length))) (g9 (bL tV (a::l)) (a::l).length)⟩=⟨1,m,bL tV r⟩∧m≤r.length∧r.take m=dis (a::l)∧r.length=l.length+1:=by
 have hs:(dc0 (a::l)).length=(a::l).length:=Bd4 _
 rw[ic2,od3,Ma0]
 obtain⟨m,r,k1,k2,k3,k4⟩:=Xd8 (dc0 (a::l)++(a::l).drop (a::l).length) (a::l).length (by rw[List.length_append,hs];omega) (by rw[List.length_append,hs,List.length_drop];simp only[List.length_cons];omega)
 refine⟨m,r,k1,k2,?_,by rw[k4,List.length_append,hs,List.length_drop];simp only[List.length_cons];omega⟩
 rw[k3,List.take_append_of_le_length (by rw[hs];omega),List.take_of_length_le (by rw[hs];omega)]
 rfl
theorem Xd9 (l:List V3) (hl:l.length≤2000000) (r:List V3):(Bool.and (Nat.ble l.length room) (Bool.and (Nat.ble l.length (len (bL tV (l++r)))) (okS tV (bL tV (l++r)) 0 l.length)))=true:=by
 rw[Pc8 _ _ (by rw[List.length_append];omega),na4,Bool.and_eq_true,Bool.and_eq_true,Nat.ble_eq,Nat.ble_eq]
 refine⟨by unfold room;omega,by rw[List.length_append];omega,rfl⟩
theorem Uc1 (a:V3) (l:List V3) (hl:l.length≤1000000):Rd (one (r1L tV)) (Ia6 (a,l)) (fun r=>r=dis (a::l)):=by
 obtain⟨m,r,k1,k2,k3,_⟩:=Ic6 a l hl
 have hok:okL tV (l.length+1) (fun k=>tV.row (gL tV (a::l) k))=true:=hb9 tV (f:=fun k=>gL tV (a::l) k) fun _ _=>rfl
 have hr:=Xd9 (a::l) (by simp only[List.length_cons];omega) []
 rw[List.append_nil] at hr
 unfold Ia6
 simp only[yd5,yd6,Bd8 a l hl,hok,k1,w6,Nat.beq_refl,hr]
 refine⟨_,r.take m,rfl,?_,k3⟩
 show Bool.rec (motive:=fun _=>Option (List V3)) none (some (slR tV (bL tV r) 0 m)) (Bool.and true (okS tV (bL tV r) 0 m))=_
 rw[Bd7 r m k2,Pc8 r m k2]
 rfl
theorem fe9 (a:V3) (l:List V3) (hl:l.length≤1000000):tb2 (a,l)=dis (a::l):=(Uc1 a l hl).p
theorem ge0 (a:V3) (l:List V3) (hl:l.length≤1000000):tb3 (a,l)=true:=(Uc1 a l hl).g
end Go.Ev.Ce
namespace Go.Ev.Ce
open Go Go.Ev Go.Ev.L Go.Proofs
theorem Yd0 (p:Pln) (v:V3):eb8 p v=some (i (wa1 p v),[]):=by
 unfold eb8 wa1
 simp only[ke8,ke9,(lc4 v).1,(lc4 v).2,me3,me4,w6]
 cases hp:okp p with
 | false=>rfl
 | true =>
  cases hv:inV v with
  | false=>rfl
  | true =>
   have hb:=Yb3 hp
   have hd:=Je7 hb hv
   have e:G5 p.n v=dot p.n v:=by
    unfold G5
    simp only[Nb3,ic4]
    exact jb0 (hd.mono (by omega))
   rw[e]
   simp only[Bool.not_true,Ab0,Bool.and_self,if_true,Pb5]
   by_cases h1:dot p.n v < p.b
   ·rw[if_pos h1,if_pos (by omega)]
   ·rw[if_neg h1]
    by_cases h2:dot p.n v > p.b
    ·rw[if_pos h2,if_neg (by omega),if_pos (by omega)]
    ·rw[if_neg h2,if_neg (by omega),if_neg (by omega)]
theorem bd1 (p:Pln) (v:V3):Ga4 p v=wa1 p v:=by unfold Ga4;rw[Yd0];rfl
theorem bd2 (p:Pln) (v:V3):Ga5 p v=true:=by unfold Ga5;rw[Yd0];rfl
theorem Ze3 {v:V3} (h1:Sm 1000000000000000000 v.x) (h2:Sm 1000000000000000000 v.y) (h3:Sm 1000000000000000000 v.z):la4 [v.x,v.y,v.z]=g3 v∧la5 [v.x,v.y,v.z]=true:=by
 have hd:=jd1 [v.x,v.y,v.z] (by simp) (by
  intro x hx
  simp only[List.mem_cons,List.not_mem_nil,or_false] at hx
  rcases hx with rfl | rfl | rfl<;>assumption)
 have hg:([v.x,v.y,v.z].foldl (fun g x=>Nat.gcd g x.natAbs) 0:Nat)=Nat.gcd (Nat.gcd v.x.natAbs v.y.natAbs) v.z.natAbs:=by
  simp only[List.foldl_cons,List.foldl_nil,Nat.gcd_zero_left]
 exact⟨by unfold la4;rw[hd,hg];rfl,by unfold la5;rw[hd];rfl⟩
theorem Le4 {v : V3} (h1 : Sm 1000000000000000000 v.x) (h2 : Sm 1000000000000000000 v.y) (h3 : Sm 1000000000000000000 v.z) :
  eb7 v=if g3 v=0 then some (.tup [.agg (tV.row ⟨0,0,0⟩),i 0],[]) else some (.tup [.agg (tV.row ⟨W (Int.tdiv v.x (g3 v)),W (Int.tdiv v.y (g3 v)),W (Int.tdiv v.z (g3 v))⟩),i (g3 v)],[]):=by
 obtain⟨e1,e2⟩:=Ze3 h1 h2 h3
 unfold eb7
 simp only[e1,e2,w6]
 by_cases h:g3 v=0
 ·rw[if_pos h,bt (by simpa using h)];rfl
 ·rw[if_neg h,bf (by simpa using h),bf (by simpa using h),bf (by simpa using h),bf (by simpa using h)];rfl
theorem Uc2 (a c d:V3):Ia2 a c d=some (.tup [.agg (tP.row (J8 a c d).1),b (J8 a c d).2],[]):=by
 unfold Ia2 J8
 simp only[(lc4 _).1,(lc4 _).2]
 cases ha:inV a with
 | false=>rfl
 | true =>
  cases hc:inV c with
  | false=>rfl
  | true =>
   cases hd:inV d with
   | false=>rfl
   | true =>
    obtain⟨e,k1,k2,k3⟩:=Pb0 ha hc hd
    have e':D4 (Oa3 c a) (Oa3 d a)=c9 (sub c a) (sub d a):=e
    rw[e']
    generalize c9 (sub c a) (sub d a)=n at *
    have m1:=k1.mono (m:=1000000000000000000) (by omega)
    have m2:=k2.mono (m:=1000000000000000000) (by omega)
    have m3:=k3.mono (m:=1000000000000000000) (by omega)
    have hpr:=Le4 m1 m2 m3
    have gp:wb7 n=true:=by unfold wb7;rw[hpr];split<;>rfl
    by_cases h0:g3 n=0
    ·have pp:Qa6 n=(⟨0,0,0⟩,0):=by unfold Qa6;rw[hpr,if_pos h0];rfl
     have hz:G5 ⟨0,0,0⟩ a=0:=by unfold G5;simp only[Int.zero_mul];rfl
     simp only[gp,pp,hz,Bool.and_self,if_true,h0]
     rfl
    ·have hp:=qc4 n
     have q1:=S3 (g:=g3 n) k1 (by omega)
     have q2:=S3 (g:=g3 n) k2 (by omega)
     have q3:=S3 (g:=g3 n) k3 (by omega)
     rw[jb0 (q1.mono (by omega)),jb0 (q2.mono (by omega)),jb0 (q3.mono (by omega))] at hpr
     have pp:Qa6 n=(⟨Int.tdiv n.x (g3 n),Int.tdiv n.y (g3 n),Int.tdiv n.z (g3 n)⟩,g3 n):=by unfold Qa6;rw[hpr,if_neg h0];rfl
     have hdot:G5 ⟨Int.tdiv n.x (g3 n),Int.tdiv n.y (g3 n),Int.tdiv n.z (g3 n)⟩ a=dot ⟨Int.tdiv n.x (g3 n),Int.tdiv n.y (g3 n),Int.tdiv n.z (g3 n)⟩ a:=by
      unfold G5
      simp only[Nb3,ic4]
      obtain⟨⟨a1,a2⟩,⟨a3,a4⟩,a5,a6⟩:=(lb6 a).1 ha
      have r1:=mb q1.1 q1.2 a1 a2;have r2:=mb q2.1 q2.2 a3 a4;have r3:=mb q3.1 q3.2 a5 a6
      rw[na5 (by omega) (by omega)]
      rfl
     simp only[gp,pp,hdot,Bool.and_self,if_true,h0,if_false,show g3 n > 0 from by omega,decide_true]
     rfl
theorem bc2 (a b c:V3):P7 a b c=J8 a b c:=by unfold P7;rw[Uc2];rfl
theorem zc1 (a b c:V3):xa3 a b c=true:=by unfold xa3;rw[Uc2];rfl
end Go.Ev.Ce
namespace Go.Ev.Ce
open Go Go.Ev Go.Ev.L Go.Proofs
theorem Le5 (v:V3) (p:Pln):mb1 ⟨v.x,v.y,v.z,p.n.x,p.n.y,p.n.z,p.b⟩=⟨1,wa1 p v != 0⟩:=by
 unfold mb1 Ja7
 simp only[bd1,bd2,w6]
theorem Ze4 (l:List V3) (p:Pln) (hl:l.length≤1000000000):ja5 ⟨l,p.n.x,p.n.y,p.n.z,p.b⟩=⟨1,if l.any (fun v=>wa1 p v != 0) then ((l.findIdx (fun v=>wa1 p v != 0):Nat):Int) else -1⟩:=by
 have h:=Fa2 (step:=O6 ⟨l,(l.length:Int),p.n.x,p.n.y,p.n.z,p.b⟩) (mk:=fun j=>(⟨(j:Int)⟩:r5)) (c:=fun v=>wa1 p v != 0) (u:=1) (fin:=2) tV l hl
  (fun j hj=>by
   simp only[O6,M8,Int.toNat_natCast,Le5,q7 hj (by omega)]
   rw[bt (ic5 hj),bt (f8 hj)]
   rfl)
  (by simp only[O6,M8];rw[bf (Wb5 (Nat.lt_irrefl _))]) 0 (Nat.zero_le _)
 rw[List.drop_zero] at h
 unfold ja5 N7
 simp only[l6,j9]
 rw[show (⟨0⟩:r5)=⟨((0:Nat):Int)⟩ from rfl,h]
 split
 ·simp only[Nat.zero_add];rfl
 ·rfl
theorem oe1 (l:List V3) (p:Pln) (hl:l.length≤1000000000):v8 ⟨l,p.n.x,p.n.y,p.n.z,p.b⟩=⟨1,l.any fun v=>wa1 p v != 0⟩:=by
 unfold v8 E8
 simp only[l6,j9,Ze4 l p hl]
 split
 ·rename_i h
  rw[h,show decide (((l.findIdx (fun v=>wa1 p v != 0):Nat):Int)≥0)=true from decide_eq_true (by omega)];rfl
 ·rename_i h
  rw[Bool.not_eq_true] at h
  rw[h];rfl
theorem Ze5 (v:V3) (p:Pln):Xa1 ⟨v.x,v.y,v.z,p.n.x,p.n.y,p.n.z,p.b⟩=⟨1,decide (wa1 p v > 0)⟩:=by
 unfold Xa1 xa4
 simp only[bd1,bd2,w6]
theorem Ze6 (l:List V3) (p:Pln) (hl:l.length≤1000000000):ja8 ⟨l,p.n.x,p.n.y,p.n.z,p.b⟩=⟨1,if l.any (fun v=>decide (wa1 p v > 0)) then ((l.findIdx (fun v=>decide (wa1 p v > 0)):Nat):Int) else -1⟩:=by
 have h:=Fa2 (step:=O7 ⟨l,(l.length:Int),p.n.x,p.n.y,p.n.z,p.b⟩) (mk:=fun j=>(⟨(j:Int)⟩:r6)) (c:=fun v=>decide (wa1 p v > 0)) (u:=1) (fin:=2) tV l hl
  (fun j hj=>by
   simp only[O7,M9,Int.toNat_natCast,Ze5,q7 hj (by omega)]
   rw[bt (ic5 hj),bt (f8 hj)]
   rfl)
  (by simp only[O7,M9];rw[bf (Wb5 (Nat.lt_irrefl _))]) 0 (Nat.zero_le _)
 rw[List.drop_zero] at h
 unfold ja8 N8
 simp only[l6,j9]
 rw[show (⟨0⟩:r6)=⟨((0:Nat):Int)⟩ from rfl,h]
 split
 ·simp only[Nat.zero_add];rfl
 ·rfl
theorem Ze7 (l:List V3) (p:Pln) (hl:l.length≤1000000000):Z5 ⟨l,p.n.x,p.n.y,p.n.z,p.b⟩=⟨1,l.any fun v=>decide (wa1 p v > 0)⟩:=by
 unfold Z5 E9
 simp only[l6,j9,Ze6 l p hl]
 split
 ·rename_i h
  rw[h,show decide (((l.findIdx (fun v=>decide (wa1 p v > 0)):Nat):Int)≥0)=true from decide_eq_true (by omega)];rfl
 ·rename_i h
  rw[Bool.not_eq_true] at h
  rw[h];rfl
def bey (l:List V3) (p:Pln):Bool:=l.any fun v=>decide (wa1 p v > 0)
theorem Bd9 (l:List V3) (p:Pln) (hl:l.length≤1000000000):Va4 l p=some (b (bey l p),[]):=by
 unfold Va4
 simp only[l6,j9,Ze7 l p hl]
 rfl
theorem Le6 (l:List V3) (p:Pln) (hl:l.length≤1000000000):ra2 l p=bey l p:=by unfold ra2;rw[Bd9 l p hl];rfl
theorem Le7 (l:List V3) (p:Pln) (hl:l.length≤1000000000):P9 l p=true:=by unfold P9;rw[Bd9 l p hl];rfl
end Go.Ev.Ce
namespace Go.Ev.Ce
open Go Go.Ev Go.Ev.L Go.Proofs
theorem Yd1 {α:Type} (t:Ty α) (l:List α) {j k:Nat} (h:k < j):gL t (l.take j) k=gL t l k:=by
 simp[gL,List.getD_eq_getElem?_getD,List.getElem?_take,h]
theorem Le8 (l : List V3) (i j : Nat) (hi : i < l.length) (hj : j < i) (hl : l.length ≤ 1000000) :
  lp (Z2 ⟨(i:Int),(j:Int),(l.length:Int),(i:Int),(i:Int),(j:Int),(j:Int),l,l⟩) ⟨0⟩ =
   if (l.take j).any (fun v=>(J8 v (gL tV l j) (gL tV l i)).2) then (1,⟨((l.take j).findIdx (fun v=>(J8 v (gL tV l j) (gL tV l i)).2):Nat)⟩) else (2,⟨(j:Int)⟩):=by
 have hlen:(l.take j).length=j:=by rw[List.length_take];omega
 have h:=Fa2 (step:=Z2 ⟨(i:Int),(j:Int),(l.length:Int),(i:Int),(i:Int),(j:Int),(j:Int),l,l⟩) (mk:=fun k=>(⟨(k:Int)⟩:P8)) (c:=fun v=>(J8 v (gL tV l j) (gL tV l i)).2) (u:=1) (fin:=2) tV (l.take j) (by omega)
  (fun k hk=>by
   rw[hlen] at hk
   simp only[Z2,Ia3,Int.toNat_natCast,bc2,zc1,Yd1 tV l hk,l6,j9,oe1 l _ (show l.length≤1000000000 by omega),q7 hk (by omega)]
   rw[btD (m0 hk),bt (f8 (by omega)),bt (f8 (by omega)),bt (f8 hi),w6]
   cases (J8 (gL tV l k) (gL tV l j) (gL tV l i)).2<;>rfl)
  (by rw[hlen];simp only[Z2,Ia3];rw[bfD (A7 (Nat.lt_irrefl _))]) 0 (Nat.zero_le _)
 rw[List.drop_zero,hlen] at h
 rw[show (⟨0⟩:P8)=⟨((0:Nat):Int)⟩ from rfl,h]
 split
 ·simp only[Nat.zero_add]
 ·rfl
end Go.Ev.Ce
namespace Go.Ev.Ce
open Go Go.Ev Go.Ev.L Go.Proofs
def ixs (n:Nat):List Int:=(List.range n).map fun k:Nat=>(k:Int)
theorem yb0 (n:Nat):(ixs n).length=n:=by simp[ixs]
theorem oe2 {n k:Nat} (h:k < n):gL tI (ixs n) k=(k:Int):=by
 simp[gL,ixs,List.getD_eq_getElem?_getD,List.getElem?_map,List.getElem?_range h]
noncomputable def sp2 (l:List V3) (i:Nat) (m:Int):Bool:=(l.take m.toNat).any fun v=>(J8 v (gL tV l m.toNat) (gL tV l i)).2
theorem Le9 (l : List V3) (i : Nat) (hi : i < l.length) (hl : l.length ≤ 1000000) :
  lp (ha9 ⟨(i:Int),(l.length:Int),(i:Int),(i:Int)⟩) ⟨0,l,l⟩=if (ixs i).any (sp2 l i) then (1,⟨((ixs i).findIdx (sp2 l i):Nat),l,l⟩) else (2,⟨(i:Int),l,l⟩):=by
 have h:=Fa2 (step:=ha9 ⟨(i:Int),(l.length:Int),(i:Int),(i:Int)⟩) (mk:=fun j=>(⟨(j:Int),l,l⟩:T3)) (c:=sp2 l i) (u:=1) (fin:=2) tI (ixs i) (by rw[yb0];omega)
  (fun j hj=>by
   rw[yb0] at hj
   simp only[ha9,Ia4,Int.toNat_natCast,Nat.sub_zero,l6,j9,Le8 l i j hi hj hl,q7 hj (by omega),oe2 hj]
   rw[btD (m0 hj),bt (f8 (by omega))]
   unfold sp2
   simp only[Int.toNat_natCast]
   cases ((l.take j).any fun v=>(J8 v (gL tV l j) (gL tV l i)).2)<;>rfl)
  (by rw[yb0];simp only[ha9,Ia4];rw[bfD (A7 (Nat.lt_irrefl _))]) 0 (Nat.zero_le _)
 rw[List.drop_zero,yb0] at h
 rw[show (⟨0,l,l⟩:T3)=⟨((0:Nat):Int),l,l⟩ from rfl,h]
 split
 ·simp only[Nat.zero_add]
 ·rfl
noncomputable def sp1 (l:List V3) (m:Int):Bool:=(ixs m.toNat).any (sp2 l m.toNat)
theorem pf7 (l : List V3) (hl : l.length ≤ 1000000) :
  lp (Ea4 ⟨(l.length:Int)⟩) ⟨0,l,l⟩=if (ixs l.length).any (sp1 l) then (1,⟨((ixs l.length).findIdx (sp1 l):Nat),l,l⟩) else (2,⟨(l.length:Int),l,l⟩):=by
 have h:=Fa2 (step:=Ea4 ⟨(l.length:Int)⟩) (mk:=fun j=>(⟨(j:Int),l,l⟩:ga2)) (c:=sp1 l) (u:=1) (fin:=2) tI (ixs l.length) (by rw[yb0];omega)
  (fun i hi=>by
   rw[yb0] at hi
   simp only[Ea4,Ia5,Int.toNat_natCast,Nat.sub_zero,l6,j9,Le9 l i hi hl,q7 hi (by omega),oe2 hi]
   rw[btD (m0 hi),bt (f8 (by omega))]
   unfold sp1
   simp only[Int.toNat_natCast]
   cases (ixs i).any (sp2 l i)<;>rfl)
  (by rw[yb0];simp only[Ea4,Ia5];rw[bfD (A7 (Nat.lt_irrefl _))]) 0 (Nat.zero_le _)
 rw[List.drop_zero,yb0] at h
 rw[show (⟨0,l,l⟩:ga2)=⟨((0:Nat):Int),l,l⟩ from rfl,h]
 split
 ·simp only[Nat.zero_add]
 ·rfl
end Go.Ev.Ce
namespace Go.Ev.Ce
open Go Go.Ev Go.Ev.L Go.Proofs
theorem oe3 {α:Type} {l:List α} {c:α→Bool} (h:l.any c=true):l.findIdx c < l.length:=by
 obtain⟨x,h1,h2⟩:=List.any_eq_true.1 h
 exact List.findIdx_lt_length_of_exists ⟨x,h1,h2⟩
theorem bd3 {n:Nat} {c:Int→Bool} (h:(ixs n).any c=true):(ixs n).findIdx c < n∧c ((ixs n).findIdx c:Nat)=true:=by
 have hlt:=oe3 h
 have h1:=List.findIdx_getElem (xs:=ixs n) (p:=c) (w:=hlt)
 rw[yb0] at hlt
 refine⟨hlt,?_⟩
 simpa [ixs] using h1
noncomputable def iF (l:List V3):Nat:=(ixs l.length).findIdx (sp1 l)
noncomputable def jF (l:List V3):Nat:=(ixs (iF l)).findIdx (sp2 l (iF l))
noncomputable def kF (l:List V3):Nat:=(l.take (jF l)).findIdx (fun v=>(J8 v (gL tV l (jF l)) (gL tV l (iF l))).2)
noncomputable def plF (l:List V3):Pln:=(J8 (gL tV l (kF l)) (gL tV l (jF l)) (gL tV l (iF l))).1
noncomputable def od4 (l:List V3):Bool:=if (ixs l.length).any (sp1 l) then !(l.any fun v=>wa1 (plF l) v != 0) else true
theorem Yd2 (l:List V3) (hl:l.length≤1000000):pb1 l=some (b (od4 l),[]):=by
 unfold pb1 od4
 simp only[l6,j9]
 rw[pf7 l hl]
 by_cases h:(ixs l.length).any (sp1 l)=true
 ·obtain⟨hi,h1⟩:=bd3 h
  have h1:(ixs (iF l)).any (sp2 l (iF l))=true:=h1
  obtain⟨hj,h2⟩:=bd3 h1
  have h2:(l.take (jF l)).any (fun v=>(J8 v (gL tV l (jF l)) (gL tV l (iF l))).2)=true:=h2
  rw[if_pos h,if_pos h]
  simp only[Int.toNat_natCast,Nat.sub_zero]
  rw[show (ixs l.length).findIdx (sp1 l)=iF l from rfl,Le9 l (iF l) hi hl,if_pos h1]
  simp only[Int.toNat_natCast,Nat.sub_zero]
  rw[show (ixs (iF l)).findIdx (sp2 l (iF l))=jF l from rfl,Le8 l (iF l) (jF l) hi hj hl,if_pos h2]
  simp only[Int.toNat_natCast,bc2]
  rw[show (l.take (jF l)).findIdx (fun v=>(J8 v (gL tV l (jF l)) (gL tV l (iF l))).2)=kF l from rfl,show (J8 (gL tV l (kF l)) (gL tV l (jF l)) (gL tV l (iF l))).1=plF l from rfl,oe1 l _ (by omega)]
  rfl
 ·rw[if_neg h,if_neg h]
  rfl
theorem Ze8 (l:List V3) (hl:l.length≤1000000):Lb8 l=od4 l:=by unfold Lb8;rw[Yd2 l hl];rfl
theorem Ze9 (l:List V3) (hl:l.length≤1000000):Lb9 l=true:=by unfold Lb9;rw[Yd2 l hl];rfl
end Go.Ev.Ce
namespace Go.Ev.Ce
open Go Go.Ev Go.Ev.L Go.Proofs
theorem Cd0 (v:V3):Oa6 v=some (b (!inV v),[]):=by
 unfold Oa6
 simp only[(lc4 v).1,(lc4 v).2,w6]
theorem Me0 (v:V3):eb9 v=!inV v:=by unfold eb9;rw[Cd0];rfl
theorem Me1 (v:V3):fb0 v=true:=by unfold fb0;rw[Cd0];rfl
theorem af0 (l:List V3) (hl:l.length≤1000000000):ka1 ⟨l⟩=⟨1,if l.any (fun v=>!inV v) then ((l.findIdx (fun v=>!inV v):Nat):Int) else -1⟩:=by
 have h:=Fa2 (step:=O8 ⟨l,(l.length:Int)⟩) (mk:=fun j=>(⟨(j:Int)⟩:r7)) (c:=fun v=>!inV v) (u:=1) (fin:=2) tV l hl
  (fun j hj=>by
   simp only[O8,N0,Int.toNat_natCast,Me0,Me1,q7 hj (by omega)]
   rw[bt (ic5 hj),bt (f8 hj),w6])
  (by simp only[O8,N0];rw[bf (Wb5 (Nat.lt_irrefl _))]) 0 (Nat.zero_le _)
 rw[List.drop_zero] at h
 unfold ka1 N9
 simp only[l6,j9]
 rw[show (⟨0⟩:r7)=⟨((0:Nat):Int)⟩ from rfl,h]
 split
 ·simp only[Nat.zero_add];rfl
 ·rfl
theorem af1 (l:List V3) (hl:l.length≤1000000000):Z8 ⟨l⟩=⟨1,l.any fun v=>!inV v⟩:=by
 unfold Z8 F4
 simp only[l6,j9,af0 l hl]
 split
 ·rename_i h
  rw[h,show decide (((l.findIdx (fun v=>!inV v):Nat):Int)≥0)=true from decide_eq_true (by omega)];rfl
 ·rename_i h
  rw[Bool.not_eq_true] at h
  rw[h];rfl
noncomputable def ge1 (l:List V3):Int:=if (l.length:Int) > 48 then 2 else if l.any (fun v=>!inV v) then 3 else if od4 l then 11 else 0
theorem Cd1 (l:List V3) (hl:l.length≤1000000):fb1 l=some (i (ge1 l),[]):=by
 unfold fb1 ge1
 simp only[l6,j9,sa1,af1 l (by omega),Ze8 l hl,Ze9 l hl]
 by_cases h:(l.length:Int) > 48
 ·rw[btD h,if_pos h]
 ·rw[bfD h,if_neg h]
  cases l.any fun v=>!inV v with
  | true=>rfl
  | false=>cases od4 l<;>rfl
theorem Me2 (l:List V3) (hl:l.length≤1000000):xb6 l=ge1 l:=by unfold xb6;rw[Cd1 l hl];rfl
theorem Me3 (l:List V3) (hl:l.length≤1000000):xb7 l=true:=by unfold xb7;rw[Cd1 l hl];rfl
end Go.Ev.Ce
section
namespace Go.Ev.Ce
open Go Go.Ev Go.Ev.L Go.Proofs
set_option maxRecDepth 100000
noncomputable def mb2:List (Nat×Sum):=[(160,Ic2),(136,dc1),(212,sb8),(36,Hc8),(162,uc9),(103,ia9),(161,Eb4)]
theorem od5:i4 prog G mb2:=⟨vd5,Pc7,Tb5,ud8,nd8,Aa4,cc7,trivial⟩
structure aa0 where
 is3:Int
 is4:Int
 is9:Int
 o9:Int
 kb5:Int
 N6:Int
 zc6:Int
 b9:List V3
 e7:List V3
structure F5 where
 ph:Nat
 F8:Int
 eh4:List (List b7)
 y7:Nat
 eh5:List (List b7)
noncomputable def Pc9 (p:aa0) (s:F5):St:=⟨(.unk::((.ptr 0 0 0 0)::(.unk::((i p.is3)::((i p.is4)::(ra 4 ((i p.is9)::((i p.o9)::(ra 5 ((i p.kb5)::((i p.N6)::(ra 5 ((i p.zc6)::((i s.F8)::(ra 35 ((i 0)::(.unk::((.ptr 1 0 0 0)::((.v (.slice none 0 0))::((i 0)::(.unk::((.ptr 2 0 0 0)::((.ptr 3 0 0 0)::(ra 28 [])))))))))))))))))))))))),[⟨0,1,[[(eL tV p.b9)]],true,false,0⟩,⟨0,1,[[(eL tV p.e7)]],true,false,0⟩,⟨0,0,[[(.ptr 4 0 0 0)]],true,false,0⟩,⟨0,0,[[(.v (.slice none 0 0))]],true,false,0⟩,⟨162,0,s.eh4,true,false,0⟩]⟩
noncomputable def Qc0 (p:aa0) (s:F5):St:=⟨(.unk::((.ptr 0 0 0 0)::(.unk::((i p.is3)::((i p.is4)::(ra 4 ((i p.is9)::((i p.o9)::(ra 5 ((i p.kb5)::((i p.N6)::(ra 5 ((i p.zc6)::((i s.F8)::(ra 35 ((i 0)::(.unk::((.ptr 1 0 0 0)::((.v (.slice none 0 0))::((i 0)::(.unk::((.ptr 2 0 0 0)::((.ptr 3 0 0 0)::(ra 28 [])))))))))))))))))))))))),[⟨0,1,[[(eL tV p.b9)]],true,false,0⟩,⟨0,1,[[(eL tV p.e7)]],true,false,0⟩,⟨0,0,[[(.ptr 4 0 0 0)]],true,false,0⟩,⟨0,0,[[(.sl 5 0 s.y7 0)]],true,false,0⟩,⟨162,0,s.eh4,true,false,0⟩,⟨50,4,s.eh5,true,false,0⟩]⟩
noncomputable def Yc5 (p:aa0) (s:F5):St:=(sel (Nat.beq s.ph 1) (Qc0 p s) (Pc9 p s))
noncomputable def ea4 {α:Type} (k:F5→α) (e:Nat→α) (z:α) (p:aa0) (s:F5):α:=let t1:=(P7 (gL tV p.b9 s.F8.toNat) (gL tV p.b9 p.is4.toNat) (gL tV p.b9 p.is3.toNat));let t2:=(Qa5 t1.1);let t3:=(ra2 (rt tV p.e7) t2);let t4:=(ra2 (rt tV p.e7) t1.1);(sl (decide (s.F8 < p.zc6)) (sl (inB s.F8 (List.length p.b9)) (sl (inB p.is4 (List.length p.b9)) (sl (inB p.is3 (List.length p.b9)) (sl (xa3 (gL tV p.b9 s.F8.toNat) (gL tV p.b9 p.is4.toNat) (gL tV p.b9 p.is3.toNat)) (sl t1.2 (sl t1.2 (sl (ab7 4 [(0,(.int .i64)),(1,(.int .i64)),(2,(.int .i64)),(3,(.int .i64))] [(i t1.1.n.x),(i t1.1.n.y),(i t1.1.n.z),(i t1.1.b)] s.eh4) (sl (ab7 4 [(0,(.int .i64)),(1,(.int .i64)),(2,(.int .i64)),(3,(.int .i64))] [(i t2.n.x),(i t2.n.y),(i t2.n.z),(i t2.b)] s.eh4) (k ⟨0,(W (s.F8+1)),s.eh4,0,[]⟩) (sl (okE tV p.e7) (sl (P9 (rt tV p.e7) t2) (sl (!t3) (k ⟨1,(W (s.F8+1)),(ia2 [(0,(.int .i64)),(1,(.int .i64)),(2,(.int .i64)),(3,(.int .i64))] [(i t2.n.x),(i t2.n.y),(i t2.n.z),(i t2.b)] [(i t2.n.x),(i t2.n.y),(i t2.n.z),(i t2.b),(b true)] s.eh4),1,[[(i t2.n.x),(i t2.n.y),(i t2.n.z),(i t2.b)]]⟩) (k ⟨0,(W (s.F8+1)),(ia2 [(0,(.int .i64)),(1,(.int .i64)),(2,(.int .i64)),(3,(.int .i64))] [(i t2.n.x),(i t2.n.y),(i t2.n.z),(i t2.b)] [(i t2.n.x),(i t2.n.y),(i t2.n.z),(i t2.b),(b true)] s.eh4),0,[]⟩)) z) z)) (sl (okE tV p.e7) (sl (P9 (rt tV p.e7) t1.1) (sl (!t4) (sl (ab7 4 [(0,(.int .i64)),(1,(.int .i64)),(2,(.int .i64)),(3,(.int .i64))] [(i t2.n.x),(i t2.n.y),(i t2.n.z),(i t2.b)] (ia2 [(0,(.int .i64)),(1,(.int .i64)),(2,(.int .i64)),(3,(.int .i64))] [(i t1.1.n.x),(i t1.1.n.y),(i t1.1.n.z),(i t1.1.b)] [(i t1.1.n.x),(i t1.1.n.y),(i t1.1.n.z),(i t1.1.b),(b true)] s.eh4)) (k ⟨1,(W (s.F8+1)),(ia2 [(0,(.int .i64)),(1,(.int .i64)),(2,(.int .i64)),(3,(.int .i64))] [(i t1.1.n.x),(i t1.1.n.y),(i t1.1.n.z),(i t1.1.b)] [(i t1.1.n.x),(i t1.1.n.y),(i t1.1.n.z),(i t1.1.b),(b true)] s.eh4),1,[[(i t1.1.n.x),(i t1.1.n.y),(i t1.1.n.z),(i t1.1.b)]]⟩) (sl (okE tV p.e7) (sl (P9 (rt tV p.e7) t2) (sl (!t3) (k ⟨1,(W (s.F8+1)),(ia2 [(0,(.int .i64)),(1,(.int .i64)),(2,(.int .i64)),(3,(.int .i64))] [(i t2.n.x),(i t2.n.y),(i t2.n.z),(i t2.b)] [(i t2.n.x),(i t2.n.y),(i t2.n.z),(i t2.b),(b true)] (ia2 [(0,(.int .i64)),(1,(.int .i64)),(2,(.int .i64)),(3,(.int .i64))] [(i t1.1.n.x),(i t1.1.n.y),(i t1.1.n.z),(i t1.1.b)] [(i t1.1.n.x),(i t1.1.n.y),(i t1.1.n.z),(i t1.1.b),(b true)] s.eh4)),2,[[(i t1.1.n.x),(i t1.1.n.y),(i t1.1.n.z),(i t1.1.b)],[(i t2.n.x),(i t2.n.y),(i t2.n.z),(i t2.b)]]⟩) (k ⟨1,(W (s.F8+1)),(ia2 [(0,(.int .i64)),(1,(.int .i64)),(2,(.int .i64)),(3,(.int .i64))] [(i t2.n.x),(i t2.n.y),(i t2.n.z),(i t2.b)] [(i t2.n.x),(i t2.n.y),(i t2.n.z),(i t2.b),(b true)] (ia2 [(0,(.int .i64)),(1,(.int .i64)),(2,(.int .i64)),(3,(.int .i64))] [(i t1.1.n.x),(i t1.1.n.y),(i t1.1.n.z),(i t1.1.b)] [(i t1.1.n.x),(i t1.1.n.y),(i t1.1.n.z),(i t1.1.b),(b true)] s.eh4)),1,[[(i t1.1.n.x),(i t1.1.n.y),(i t1.1.n.z),(i t1.1.b)]]⟩)) z) z)) (sl (ab7 4 [(0,(.int .i64)),(1,(.int .i64)),(2,(.int .i64)),(3,(.int .i64))] [(i t2.n.x),(i t2.n.y),(i t2.n.z),(i t2.b)] (ia2 [(0,(.int .i64)),(1,(.int .i64)),(2,(.int .i64)),(3,(.int .i64))] [(i t1.1.n.x),(i t1.1.n.y),(i t1.1.n.z),(i t1.1.b)] [(i t1.1.n.x),(i t1.1.n.y),(i t1.1.n.z),(i t1.1.b),(b true)] s.eh4)) (k ⟨0,(W (s.F8+1)),(ia2 [(0,(.int .i64)),(1,(.int .i64)),(2,(.int .i64)),(3,(.int .i64))] [(i t1.1.n.x),(i t1.1.n.y),(i t1.1.n.z),(i t1.1.b)] [(i t1.1.n.x),(i t1.1.n.y),(i t1.1.n.z),(i t1.1.b),(b true)] s.eh4),0,[]⟩) (sl (okE tV p.e7) (sl (P9 (rt tV p.e7) t2) (sl (!t3) (k ⟨1,(W (s.F8+1)),(ia2 [(0,(.int .i64)),(1,(.int .i64)),(2,(.int .i64)),(3,(.int .i64))] [(i t2.n.x),(i t2.n.y),(i t2.n.z),(i t2.b)] [(i t2.n.x),(i t2.n.y),(i t2.n.z),(i t2.b),(b true)] (ia2 [(0,(.int .i64)),(1,(.int .i64)),(2,(.int .i64)),(3,(.int .i64))] [(i t1.1.n.x),(i t1.1.n.y),(i t1.1.n.z),(i t1.1.b)] [(i t1.1.n.x),(i t1.1.n.y),(i t1.1.n.z),(i t1.1.b),(b true)] s.eh4)),1,[[(i t2.n.x),(i t2.n.y),(i t2.n.z),(i t2.b)]]⟩) (k ⟨0,(W (s.F8+1)),(ia2 [(0,(.int .i64)),(1,(.int .i64)),(2,(.int .i64)),(3,(.int .i64))] [(i t2.n.x),(i t2.n.y),(i t2.n.z),(i t2.b)] [(i t2.n.x),(i t2.n.y),(i t2.n.z),(i t2.b),(b true)] (ia2 [(0,(.int .i64)),(1,(.int .i64)),(2,(.int .i64)),(3,(.int .i64))] [(i t1.1.n.x),(i t1.1.n.y),(i t1.1.n.z),(i t1.1.b)] [(i t1.1.n.x),(i t1.1.n.y),(i t1.1.n.z),(i t1.1.b),(b true)] s.eh4)),0,[]⟩)) z) z))) z) z)) (k ⟨0,(W (s.F8+1)),s.eh4,0,[]⟩)) (sl t1.2 z (k ⟨0,(W (s.F8+1)),s.eh4,0,[]⟩))) z) z) z) z) (e 1))
noncomputable def ea5 {α:Type} (k:F5→α) (e:Nat→α) (z:α) (p:aa0) (s:F5):α:=let t1:=(P7 (gL tV p.b9 s.F8.toNat) (gL tV p.b9 p.is4.toNat) (gL tV p.b9 p.is3.toNat));let t2:=(Qa5 t1.1);let t3:=(ra2 (rt tV p.e7) t2);let t4:=(ra2 (rt tV p.e7) t1.1);let a0:=(Nat.beq s.y7 (len s.eh5)&&Nat.ble ((s.y7+1)*32) room);(sl (decide (s.F8 < p.zc6)) (sl (inB s.F8 (List.length p.b9)) (sl (inB p.is4 (List.length p.b9)) (sl (inB p.is3 (List.length p.b9)) (sl (xa3 (gL tV p.b9 s.F8.toNat) (gL tV p.b9 p.is4.toNat) (gL tV p.b9 p.is3.toNat)) (sl t1.2 (sl t1.2 (sl (ab7 4 [(0,(.int .i64)),(1,(.int .i64)),(2,(.int .i64)),(3,(.int .i64))] [(i t1.1.n.x),(i t1.1.n.y),(i t1.1.n.z),(i t1.1.b)] s.eh4) (sl (ab7 4 [(0,(.int .i64)),(1,(.int .i64)),(2,(.int .i64)),(3,(.int .i64))] [(i t2.n.x),(i t2.n.y),(i t2.n.z),(i t2.b)] s.eh4) (k ⟨1,(W (s.F8+1)),s.eh4,s.y7,s.eh5⟩) (sl (okE tV p.e7) (sl (P9 (rt tV p.e7) t2) (sl (!t3) (sl a0 (k ⟨1,(W (s.F8+1)),(ia2 [(0,(.int .i64)),(1,(.int .i64)),(2,(.int .i64)),(3,(.int .i64))] [(i t2.n.x),(i t2.n.y),(i t2.n.z),(i t2.b)] [(i t2.n.x),(i t2.n.y),(i t2.n.z),(i t2.b),(b true)] s.eh4),(s.y7+1),(app s.eh5 [[(i t2.n.x),(i t2.n.y),(i t2.n.z),(i t2.b)]])⟩) z) (k ⟨1,(W (s.F8+1)),(ia2 [(0,(.int .i64)),(1,(.int .i64)),(2,(.int .i64)),(3,(.int .i64))] [(i t2.n.x),(i t2.n.y),(i t2.n.z),(i t2.b)] [(i t2.n.x),(i t2.n.y),(i t2.n.z),(i t2.b),(b true)] s.eh4),s.y7,s.eh5⟩)) z) z)) (sl (okE tV p.e7) (sl (P9 (rt tV p.e7) t1.1) (sl (!t4) (sl a0 (sl (ab7 4 [(0,(.int .i64)),(1,(.int .i64)),(2,(.int .i64)),(3,(.int .i64))] [(i t2.n.x),(i t2.n.y),(i t2.n.z),(i t2.b)] (ia2 [(0,(.int .i64)),(1,(.int .i64)),(2,(.int .i64)),(3,(.int .i64))] [(i t1.1.n.x),(i t1.1.n.y),(i t1.1.n.z),(i t1.1.b)] [(i t1.1.n.x),(i t1.1.n.y),(i t1.1.n.z),(i t1.1.b),(b true)] s.eh4)) (k ⟨1,(W (s.F8+1)),(ia2 [(0,(.int .i64)),(1,(.int .i64)),(2,(.int .i64)),(3,(.int .i64))] [(i t1.1.n.x),(i t1.1.n.y),(i t1.1.n.z),(i t1.1.b)] [(i t1.1.n.x),(i t1.1.n.y),(i t1.1.n.z),(i t1.1.b),(b true)] s.eh4),(s.y7+1),(app s.eh5 [[(i t1.1.n.x),(i t1.1.n.y),(i t1.1.n.z),(i t1.1.b)]])⟩) (sl (okE tV p.e7) (sl (P9 (rt tV p.e7) t2) (sl (!t3) (sl (Nat.beq (s.y7+1) (len (app s.eh5 [[(i t1.1.n.x),(i t1.1.n.y),(i t1.1.n.z),(i t1.1.b)]]))&&Nat.ble (((s.y7+1)+1)*32) room) (k ⟨1,(W (s.F8+1)),(ia2 [(0,(.int .i64)),(1,(.int .i64)),(2,(.int .i64)),(3,(.int .i64))] [(i t2.n.x),(i t2.n.y),(i t2.n.z),(i t2.b)] [(i t2.n.x),(i t2.n.y),(i t2.n.z),(i t2.b),(b true)] (ia2 [(0,(.int .i64)),(1,(.int .i64)),(2,(.int .i64)),(3,(.int .i64))] [(i t1.1.n.x),(i t1.1.n.y),(i t1.1.n.z),(i t1.1.b)] [(i t1.1.n.x),(i t1.1.n.y),(i t1.1.n.z),(i t1.1.b),(b true)] s.eh4)),((s.y7+1)+1),(app (app s.eh5 [[(i t1.1.n.x),(i t1.1.n.y),(i t1.1.n.z),(i t1.1.b)]]) [[(i t2.n.x),(i t2.n.y),(i t2.n.z),(i t2.b)]])⟩) z) (k ⟨1,(W (s.F8+1)),(ia2 [(0,(.int .i64)),(1,(.int .i64)),(2,(.int .i64)),(3,(.int .i64))] [(i t2.n.x),(i t2.n.y),(i t2.n.z),(i t2.b)] [(i t2.n.x),(i t2.n.y),(i t2.n.z),(i t2.b),(b true)] (ia2 [(0,(.int .i64)),(1,(.int .i64)),(2,(.int .i64)),(3,(.int .i64))] [(i t1.1.n.x),(i t1.1.n.y),(i t1.1.n.z),(i t1.1.b)] [(i t1.1.n.x),(i t1.1.n.y),(i t1.1.n.z),(i t1.1.b),(b true)] s.eh4)),(s.y7+1),(app s.eh5 [[(i t1.1.n.x),(i t1.1.n.y),(i t1.1.n.z),(i t1.1.b)]])⟩)) z) z)) z) (sl (ab7 4 [(0,(.int .i64)),(1,(.int .i64)),(2,(.int .i64)),(3,(.int .i64))] [(i t2.n.x),(i t2.n.y),(i t2.n.z),(i t2.b)] (ia2 [(0,(.int .i64)),(1,(.int .i64)),(2,(.int .i64)),(3,(.int .i64))] [(i t1.1.n.x),(i t1.1.n.y),(i t1.1.n.z),(i t1.1.b)] [(i t1.1.n.x),(i t1.1.n.y),(i t1.1.n.z),(i t1.1.b),(b true)] s.eh4)) (k ⟨1,(W (s.F8+1)),(ia2 [(0,(.int .i64)),(1,(.int .i64)),(2,(.int .i64)),(3,(.int .i64))] [(i t1.1.n.x),(i t1.1.n.y),(i t1.1.n.z),(i t1.1.b)] [(i t1.1.n.x),(i t1.1.n.y),(i t1.1.n.z),(i t1.1.b),(b true)] s.eh4),s.y7,s.eh5⟩) (sl (okE tV p.e7) (sl (P9 (rt tV p.e7) t2) (sl (!t3) (sl a0 (k ⟨1,(W (s.F8+1)),(ia2 [(0,(.int .i64)),(1,(.int .i64)),(2,(.int .i64)),(3,(.int .i64))] [(i t2.n.x),(i t2.n.y),(i t2.n.z),(i t2.b)] [(i t2.n.x),(i t2.n.y),(i t2.n.z),(i t2.b),(b true)] (ia2 [(0,(.int .i64)),(1,(.int .i64)),(2,(.int .i64)),(3,(.int .i64))] [(i t1.1.n.x),(i t1.1.n.y),(i t1.1.n.z),(i t1.1.b)] [(i t1.1.n.x),(i t1.1.n.y),(i t1.1.n.z),(i t1.1.b),(b true)] s.eh4)),(s.y7+1),(app s.eh5 [[(i t2.n.x),(i t2.n.y),(i t2.n.z),(i t2.b)]])⟩) z) (k ⟨1,(W (s.F8+1)),(ia2 [(0,(.int .i64)),(1,(.int .i64)),(2,(.int .i64)),(3,(.int .i64))] [(i t2.n.x),(i t2.n.y),(i t2.n.z),(i t2.b)] [(i t2.n.x),(i t2.n.y),(i t2.n.z),(i t2.b),(b true)] (ia2 [(0,(.int .i64)),(1,(.int .i64)),(2,(.int .i64)),(3,(.int .i64))] [(i t1.1.n.x),(i t1.1.n.y),(i t1.1.n.z),(i t1.1.b)] [(i t1.1.n.x),(i t1.1.n.y),(i t1.1.n.z),(i t1.1.b),(b true)] s.eh4)),s.y7,s.eh5⟩)) z) z))) z) z)) (k ⟨1,(W (s.F8+1)),s.eh4,s.y7,s.eh5⟩)) (sl t1.2 z (k ⟨1,(W (s.F8+1)),s.eh4,s.y7,s.eh5⟩))) z) z) z) z) (e 2))
noncomputable def aa5 (p:aa0) (s:F5):Stp F5:=(sel (Nat.beq s.ph 1) (ea5 .next .exit .fail p s) (ea4 .next .exit .fail p s))
noncomputable def Fb3:Lo aa0 F5:=⟨En mb2,0,Ue0,[1,1,1,1,1,0,1,4,4,1,4,4,1,1,0,4,1,1,4,4,1,1,0,4,1,1,4,4],[1,3,4,9,10,16,17,23,24,60,62,63,64,66,67],.p,[⟨((.s (.o .unk))::((.s (.o (.ptr 0 0 0 0)))::((.s (.o .unk))::((.s (.o (.int .i64)))::((.s (.o (.int .i64)))::(ru2 4 ((.s (.o (.int .i64)))::((.s (.o (.int .i64)))::(ru2 5 ((.s (.o (.int .i64)))::((.s (.o (.int .i64)))::(ru2 5 ((.s (.o (.int .i64)))::((.s (.o (.int .i64)))::(ru2 35 ((.s (.o (.lit .i64 0)))::((.s (.o .unk))::((.s (.o (.ptr 1 0 0 0)))::((.s (.o .nil))::((.s (.o (.lit .i64 0)))::((.s (.o .unk))::((.s (.o (.ptr 2 0 0 0)))::((.s (.o (.ptr 3 0 0 0)))::(ru2 28 [])))))))))))))))))))))))),[⟨0,1,true,(some [[(.c 3 (nL tV))]])⟩,⟨0,1,true,(some [[(.c 3 (nL tV))]])⟩,⟨0,0,true,(some [[(.o (.ptr 4 0 0 0))]])⟩,⟨0,0,true,(some [[(.o .nil)]])⟩,⟨162,0,true,none⟩],fun a H=>(⟨(toI (slT a 3)),(toI (slT a 4)),(toI (slT a 9)),(toI (slT a 10)),(toI (slT a 16)),(toI (slT a 17)),(toI (slT a 23)),(rL tV (slT (rwT (elT H 0) 0) 0)),(rL tV (slT (rwT (elT H 1) 0) 0))⟩,⟨0,(toI (slT a 24)),(elT H 4),0,[]⟩)⟩,⟨((.s (.o .unk))::((.s (.o (.ptr 0 0 0 0)))::((.s (.o .unk))::((.s (.o (.int .i64)))::((.s (.o (.int .i64)))::(ru2 4 ((.s (.o (.int .i64)))::((.s (.o (.int .i64)))::(ru2 5 ((.s (.o (.int .i64)))::((.s (.o (.int .i64)))::(ru2 5 ((.s (.o (.int .i64)))::((.s (.o (.int .i64)))::(ru2 35 ((.s (.o (.lit .i64 0)))::((.s (.o .unk))::((.s (.o (.ptr 1 0 0 0)))::((.s (.o .nil))::((.s (.o (.lit .i64 0)))::((.s (.o .unk))::((.s (.o (.ptr 2 0 0 0)))::((.s (.o (.ptr 3 0 0 0)))::(ru2 28 [])))))))))))))))))))))))),[⟨0,1,true,(some [[(.c 3 (nL tV))]])⟩,⟨0,1,true,(some [[(.c 3 (nL tV))]])⟩,⟨0,0,true,(some [[(.o (.ptr 4 0 0 0))]])⟩,⟨0,0,true,(some [[(.o (.sl 5 0 (some 0) none))]])⟩,⟨162,0,true,none⟩,⟨50,4,true,none⟩],fun a H=>(⟨(toI (slT a 3)),(toI (slT a 4)),(toI (slT a 9)),(toI (slT a 10)),(toI (slT a 16)),(toI (slT a 17)),(toI (slT a 23)),(rL tV (slT (rwT (elT H 0) 0) 0)),(rL tV (slT (rwT (elT H 1) 0) 0))⟩,⟨1,(toI (slT a 24)),(elT H 4),(slN (slT (rwT (elT H 3) 0) 0)),(elT H 5)⟩)⟩],aa5,[(some 4,fun p s=>⟨(.unk::((.ptr 0 0 0 0)::(.unk::((i p.is3)::((i p.is4)::(ra 4 ((i p.is9)::((i p.o9)::(ra 5 ((i p.kb5)::((i p.N6)::(ra 5 ((i p.zc6)::((i s.F8)::((b (decide (s.F8 < p.zc6)))::(ra 34 ((i 0)::(.unk::((.ptr 1 0 0 0)::((.v (.slice none 0 0))::((i 0)::(.unk::((.ptr 2 0 0 0)::((.ptr 3 0 0 0)::(ra 28 []))))))))))))))))))))))))),[⟨0,1,[[(eL tV p.b9)]],true,false,0⟩,⟨0,1,[[(eL tV p.e7)]],true,false,0⟩,⟨0,0,[[(.ptr 4 0 0 0)]],true,false,0⟩,⟨0,0,[[(.v (.slice none 0 0))]],true,false,0⟩,⟨162,0,s.eh4,true,false,0⟩]⟩),(some 4,fun p s=>⟨(.unk::((.ptr 0 0 0 0)::(.unk::((i p.is3)::((i p.is4)::(ra 4 ((i p.is9)::((i p.o9)::(ra 5 ((i p.kb5)::((i p.N6)::(ra 5 ((i p.zc6)::((i s.F8)::((b (decide (s.F8 < p.zc6)))::(ra 34 ((i 0)::(.unk::((.ptr 1 0 0 0)::((.v (.slice none 0 0))::((i 0)::(.unk::((.ptr 2 0 0 0)::((.ptr 3 0 0 0)::(ra 28 []))))))))))))))))))))))))),[⟨0,1,[[(eL tV p.b9)]],true,false,0⟩,⟨0,1,[[(eL tV p.e7)]],true,false,0⟩,⟨0,0,[[(.ptr 4 0 0 0)]],true,false,0⟩,⟨0,0,[[(.sl 5 0 s.y7 0)]],true,false,0⟩,⟨162,0,s.eh4,true,false,0⟩,⟨50,4,s.eh5,true,false,0⟩]⟩)],Yc5⟩
theorem Yc6:Fb3.OkM:=Lo.okM [] (by kernel_rfl) .nil rfl (.cons (fun a H=>by kernel_rfl) (.cons (fun a H=>by kernel_rfl) .nil)) fun p s=>(.sel (Nat.beq s.ph 1) (.of @ea5 (fun F _ _ _ _ _=>by unfold ea5;(repeat' apply j5 (f:=F))<;>rfl) (by kernel_rfl)) (.of @ea4 (fun F _ _ _ _ _=>by unfold ea4;(repeat' apply j5 (f:=F))<;>rfl) (by kernel_rfl)))
structure aa1 where
 is3:Int
 is9:Int
 o9:Int
 kb5:Int
structure D3 where
 ph:Nat
 N6:Int
 b9:List V3
 e7:List V3
 eh4:List (List b7)
 y7:Nat
 eh5:List (List b7)
noncomputable def Qc1 (p:aa1) (s:D3):St:=⟨(.unk::((.ptr 0 0 0 0)::(.unk::((i p.is3)::(ra 5 ((i p.is9)::((i p.o9)::(ra 5 ((i p.kb5)::((i s.N6)::(ra 42 ((i 0)::(.unk::((.ptr 1 0 0 0)::((.v (.slice none 0 0))::((i 0)::(.unk::((.ptr 2 0 0 0)::((.ptr 3 0 0 0)::(ra 28 [])))))))))))))))))))),[⟨0,1,[[(eL tV s.b9)]],true,false,0⟩,⟨0,1,[[(eL tV s.e7)]],true,false,0⟩,⟨0,0,[[(.ptr 4 0 0 0)]],true,false,0⟩,⟨0,0,[[(.v (.slice none 0 0))]],true,false,0⟩,⟨162,0,s.eh4,true,false,0⟩]⟩
noncomputable def Qc2 (p:aa1) (s:D3):St:=⟨(.unk::((.ptr 0 0 0 0)::(.unk::((i p.is3)::(ra 5 ((i p.is9)::((i p.o9)::(ra 5 ((i p.kb5)::((i s.N6)::(ra 42 ((i 0)::(.unk::((.ptr 1 0 0 0)::((.v (.slice none 0 0))::((i 0)::(.unk::((.ptr 2 0 0 0)::((.ptr 3 0 0 0)::(ra 28 [])))))))))))))))))))),[⟨0,1,[[(eL tV s.b9)]],true,false,0⟩,⟨0,1,[[(eL tV s.e7)]],true,false,0⟩,⟨0,0,[[(.ptr 4 0 0 0)]],true,false,0⟩,⟨0,0,[[(.sl 5 0 s.y7 0)]],true,false,0⟩,⟨162,0,s.eh4,true,false,0⟩,⟨50,4,s.eh5,true,false,0⟩]⟩
noncomputable def Yc7 (p:aa1) (s:D3):St:=(sel (Nat.beq s.ph 1) (Qc2 p s) (Qc1 p s))
noncomputable def ea6 {α:Type} (k:D3→α) (e:Nat→α) (z:α) (p:aa1) (s:D3):α:=let t1:=(lp (aa5 (⟨p.is3,s.N6,p.is9,p.o9,p.kb5,s.N6,(↑(s.N6.toNat - 0):Int),(rt tV s.b9),(rt tV s.e7)⟩:aa0)) (⟨0,0,s.eh4,0,[]⟩:F5));(sl (decide (s.N6 < p.kb5)) (sl (inB s.N6 ((List.length s.b9)+1)) (sl ((cnE tV s.b9)&&((cnE tV s.e7)&&true)) (sl (Nat.beq t1.1 1) (k ⟨0,(W (s.N6+1)),(rt tV s.b9),(rt tV s.e7),t1.2.eh4,0,[]⟩) (sl (Nat.beq t1.1 2) (k ⟨1,(W (s.N6+1)),(rt tV s.b9),(rt tV s.e7),t1.2.eh4,t1.2.y7,t1.2.eh5⟩) z)) z) z) (e 1))
noncomputable def ea7 {α:Type} (k:D3→α) (e:Nat→α) (z:α) (p:aa1) (s:D3):α:=let t1:=(lp (aa5 (⟨p.is3,s.N6,p.is9,p.o9,p.kb5,s.N6,(↑(s.N6.toNat - 0):Int),(rt tV s.b9),(rt tV s.e7)⟩:aa0)) (⟨1,0,s.eh4,s.y7,s.eh5⟩:F5));(sl (decide (s.N6 < p.kb5)) (sl (inB s.N6 ((List.length s.b9)+1)) (sl ((cnE tV s.b9)&&((cnE tV s.e7)&&true)) (sl (Nat.beq t1.1 1) (k ⟨0,(W (s.N6+1)),(rt tV s.b9),(rt tV s.e7),t1.2.eh4,0,[]⟩) (sl (Nat.beq t1.1 2) (k ⟨1,(W (s.N6+1)),(rt tV s.b9),(rt tV s.e7),t1.2.eh4,t1.2.y7,t1.2.eh5⟩) z)) z) z) (e 2))
noncomputable def ma3 (p:aa1) (s:D3):Stp D3:=(sel (Nat.beq s.ph 1) (ea7 .next .exit .fail p s) (ea6 .next .exit .fail p s))
noncomputable def Fb4:Lo aa1 D3:=⟨En mb2,0,Ue0,[1,1,1,1,1,0,1,4,4,1,4,4,1,1,0,4,1,1,4,4],[1,3,9,10,16,17,60,62,63,64,66,67],(.s .p (.s .p (.s (.b (.s .p (.s .p (.b (.u Fb3.lsM))))) .p))),[⟨((.s (.o .unk))::((.s (.o (.ptr 0 0 0 0)))::((.s (.o .unk))::((.s (.o (.int .i64)))::(ru2 5 ((.s (.o (.int .i64)))::((.s (.o (.int .i64)))::(ru2 5 ((.s (.o (.int .i64)))::((.s (.o (.int .i64)))::(ru2 42 ((.s (.o (.lit .i64 0)))::((.s (.o .unk))::((.s (.o (.ptr 1 0 0 0)))::((.s (.o .nil))::((.s (.o (.lit .i64 0)))::((.s (.o .unk))::((.s (.o (.ptr 2 0 0 0)))::((.s (.o (.ptr 3 0 0 0)))::(ru2 28 [])))))))))))))))))))),[⟨0,1,true,(some [[(.c 3 (nL tV))]])⟩,⟨0,1,true,(some [[(.c 3 (nL tV))]])⟩,⟨0,0,true,(some [[(.o (.ptr 4 0 0 0))]])⟩,⟨0,0,true,(some [[(.o .nil)]])⟩,⟨162,0,true,none⟩],fun a H=>(⟨(toI (slT a 3)),(toI (slT a 9)),(toI (slT a 10)),(toI (slT a 16))⟩,⟨0,(toI (slT a 17)),(rL tV (slT (rwT (elT H 0) 0) 0)),(rL tV (slT (rwT (elT H 1) 0) 0)),(elT H 4),0,[]⟩)⟩,⟨((.s (.o .unk))::((.s (.o (.ptr 0 0 0 0)))::((.s (.o .unk))::((.s (.o (.int .i64)))::(ru2 5 ((.s (.o (.int .i64)))::((.s (.o (.int .i64)))::(ru2 5 ((.s (.o (.int .i64)))::((.s (.o (.int .i64)))::(ru2 42 ((.s (.o (.lit .i64 0)))::((.s (.o .unk))::((.s (.o (.ptr 1 0 0 0)))::((.s (.o .nil))::((.s (.o (.lit .i64 0)))::((.s (.o .unk))::((.s (.o (.ptr 2 0 0 0)))::((.s (.o (.ptr 3 0 0 0)))::(ru2 28 [])))))))))))))))))))),[⟨0,1,true,(some [[(.c 3 (nL tV))]])⟩,⟨0,1,true,(some [[(.c 3 (nL tV))]])⟩,⟨0,0,true,(some [[(.o (.ptr 4 0 0 0))]])⟩,⟨0,0,true,(some [[(.o (.sl 5 0 (some 0) none))]])⟩,⟨162,0,true,none⟩,⟨50,4,true,none⟩],fun a H=>(⟨(toI (slT a 3)),(toI (slT a 9)),(toI (slT a 10)),(toI (slT a 16))⟩,⟨1,(toI (slT a 17)),(rL tV (slT (rwT (elT H 0) 0) 0)),(rL tV (slT (rwT (elT H 1) 0) 0)),(elT H 4),(slN (slT (rwT (elT H 3) 0) 0)),(elT H 5)⟩)⟩],ma3,[(some 2,fun p s=>⟨(.unk::((.ptr 0 0 0 0)::(.unk::((i p.is3)::(ra 5 ((i p.is9)::((i p.o9)::(ra 5 ((i p.kb5)::((i s.N6)::((b (decide (s.N6 < p.kb5)))::(ra 41 ((i 0)::(.unk::((.ptr 1 0 0 0)::((.v (.slice none 0 0))::((i 0)::(.unk::((.ptr 2 0 0 0)::((.ptr 3 0 0 0)::(ra 28 []))))))))))))))))))))),[⟨0,1,[[(eL tV s.b9)]],true,false,0⟩,⟨0,1,[[(eL tV s.e7)]],true,false,0⟩,⟨0,0,[[(.ptr 4 0 0 0)]],true,false,0⟩,⟨0,0,[[(.v (.slice none 0 0))]],true,false,0⟩,⟨162,0,s.eh4,true,false,0⟩]⟩),(some 2,fun p s=>⟨(.unk::((.ptr 0 0 0 0)::(.unk::((i p.is3)::(ra 5 ((i p.is9)::((i p.o9)::(ra 5 ((i p.kb5)::((i s.N6)::((b (decide (s.N6 < p.kb5)))::(ra 41 ((i 0)::(.unk::((.ptr 1 0 0 0)::((.v (.slice none 0 0))::((i 0)::(.unk::((.ptr 2 0 0 0)::((.ptr 3 0 0 0)::(ra 28 []))))))))))))))))))))),[⟨0,1,[[(eL tV s.b9)]],true,false,0⟩,⟨0,1,[[(eL tV s.e7)]],true,false,0⟩,⟨0,0,[[(.ptr 4 0 0 0)]],true,false,0⟩,⟨0,0,[[(.sl 5 0 s.y7 0)]],true,false,0⟩,⟨162,0,s.eh4,true,false,0⟩,⟨50,4,s.eh5,true,false,0⟩]⟩)],Yc7⟩
theorem Yc8:Fb4.OkM:=Lo.okM [Fb3.prM] (by kernel_rfl) (.cons Yc6 .nil) rfl (.cons (fun a H=>by kernel_rfl) (.cons (fun a H=>by kernel_rfl) .nil)) fun p s=>(.sel (Nat.beq s.ph 1) (.of @ea7 (fun F _ _ _ _ _=>by unfold ea7;(repeat' apply j5 (f:=F))<;>rfl) (by kernel_rfl)) (.of @ea6 (fun F _ _ _ _ _=>by unfold ea6;(repeat' apply j5 (f:=F))<;>rfl) (by kernel_rfl)))
structure ia0 where
 is9:Int
structure F6 where
 ph:Nat
 o9:Int
 b9:List V3
 e7:List V3
 eh4:List (List b7)
 y7:Nat
 eh5:List (List b7)
noncomputable def Qc3 (p:ia0) (s:F6):St:=⟨(.unk::((.ptr 0 0 0 0)::(ra 7 ((i p.is9)::((i s.o9)::(ra 49 ((i 0)::(.unk::((.ptr 1 0 0 0)::((.v (.slice none 0 0))::((i 0)::(.unk::((.ptr 2 0 0 0)::((.ptr 3 0 0 0)::(ra 28 []))))))))))))))),[⟨0,1,[[(eL tV s.b9)]],true,false,0⟩,⟨0,1,[[(eL tV s.e7)]],true,false,0⟩,⟨0,0,[[(.ptr 4 0 0 0)]],true,false,0⟩,⟨0,0,[[(.v (.slice none 0 0))]],true,false,0⟩,⟨162,0,s.eh4,true,false,0⟩]⟩
noncomputable def Qc4 (p:ia0) (s:F6):St:=⟨(.unk::((.ptr 0 0 0 0)::(ra 7 ((i p.is9)::((i s.o9)::(ra 49 ((i 0)::(.unk::((.ptr 1 0 0 0)::((.v (.slice none 0 0))::((i 0)::(.unk::((.ptr 2 0 0 0)::((.ptr 3 0 0 0)::(ra 28 []))))))))))))))),[⟨0,1,[[(eL tV s.b9)]],true,false,0⟩,⟨0,1,[[(eL tV s.e7)]],true,false,0⟩,⟨0,0,[[(.ptr 4 0 0 0)]],true,false,0⟩,⟨0,0,[[(.sl 5 0 s.y7 0)]],true,false,0⟩,⟨162,0,s.eh4,true,false,0⟩,⟨50,4,s.eh5,true,false,0⟩]⟩
noncomputable def Yc9 (p:ia0) (s:F6):St:=(sel (Nat.beq s.ph 1) (Qc4 p s) (Qc3 p s))
noncomputable def ea8 {α:Type} (k:F6→α) (e:Nat→α) (z:α) (p:ia0) (s:F6):α:=let t1:=(lp (ma3 (⟨s.o9,p.is9,s.o9,(↑(s.o9.toNat - 0):Int)⟩:aa1)) (⟨0,0,(rt tV s.b9),(rt tV s.e7),s.eh4,0,[]⟩:D3));(sl (decide (s.o9 < p.is9)) (sl (inB s.o9 ((List.length s.b9)+1)) (sl ((cnE tV s.b9)&&((cnE tV s.e7)&&true)) (sl (Nat.beq t1.1 1) (k ⟨0,(W (s.o9+1)),t1.2.b9,t1.2.e7,t1.2.eh4,0,[]⟩) (sl (Nat.beq t1.1 2) (k ⟨1,(W (s.o9+1)),t1.2.b9,t1.2.e7,t1.2.eh4,t1.2.y7,t1.2.eh5⟩) z)) z) z) (e 1))
noncomputable def ea9 {α:Type} (k:F6→α) (e:Nat→α) (z:α) (p:ia0) (s:F6):α:=let t1:=(lp (ma3 (⟨s.o9,p.is9,s.o9,(↑(s.o9.toNat - 0):Int)⟩:aa1)) (⟨1,0,(rt tV s.b9),(rt tV s.e7),s.eh4,s.y7,s.eh5⟩:D3));(sl (decide (s.o9 < p.is9)) (sl (inB s.o9 ((List.length s.b9)+1)) (sl ((cnE tV s.b9)&&((cnE tV s.e7)&&true)) (sl (Nat.beq t1.1 1) (k ⟨0,(W (s.o9+1)),t1.2.b9,t1.2.e7,t1.2.eh4,0,[]⟩) (sl (Nat.beq t1.1 2) (k ⟨1,(W (s.o9+1)),t1.2.b9,t1.2.e7,t1.2.eh4,t1.2.y7,t1.2.eh5⟩) z)) z) z) (e 2))
noncomputable def Xa3 (p:ia0) (s:F6):Stp F6:=(sel (Nat.beq s.ph 1) (ea9 .next .exit .fail p s) (ea8 .next .exit .fail p s))
noncomputable def Fb5:Lo ia0 F6:=⟨En mb2,0,Ue0,[1,1,1,1,1,0,1,4,4,1,4,4],[1,9,10,60,62,63,64,66,67],(.s .p (.s .p (.s (.b (.s .p (.s .p (.b (.u Fb4.lsM))))) .p))),[⟨((.s (.o .unk))::((.s (.o (.ptr 0 0 0 0)))::(ru2 7 ((.s (.o (.int .i64)))::((.s (.o (.int .i64)))::(ru2 49 ((.s (.o (.lit .i64 0)))::((.s (.o .unk))::((.s (.o (.ptr 1 0 0 0)))::((.s (.o .nil))::((.s (.o (.lit .i64 0)))::((.s (.o .unk))::((.s (.o (.ptr 2 0 0 0)))::((.s (.o (.ptr 3 0 0 0)))::(ru2 28 []))))))))))))))),[⟨0,1,true,(some [[(.c 3 (nL tV))]])⟩,⟨0,1,true,(some [[(.c 3 (nL tV))]])⟩,⟨0,0,true,(some [[(.o (.ptr 4 0 0 0))]])⟩,⟨0,0,true,(some [[(.o .nil)]])⟩,⟨162,0,true,none⟩],fun a H=>(⟨(toI (slT a 9))⟩,⟨0,(toI (slT a 10)),(rL tV (slT (rwT (elT H 0) 0) 0)),(rL tV (slT (rwT (elT H 1) 0) 0)),(elT H 4),0,[]⟩)⟩,⟨((.s (.o .unk))::((.s (.o (.ptr 0 0 0 0)))::(ru2 7 ((.s (.o (.int .i64)))::((.s (.o (.int .i64)))::(ru2 49 ((.s (.o (.lit .i64 0)))::((.s (.o .unk))::((.s (.o (.ptr 1 0 0 0)))::((.s (.o .nil))::((.s (.o (.lit .i64 0)))::((.s (.o .unk))::((.s (.o (.ptr 2 0 0 0)))::((.s (.o (.ptr 3 0 0 0)))::(ru2 28 []))))))))))))))),[⟨0,1,true,(some [[(.c 3 (nL tV))]])⟩,⟨0,1,true,(some [[(.c 3 (nL tV))]])⟩,⟨0,0,true,(some [[(.o (.ptr 4 0 0 0))]])⟩,⟨0,0,true,(some [[(.o (.sl 5 0 (some 0) none))]])⟩,⟨162,0,true,none⟩,⟨50,4,true,none⟩],fun a H=>(⟨(toI (slT a 9))⟩,⟨1,(toI (slT a 10)),(rL tV (slT (rwT (elT H 0) 0) 0)),(rL tV (slT (rwT (elT H 1) 0) 0)),(elT H 4),(slN (slT (rwT (elT H 3) 0) 0)),(elT H 5)⟩)⟩],Xa3,[(some 0,fun p s=>⟨(.unk::((.ptr 0 0 0 0)::(ra 7 ((i p.is9)::((i s.o9)::((b (decide (s.o9 < p.is9)))::(ra 48 ((i 0)::(.unk::((.ptr 1 0 0 0)::((.v (.slice none 0 0))::((i 0)::(.unk::((.ptr 2 0 0 0)::((.ptr 3 0 0 0)::(ra 28 [])))))))))))))))),[⟨0,1,[[(eL tV s.b9)]],true,false,0⟩,⟨0,1,[[(eL tV s.e7)]],true,false,0⟩,⟨0,0,[[(.ptr 4 0 0 0)]],true,false,0⟩,⟨0,0,[[(.v (.slice none 0 0))]],true,false,0⟩,⟨162,0,s.eh4,true,false,0⟩]⟩),(some 0,fun p s=>⟨(.unk::((.ptr 0 0 0 0)::(ra 7 ((i p.is9)::((i s.o9)::((b (decide (s.o9 < p.is9)))::(ra 48 ((i 0)::(.unk::((.ptr 1 0 0 0)::((.v (.slice none 0 0))::((i 0)::(.unk::((.ptr 2 0 0 0)::((.ptr 3 0 0 0)::(ra 28 [])))))))))))))))),[⟨0,1,[[(eL tV s.b9)]],true,false,0⟩,⟨0,1,[[(eL tV s.e7)]],true,false,0⟩,⟨0,0,[[(.ptr 4 0 0 0)]],true,false,0⟩,⟨0,0,[[(.sl 5 0 s.y7 0)]],true,false,0⟩,⟨162,0,s.eh4,true,false,0⟩,⟨50,4,s.eh5,true,false,0⟩]⟩)],Yc9⟩
theorem Zc0:Fb5.OkM:=Lo.okM [Fb4.prM] (by kernel_rfl) (.cons Yc8 .nil) rfl (.cons (fun a H=>by kernel_rfl) (.cons (fun a H=>by kernel_rfl) .nil)) fun p s=>(.sel (Nat.beq s.ph 1) (.of @ea9 (fun F _ _ _ _ _=>by unfold ea9;(repeat' apply j5 (f:=F))<;>rfl) (by kernel_rfl)) (.of @ea8 (fun F _ _ _ _ _=>by unfold ea8;(repeat' apply j5 (f:=F))<;>rfl) (by kernel_rfl)))
noncomputable def fb6 (x:V3×List V3):Option (b7×List b8):=let t1:=(xb6 (rt tV (x.1::x.2)));let t2:=(tb2 (hC tV (fun k=>(tV).row (gL tV (x.1::x.2) k)),tC tV (List.length x.2) (fun k=>(tV).row (gL tV (x.1::x.2) k))));let t3:=(lp (Xa3 (⟨(↑(List.length t2):Int)⟩:ia0)) (⟨0,0,(rt tV t2),(rt tV t2),[],0,[]⟩:F6));(sl (okE tV (x.1::x.2)) (sl (xb7 (rt tV (x.1::x.2))) (sl (t1 != 0) (some ((.tup [(.v (.slice none 0 0)),(i t1)]),[])) (sl (okL tV (List.length x.2+1) (fun k=>(tV).row (gL tV (x.1::x.2) k))) (sl (tb3 (hC tV (fun k=>(tV).row (gL tV (x.1::x.2) k)),tC tV (List.length x.2) (fun k=>(tV).row (gL tV (x.1::x.2) k)))) (sl ((cnE tV t2)&&((cnE tV t2)&&true)) (sl (Nat.beq t3.1 1) none (sl (Nat.beq t3.1 2) (sl (Bool.and (Nat.ble t3.2.y7 room) (Bool.and (Nat.ble t3.2.y7 (len t3.2.eh5)) (okS tP t3.2.eh5 0 t3.2.y7))) (some ((.tup [(.sl 0 0 t3.2.y7 0),(i 0)]),[⟨50,4,(app (bL tP (Ra8 (slR tP t3.2.eh5 0 t3.2.y7))) (g9 t3.2.eh5 t3.2.y7)),true,false,0⟩])) none) none)) none) none) none)) none) none)
noncomputable def yb1 (x:V3×List V3):List Pln×Int:=aa3 (two (r1L tP) r1I) (fb6 x)
noncomputable def yb2 (x:V3×List V3):Bool:=okO (two (r1L tP) r1I) (fb6 x)
noncomputable def bc3:Sum:=S5 (qd1 tV) (fun x=>.guard (yb2 x) (.ret ((two (r1L tP) r1I).enc (yb1 x),[])))
theorem vc1:g8 prog G 80 bc3:=Pa9 (bd b80 od5) (two (r1L tP) r1I) (o:=fb6) fun x=>ke6 (.s .p (.s .p (.s .p (.s .p (.s .p (.s (.s .p (.b (.i (.s .p (.b (.u Fb5.lsM)))))) .p)))))) [Fb5.prM] (by kernel_rfl) (.cons Zc0 .nil) (by kernel_rfl)
end Go.Ev.Ce
end
namespace Go.Ev.Ce
open Go Go.Ev Go.Ev.L Go.Proofs
theorem Me4 {p:Pln} (h:Bd p):Qa5 p=ia3 p:=by
 unfold Qa5 Oa3 ia3
 simp only
 have:=h.x1;have:=h.x2;have:=h.y1;have:=h.y2;have:=h.z1;have:=h.z2;have:=h.b1;have:=h.b2
 rw[na5 (by omega) (by omega),na5 (by omega) (by omega),na5 (by omega) (by omega),na5 (by omega) (by omega)]
 simp only[Int.zero_sub]
noncomputable def Ld3 (p:Pln):List b7:=[i p.n.x,i p.n.y,i p.n.z,i p.b,b true]
noncomputable def Mb1 (l:List Pln):List (List b7):=l.map Ld3
theorem Cd2 (x q:Pln):Ub8 flK [i x.n.x,i x.n.y,i x.n.z,i x.b] (Ld3 q)=eqP q x:=by
 show Bool.and (decide (x.n.x=q.n.x)) (Bool.and (decide (x.n.y=q.n.y)) (Bool.and (decide (x.n.z=q.n.z)) (Bool.and (decide (x.b=q.b)) true)))=_
 unfold eqP
 have h:∀ a c:Int,decide (a=c)=(c==a):=fun a c=>by rw[Bool.eq_iff_iff,decide_eq_true_eq,beq_iff_eq];exact eq_comm
 rw[h,h,h,h]
theorem Yd3 (x:Pln):∀ l,ab7 4 [(0,(.int .i64)),(1,(.int .i64)),(2,(.int .i64)),(3,(.int .i64))] [i x.n.x,i x.n.y,i x.n.z,i x.b] (Mb1 l)=Hc3 l x
 | []=>rfl
 | q::l=>by
  have ih:=Yd3 x l
  unfold ab7 at ih ⊢
  show Option.rec (motive:=fun _=>Bool) false (fun r=>toB (hdA (g9 r 4))) (Bool.rec (motive:=fun _=>Option (List b7)) (Ac5 flK [i x.n.x,i x.n.y,i x.n.z,i x.b] (Mb1 l)) (some (Ld3 q)) (Ub8 flK [i x.n.x,i x.n.y,i x.n.z,i x.b] (Ld3 q)))=Hc3 (q::l) x
  rw[Cd2]
  unfold Hc3 at ih ⊢
  rw[List.any_cons]
  cases eqP q x with
  | true=>rfl
  | false=>exact ih
theorem ge2 (x:Pln):∀ l,Hc3 l x=false→ia2 [(0,(.int .i64)),(1,(.int .i64)),(2,(.int .i64)),(3,(.int .i64))] [i x.n.x,i x.n.y,i x.n.z,i x.b] [i x.n.x,i x.n.y,i x.n.z,i x.b,b true] (Mb1 l)=Mb1 (l++[x])
 | [],_=>rfl
 | q::l,h=>by
  unfold Hc3 at h
  rw[List.any_cons,Bool.or_eq_false_iff] at h
  show Bool.rec (motive:=fun _=>List (List b7)) (Ld3 q::ia2 flK [i x.n.x,i x.n.y,i x.n.z,i x.b] (Ld3 x) (Mb1 l)) (Ld3 x::Mb1 l) (Ub8 flK [i x.n.x,i x.n.y,i x.n.z,i x.b] (Ld3 q))=_
  rw[Cd2,h.1,show ia2 flK [i x.n.x,i x.n.y,i x.n.z,i x.b] (Ld3 x) (Mb1 l)=_ from ge2 x l h.2]
  rfl
noncomputable def zc2 (s:List Pln) (p:Pln):List Pln:=if Hc3 s p then s else s++[p]
theorem Me5 (s:List Pln) (p q:Pln):q∈zc2 s p↔q∈s∨q=p:=by
 unfold zc2
 split
 ·rename_i h
  rw[Wd9] at h
  exact⟨.inl,fun h'=>h'.elim id fun e=>e ▸ h⟩
 ·rw[List.mem_append,List.mem_singleton]
theorem od6 {s:List Pln} {p:Pln} (h:s.Nodup):(zc2 s p).Nodup:=by
 unfold zc2
 split
 ·exact h
 ·rename_i hn
  rw[Wd9] at hn
  rw[List.nodup_append]
  exact⟨h,by simp,fun a ha b hb=>by rw[List.mem_singleton.1 hb];intro e;exact hn (e ▸ ha)⟩
theorem Yd4 (s:List Pln) (p:Pln):(zc2 s p).length≤s.length+1:=by
 unfold zc2
 split
 ·omega
 ·simp
def fil (l:List V3) (s:List Pln):List Pln:=s.filter fun p=>!bey l p
theorem bd4 (l:List V3) (s:List Pln) (p:Pln):fil l (s++[p])=if bey l p then fil l s else fil l s++[p]:=by
 unfold fil
 rw[List.filter_append,List.filter_cons,List.filter_nil]
 cases bey l p<;>simp
theorem oe4 (l:List V3) (s:List Pln):(fil l s).length≤s.length:=List.length_filter_le _ _
noncomputable def vc2 (l:List V3) (a c:Nat) (s:List Pln) (k:Nat):List Pln :=
 if (J8 (gL tV l k) (gL tV l c) (gL tV l a)).2 then zc2 (zc2 s (J8 (gL tV l k) (gL tV l c) (gL tV l a)).1) (ia3 (J8 (gL tV l k) (gL tV l c) (gL tV l a)).1) else s
noncomputable def G2 (l:List V3) (a:Nat) (s:List Pln) (c:Nat):List Pln:=(List.range c).foldl (vc2 l a c) s
noncomputable def G1 (l:List V3) (s:List Pln) (a:Nat):List Pln:=(List.range a).foldl (G2 l a) s
noncomputable def G0 (l:List V3):List Pln:=(List.range l.length).foldl (G1 l) []
theorem Cd3 (l:List V3) (a c:Nat) (s:List Pln) (k:Nat):(vc2 l a c s k).length≤s.length+2:=by
 unfold vc2
 split
 ·have h1:=Yd4 (zc2 s (J8 (gL tV l k) (gL tV l c) (gL tV l a)).1) (ia3 (J8 (gL tV l k) (gL tV l c) (gL tV l a)).1)
  have h2:=Yd4 s (J8 (gL tV l k) (gL tV l c) (gL tV l a)).1
  omega
 ·omega
theorem pf8 (l:List V3) (a:Nat) (s:List Pln) (c:Nat):(G2 l a s c).length≤s.length+2*c:=md1 (Cd3 l a c) s c
theorem ge3 (l:List V3) (a:Nat) (s:List Pln):∀ j,j≤a→a≤48→((List.range j).foldl (G2 l a) s).length≤s.length+96*j
 | 0,_,_=>Nat.le_refl _
 | j+1,h,ha=>by
  rw[E7]
  have h1:=ge3 l a s j (by omega) ha
  have h2:=pf8 l a ((List.range j).foldl (G2 l a) s) j
  omega
theorem ge4 (l:List V3) (hl:l.length≤48):∀ j,j≤l.length→((List.range j).foldl (G1 l) []).length≤5000*j
 | 0,_=>Nat.le_refl _
 | j+1,h=>by
  rw[E7]
  have h1:=ge4 l hl j (by omega)
  have h2:(G1 l ((List.range j).foldl (G1 l) []) j).length≤_:=ge3 l j ((List.range j).foldl (G1 l) []) j (Nat.le_refl _) (by omega)
  omega
@[reducible] noncomputable def mkf (l:List V3) (k:Nat) (s:List Pln):F5:=⟨phP (fil l s),(k:Int),Mb1 s,(fil l s).length,bL tP (fil l s)⟩
theorem Qc5 {n:Nat} {l:List Pln} (hn:n=l.length) (h:l.length≤1000000000):(Nat.beq n (len (bL tP l))&&Nat.ble ((n+1)*32) room)=true:=by
 subst hn
 rw[na4,Nat.beq_refl,Bool.true_and]
 exact Cc8 (by omega)
theorem oe5 (o:List Pln) (x:Pln):phP (o++[x])=1:=by cases o<;>rfl
theorem Me6 (l : List V3) (hl : l.length ≤ 48) (a c k : Nat) (ha : a < l.length) (hc : c < a) (hk : k < c) (x1 x2 x3 x4 : Int) (s : List Pln) (ho : s.length ≤ 900000) :
  aa5 ⟨(a:Int),(c:Int),x1,x2,x3,x4,(c:Int),l,l⟩ (mkf l k s)=.next (mkf l (k+1) (vc2 l a c s k)):=by
 have hfl:Qa5 (J8 (gL tV l k) (gL tV l c) (gL tV l a)).1=ia3 (J8 (gL tV l k) (gL tV l c) (gL tV l a)).1:=Me4 (Xe6 _ _ _)
 have hb:∀ p,ra2 l p=bey l p:=fun p=>Le6 l p (by omega)
 have hg:∀ p,P9 l p=true:=fun p=>Le7 l p (by omega)
 have hn:=q7 hk (show c≤4611686018427387904 by omega)
 have b1:inB (a:Int) l.length=true:=f8 ha
 have b2:inB (c:Int) l.length=true:=f8 (by omega)
 have b3:inB (k:Int) l.length=true:=f8 (by omega)
 have hfl2:=oe4 l s
 unfold vc2
 unfold mkf
 generalize hT:J8 (gL tV l k) (gL tV l c) (gL tV l a)=T at *
 cases hO:fil l s with
 | nil =>
  show ea4 Stp.next Stp.exit Stp.fail _ _=_
  simp only[ea4,bc2,zc1,Int.toNat_natCast,l6,sa1,hT,hfl,hb,hg,hn,b1,b2,b3,Yd3]
  rw[btD (m0 hk)]
  cases h2:T.2 with
  | false=>simp only[Bool.false_eq_true,if_false,hO];rfl
  | true =>
   simp only[if_true,w6]
   cases h3:Hc3 s T.1 with
   | true =>
    cases h4:Hc3 s (ia3 T.1) with
    | true=>simp only[zc2,h3,h4,if_true,hO];rfl
    | false =>
     rw[ge2 _ _ h4]
     cases h5:bey l (ia3 T.1)<;>(simp only[zc2,h3,h4,h5,if_true,if_false,Bool.false_eq_true,bd4,hO];rfl)
   | false =>
    simp only[ge2 _ _ h3,Yd3]
    cases h5:bey l T.1<;>cases h4:Hc3 (s++[T.1]) (ia3 T.1)<;>(try simp only[ge2 _ _ h4])<;>cases h6:bey l (ia3 T.1)<;>(simp only[zc2,h3,h4,h5,h6,if_true,if_false,Bool.false_eq_true,bd4,hO];rfl)
 | cons q o =>
  have rr:(Nat.beq (q::o).length (len (bL tP (q::o)))&&Nat.ble (((q::o).length+1)*32) room)=true:=Qc5 rfl (by rw[← hO];omega)
  have ap:∀ (O:List Pln) (p:Pln),app (bL tP O) [[i p.n.x,i p.n.y,i p.n.z,i p.b]]=bL tP (O++[p]):=fun O p=>Ma0 tP O [p]
  have rr2:∀ p:Pln,(Nat.beq ((q::o).length+1) (len (bL tP (q::o++[p])))&&Nat.ble (((q::o).length+1+1)*32) room)=true:=fun p=>Qc5 (by simp) (by rw[← hO,List.length_append,List.length_singleton];omega)
  show ea5 Stp.next Stp.exit Stp.fail _ _=_
  simp only[ea5,bc2,zc1,Int.toNat_natCast,l6,sa1,hT,hfl,hb,hg,hn,b1,b2,b3,Yd3,rr,ap,rr2]
  rw[btD (m0 hk)]
  cases h2:T.2 with
  | false=>simp only[Bool.false_eq_true,if_false,hO];rfl
  | true =>
   simp only[if_true,w6]
   cases h3:Hc3 s T.1 with
   | true =>
    cases h4:Hc3 s (ia3 T.1) with
    | true=>simp only[zc2,h3,h4,if_true,hO];rfl
    | false =>
     rw[ge2 _ _ h4]
     cases h5:bey l (ia3 T.1)<;>(simp only[zc2,h3,h4,h5,if_true,if_false,Bool.false_eq_true,bd4,hO,oe5,List.length_append,List.length_singleton];rfl)
   | false =>
    simp only[ge2 _ _ h3,Yd3]
    cases h5:bey l T.1<;>cases h4:Hc3 (s++[T.1]) (ia3 T.1)<;>(try simp only[ge2 _ _ h4])<;>cases h6:bey l (ia3 T.1)<;>(simp only[zc2,h3,h4,h5,h6,if_true,if_false,Bool.false_eq_true,bd4,hO,oe5,List.length_append,List.length_singleton];rfl)
theorem pf9 (l : List V3) (hl : l.length ≤ 48) (a c : Nat) (ha : a < l.length) (hc : c < a) (x1 x2 x3 x4 : Int) (s : List Pln) (ho : s.length ≤ 800000) :
  ∃ j,lp (aa5 ⟨(a:Int),(c:Int),x1,x2,x3,x4,(c:Int),l,l⟩) (mkf l 0 s)=(phP (fil l (G2 l a s c))+1,mkf l j (G2 l a s c)):=by
 have key:=ya6 (step:=aa5 ⟨(a:Int),(c:Int),x1,x2,x3,x4,(c:Int),l,l⟩) (mk:=mkf l) c (fun j o=>j≤c∧o=(List.range j).foldl (vc2 l a c) s) (fun t r=>t=phP (fil l (G2 l a s c))+1∧∃ j:Nat,r=mkf l j (G2 l a s c)) (by omega)
  (fun j o hj hi=>by
   obtain⟨_,hi⟩:=hi
   have hlen:o.length≤900000:=by
    rw[hi]
    have:=md1 (Cd3 l a c) s j
    omega
   rw[Me6 l hl a c j ha hc hj x1 x2 x3 x4 o hlen]
   exact .nx ⟨_,rfl,by omega,by rw[E7,← hi]⟩)
  (fun j o hj hi=>by
   obtain⟨h1,hi⟩:=hi
   have e:j=c:=by omega
   subst e
   have hF:o=G2 l a s j:=hi
   rw[← hF]
   refine⟨_,?_,rfl,j,rfl⟩
   unfold mkf
   cases hO:fil l o with
   | nil =>
    show ea4 Stp.next Stp.exit Stp.fail _ _=_
    simp only[ea4]
    rw[bfD (A7 (Nat.lt_irrefl _))]
    rfl
   | cons q o =>
    show ea5 Stp.next Stp.exit Stp.fail _ _=_
    simp only[ea5]
    rw[bfD (A7 (Nat.lt_irrefl _))]
    rfl) 0 s ⟨Nat.zero_le _,rfl⟩
 obtain⟨t,r,h1,rfl,j,rfl⟩:=key
 exact⟨j,h1⟩
@[reducible] noncomputable def od7 (l:List V3) (k:Nat) (s:List Pln):D3:=⟨phP (fil l s),(k:Int),l,l,Mb1 s,(fil l s).length,bL tP (fil l s)⟩
theorem qf0 (l : List V3) (hl : l.length ≤ 48) (a : Nat) (ha : a < l.length) (x1 x2 : Int) (s : List Pln) (ho : s.length ≤ 700000) :
  ∃ j,lp (ma3 ⟨(a:Int),x1,x2,(a:Int)⟩) (od7 l 0 s)=(phP (fil l (G1 l s a))+1,od7 l j (G1 l s a)):=by
 have key:=ya6 (step:=ma3 ⟨(a:Int),x1,x2,(a:Int)⟩) (mk:=od7 l) a (fun j o=>j≤a∧o=(List.range j).foldl (G2 l a) s) (fun t r=>t=phP (fil l (G1 l s a))+1∧∃ j:Nat,r=od7 l j (G1 l s a)) (by omega)
  (fun j o hj hi=>by
   obtain⟨hja,hi⟩:=hi
   have hlen:o.length≤800000:=by rw[hi];have:=ge3 l a s j hja (by omega);omega
   have hn:=q7 hj (show a≤4611686018427387904 by omega)
   have bj:inB (j:Int) (l.length+1)=true:=f8 (by omega)
   obtain⟨j',e1⟩:=pf9 l hl a j ha hj x1 x2 (a:Int) (j:Int) o hlen
   have fin : ∀ {r : D3}, r = od7 l (j + 1) (G2 l a o j) → Nx (.next r) (fun t => t = phP (fil l (G1 l s a)) + 1 ∧ ∃ j' : Nat, od7 l j o = od7 l j' (G1 l s a))
     (fun r=>∃ o',r=od7 l (j+1) o'∧(j+1≤a∧o'=(List.range (j+1)).foldl (G2 l a) s)):=fun {r} hs =>
    .nx ⟨_,hs,by omega,by rw[E7,← hi]⟩
   clear hi
   generalize hF:G2 l a o j=R at *
   unfold od7 at *
   unfold mkf at e1
   cases hO:fil l o with
   | nil =>
    rw[hO] at e1 fin
    show Nx (ea6 Stp.next Stp.exit Stp.fail _ _) _ _
    simp only[ea6,l6,j9,hn,bj,Int.toNat_natCast,Nat.sub_zero]
    have e1:lp (aa5 ⟨(a:Int),(j:Int),x1,x2,(a:Int),(j:Int),(j:Int),l,l⟩) ⟨0,0,Mb1 o,0,[]⟩=_:=e1
    rw[btD (m0 hj),e1]
    cases hR:fil l R with
    | nil=>exact fin (by rw[hR];rfl)
    | cons q R'=>exact fin (by rw[hR];rfl)
   | cons q o' =>
    rw[hO] at e1 fin
    show Nx (ea7 Stp.next Stp.exit Stp.fail _ _) _ _
    simp only[ea7,l6,j9,hn,bj,Int.toNat_natCast,Nat.sub_zero]
    have e1:lp (aa5 ⟨(a:Int),(j:Int),x1,x2,(a:Int),(j:Int),(j:Int),l,l⟩) ⟨1,0,Mb1 o,(q::o').length,bL tP (q::o')⟩=_:=e1
    rw[btD (m0 hj),e1]
    cases hR:fil l R with
    | nil=>exact fin (by rw[hR];rfl)
    | cons q R'=>exact fin (by rw[hR];rfl))
  (fun j o hj hi=>by
   obtain⟨h1,hi⟩:=hi
   have e:j=a:=by omega
   subst e
   have hF:o=G1 l s j:=hi
   rw[← hF]
   refine⟨_,?_,rfl,j,rfl⟩
   unfold od7
   cases hO:fil l o with
   | nil =>
    show ea6 Stp.next Stp.exit Stp.fail _ _=_
    simp only[ea6]
    rw[bfD (A7 (Nat.lt_irrefl _))]
    rfl
   | cons q o =>
    show ea7 Stp.next Stp.exit Stp.fail _ _=_
    simp only[ea7]
    rw[bfD (A7 (Nat.lt_irrefl _))]
    rfl) 0 s ⟨Nat.zero_le _,rfl⟩
 obtain⟨t,r,h1,rfl,j,rfl⟩:=key
 exact⟨j,h1⟩
@[reducible] noncomputable def Ld4 (l:List V3) (k:Nat) (s:List Pln):F6:=⟨phP (fil l s),(k:Int),l,l,Mb1 s,(fil l s).length,bL tP (fil l s)⟩
theorem qf1 (l : List V3) (hl : l.length ≤ 48) :
  ∃ j,lp (Xa3 ⟨(l.length:Int)⟩) ⟨0,0,l,l,[],0,[]⟩=(phP (fil l (G0 l))+1,Ld4 l j (G0 l)):=by
 have key:=ya6 (step:=Xa3 ⟨(l.length:Int)⟩) (mk:=Ld4 l) l.length (fun j o=>j≤l.length∧o=(List.range j).foldl (G1 l) []) (fun t r=>t=phP (fil l (G0 l))+1∧∃ j:Nat,r=Ld4 l j (G0 l)) (by omega)
  (fun j o hj hi=>by
   obtain⟨hja,hi⟩:=hi
   have hlen:o.length≤700000:=by rw[hi];have:=ge4 l hl j hja;omega
   have hn:=q7 hj (show l.length≤4611686018427387904 by omega)
   have bj:inB (j:Int) (l.length+1)=true:=f8 (by omega)
   obtain⟨j',e1⟩:=qf0 l hl j hj (l.length:Int) (j:Int) o hlen
   have fin : ∀ {r : F6}, r = Ld4 l (j + 1) (G1 l o j) → Nx (.next r) (fun t => t = phP (fil l (G0 l)) + 1 ∧ ∃ j' : Nat, Ld4 l j o = Ld4 l j' (G0 l))
     (fun r=>∃ o',r=Ld4 l (j+1) o'∧(j+1≤l.length∧o'=(List.range (j+1)).foldl (G1 l) [])):=fun {r} hs =>
    .nx ⟨_,hs,by omega,by rw[E7,← hi]⟩
   clear hi
   generalize hF:G1 l o j=R at *
   unfold Ld4 at *
   unfold od7 at e1
   cases hO:fil l o with
   | nil =>
    rw[hO] at e1 fin
    show Nx (ea8 Stp.next Stp.exit Stp.fail _ _) _ _
    simp only[ea8,l6,j9,hn,bj,Int.toNat_natCast,Nat.sub_zero]
    have e1:lp (ma3 ⟨(j:Int),(l.length:Int),(j:Int),(j:Int)⟩) ⟨0,0,l,l,Mb1 o,0,[]⟩=_:=e1
    rw[btD (m0 hj),e1]
    cases hR:fil l R with
    | nil=>exact fin (by rw[hR];rfl)
    | cons q R'=>exact fin (by rw[hR];rfl)
   | cons q o' =>
    rw[hO] at e1 fin
    show Nx (ea9 Stp.next Stp.exit Stp.fail _ _) _ _
    simp only[ea9,l6,j9,hn,bj,Int.toNat_natCast,Nat.sub_zero]
    have e1:lp (ma3 ⟨(j:Int),(l.length:Int),(j:Int),(j:Int)⟩) ⟨1,0,l,l,Mb1 o,(q::o').length,bL tP (q::o')⟩=_:=e1
    rw[btD (m0 hj),e1]
    cases hR:fil l R with
    | nil=>exact fin (by rw[hR];rfl)
    | cons q R'=>exact fin (by rw[hR];rfl))
  (fun j o hj hi=>by
   obtain⟨h1,hi⟩:=hi
   have e:j=l.length:=by omega
   subst e
   have hF:o=G0 l:=hi
   rw[← hF]
   refine⟨_,?_,rfl,l.length,rfl⟩
   unfold Ld4
   cases hO:fil l o with
   | nil =>
    show ea8 Stp.next Stp.exit Stp.fail _ _=_
    simp only[ea8]
    rw[bfD (A7 (Nat.lt_irrefl _))]
    rfl
   | cons q o =>
    show ea9 Stp.next Stp.exit Stp.fail _ _=_
    simp only[ea9]
    rw[bfD (A7 (Nat.lt_irrefl _))]
    rfl) 0 [] ⟨Nat.zero_le _,rfl⟩
 obtain⟨t,r,h1,rfl,j,rfl⟩:=key
 exact⟨j,h1⟩
end Go.Ev.Ce
