/- Own work: a part of the proof. -/
import Derived.Test.YtekgjjgbdcgldaaGreatEvODH
import Derived.Test.YtekgjjgbdcgldaaGreatEvSp2
set_option linter.unusedVariables false
set_option linter.unusedSimpArgs false
set_option linter.unnecessarySimpa false
set_option linter.unusedSectionVars false
section
namespace Go.Ev.Ce
open Go Go.Ev Go.Ev.L Go.Proofs
set_option maxRecDepth 100000
noncomputable def hd6:List (Nat×Sum):=[(186,Va7)]
theorem Tc1:i7 prog G hd6:=⟨sb8,trivial⟩
noncomputable def Ka1 (x:V3):Option (b7×List b8):=let t1:=(Y2 [x.x,x.y,x.z]);(sl (Y3 [x.x,x.y,x.z]) (sl (t1==0) (some ((.tup [(.agg [(i 0),(i 0),(i 0)]),(i 0)]),[])) (sl (t1==0) none (sl (t1==0) none (sl (t1==0) none (some ((.tup [(.agg [(i (W (Int.tdiv x.x t1))),(i (W (Int.tdiv x.y t1))),(i (W (Int.tdiv x.z t1)))]),(i t1)]),[])))))) none)
noncomputable def xa7 (x:V3):V3×Int:=C9 (two r1V r1I) (Ka1 x)
noncomputable def Za0 (x:V3):Bool:=okO (two r1V r1I) (Ka1 x)
noncomputable def gc6:Sum:=Q5 (B0 tV) (fun x=>.guard (Za0 x) (.ret ((two r1V r1I).enc (xa7 x),[])))
theorem hd7:g8 prog G 198 gc6:=ya9 (bd Ff1 Tc1) (two r1V r1I) (o:=Ka1) fun x=>p5 (by kernel_rfl)
noncomputable def pc9:List (Nat×Sum):=[(85,yb4),(108,Jb1),(142,nb9),(198,gc6),(83,Sa9)]
theorem gc7:i7 prog G pc9:=⟨Ib4,gc4,Ib1,hd7,Ya8,trivial⟩
noncomputable def oa0 (x:V3) (y:V3) (z:V3):Option (b7×List b8):=let t1:=(ta8 x);let t2:=(ta8 y);let t3:=(ta8 z);let t4:=(ua9 y x);let t5:=(ua9 z x);let t6:=(ba0 t4 t5);let t7:=(xa7 t6);let t8:=(y8 t7.1 x);(sl (ta9 x) (sl (!t1) (some ((.tup [(.agg [(i 0),(i 0),(i 0),(i 0)]),(b false)]),[])) (sl (ta9 y) (sl (!t2) (some ((.tup [(.agg [(i 0),(i 0),(i 0),(i 0)]),(b false)]),[])) (sl (ta9 z) (sl (!t3) (some ((.tup [(.agg [(i 0),(i 0),(i 0),(i 0)]),(b false)]),[])) (sl (Za0 t6) (some ((.tup [(.agg [(i t7.1.x),(i t7.1.y),(i t7.1.z),(i t8)]),(b (decide (t7.2 > 0)))]),[])) none)) none)) none)) none)
noncomputable def F8 (x:V3) (y:V3) (z:V3):Pln×Bool:=C9 (two r1P r1B) (oa0 x y z)
noncomputable def ea4 (x:V3) (y:V3) (z:V3):Bool:=okO (two r1P r1B) (oa0 x y z)
noncomputable def Wa0:Sum:=Nc5 (B0 tV) (B0 tV) (B0 tV) (fun x y z=>.guard (ea4 x y z) (.ret ((two r1P r1B).enc (F8 x y z),[])))
theorem tb2:g8 prog G 177 Wa0:=Me8 (bd Ef0 gc7) (two r1P r1B) (o:=oa0) fun x y z=>p5 (by kernel_rfl)
noncomputable def hd8:List (Nat×Sum):=[(140,ob0),(85,yb4),(83,Sa9),(141,ob1)]
theorem Tc2:i7 prog G hd8:=⟨Ib2,Ib4,Ya8,Ib3,trivial⟩
noncomputable def Ka2 (x:Pln) (y:V3):Option (b7×List b8):=let t1:=(Aa2 x);let t2:=(ta8 y);let t3:=(y8 x.n y);let t4:=(ba1 t3 x.b);(sl (Aa3 x) (sl (!t1) (some ((i 0),[])) (sl (ta9 y) (sl (!t2) (some ((i 0),[])) (sl (ba2 t3 x.b) (some ((i t4),[])) none)) none)) none)
noncomputable def la5 (x:Pln) (y:V3):Int:=C9 (one r1I) (Ka2 x y)
noncomputable def la6 (x:Pln) (y:V3):Bool:=okO (one r1I) (Ka2 x y)
noncomputable def Za1:Sum:=Z9 (B0 tP) (B0 tV) (fun x y=>.guard (la6 x y) (.ret ((one r1I).enc (la5 x y),[])))
theorem pb1:g8 prog G 88 Za1:=Ia3 (bd b88 Tc2) (one r1I) (o:=Ka2) fun x y=>p5 (by kernel_rfl)
structure Ra0 where
 O8:Int
 O9:Int
 P0:Int
 c9:Int
 c7:Int
 d7:Int
 g7:Int
noncomputable def Tc3:List (Nat×Sum):=[(88,Za1)]
theorem Cc5:i7 prog G Tc3:=⟨pb1,trivial⟩
structure Ra1 where
 alt:Nat
 bs0:Bool
noncomputable def qa3 {α:Type} (kk:Ra1→α) (x:Ra0):α:=let t1:=(la5 (⟨(⟨x.c9,x.c7,x.d7⟩:V3),x.g7⟩:Pln) (⟨x.O8,x.O9,x.P0⟩:V3));(sl (la6 (⟨(⟨x.c9,x.c7,x.d7⟩:V3),x.g7⟩:Pln) (⟨x.O8,x.O9,x.P0⟩:V3)) (kk ⟨1,(t1 != 0)⟩) (kk ⟨0,false⟩))
noncomputable def Ra2 (x:Ra0):Ra1:=qa3 (fun r=>r) x
noncomputable def fb5 (x:Ra0) (r:Ra1):DT (b7×List b8):=(.ite (Nat.beq r.alt 1) (.ret ((b r.bs0),[⟨0,4,[[(i x.c9),(i x.c7),(i x.d7),(i x.g7)]],true,false,0⟩])) .fail)
theorem hd9 {α β:Type} (F:α→β) (kk:Ra1→α) (x:Ra0):F (qa3 kk x)=qa3 (fun r=>F (kk r)) x:=by unfold qa3;(repeat' apply k9 (f:=F))<;>rfl
noncomputable def Sb3:Sum:=nb6 ⟨[(.agg [(.o (.int .i64)),(.o (.int .i64)),(.o (.int .i64))]),(.s (.o (.ptr 0 0 0 0)))],[⟨0,4,true,(some [[(.o (.int .i64)),(.o (.int .i64)),(.o (.int .i64)),(.o (.int .i64))]])⟩],fun a H=>(⟨(toI (slT (cellsOf (slT a 0)) 0)),(toI (slT (cellsOf (slT a 0)) 1)),(toI (slT (cellsOf (slT a 0)) 2)),(toI (slT (rwT (elT H 0) 0) 0)),(toI (slT (rwT (elT H 0) 0) 1)),(toI (slT (rwT (elT H 0) 0) 2)),(toI (slT (rwT (elT H 0) 0) 3))⟩,())⟩ (fun x=>fb5 x (Ra2 x))
theorem Tc4:g8 prog G 197 Sb3:=V5 (enc:=fun x=>⟨[(.agg [(i x.O8),(i x.O9),(i x.P0)]),(.ptr 0 0 0 0)],[⟨0,4,[[(i x.c9),(i x.c7),(i x.d7),(i x.g7)]],true,false,0⟩]⟩) (fun a H=>by kernel_rfl) (bd Ff0 Cc5) fun x=>p5 (Eq.trans (b:=qa3 (fun r=>(fb5 x r).run) x) (by kernel_rfl) (hd9 (fun r=>(fb5 x r).run) (fun r=>r) x).symm)
structure V7 where
 d9:List V3
 c9:Int
 c7:Int
 d7:Int
 g7:Int
noncomputable def Ba2:List (Nat×Sum):=[(197,Sb3)]
theorem jb4:i7 prog G Ba2:=⟨Tc4,trivial⟩
structure H6 where
 d9:List V3
 is7:Int
 c9:Int
 c7:Int
 d7:Int
 g7:Int
structure o1 where
 is8:Int
noncomputable def fb6 (p:H6) (s:o1):St:=⟨((eL tV p.d9)::((.fn 197 [(.ptr 0 0 0 0)])::(ra 5 ((i p.is7)::((i s.is8)::(ra 10 [])))))),[⟨0,4,[[(i p.c9),(i p.c7),(i p.d7),(i p.g7)]],true,false,0⟩]⟩
noncomputable def D1 {α:Type} (k:o1→α) (e:Nat→α) (z:α) (p:H6) (s:o1):α:=let t1:=(Ra2 ⟨(gL tV p.d9 s.is8.toNat).x,(gL tV p.d9 s.is8.toNat).y,(gL tV p.d9 s.is8.toNat).z,p.c9,p.c7,p.d7,p.g7⟩);(sl (decide (s.is8 < p.is7)) (sl (inB s.is8 (List.length p.d9)) (sl (Nat.beq t1.alt 1) (sl t1.bs0 (e 1) (k ⟨(W (s.is8+1))⟩)) z) z) (e 2))
noncomputable def E4 (p:H6) (s:o1):Stp o1:=D1 .next .exit .fail p s
noncomputable def da5:Lo H6 o1:=⟨En Ba2,1,Ld0,[1,0,1,4,4],[0,1,7,8],.p,[⟨((.s (.c 3 (nL tV)))::((.fn 197 [(.o (.ptr 0 0 0 0))])::(ru2 5 ((.s (.o (.int .i64)))::((.s (.o (.int .i64)))::(ru2 10 [])))))),[⟨0,4,true,(some [[(.o (.int .i64)),(.o (.int .i64)),(.o (.int .i64)),(.o (.int .i64))]])⟩],fun a H=>(⟨(rL tV (slT a 0)),(toI (slT a 7)),(toI (slT (rwT (elT H 0) 0) 0)),(toI (slT (rwT (elT H 0) 0) 1)),(toI (slT (rwT (elT H 0) 0) 2)),(toI (slT (rwT (elT H 0) 0) 3))⟩,⟨(toI (slT a 8))⟩)⟩],E4,[(none,fun p s=>⟨[(i s.is8)],[⟨0,4,[[(i p.c9),(i p.c7),(i p.d7),(i p.g7)]],true,false,0⟩]⟩),(some 0,fun p s=>⟨((eL tV p.d9)::((.fn 197 [(.ptr 0 0 0 0)])::(ra 5 ((i p.is7)::((i s.is8)::((b (decide (s.is8 < p.is7)))::(ra 9 []))))))),[⟨0,4,[[(i p.c9),(i p.c7),(i p.d7),(i p.g7)]],true,false,0⟩]⟩)],fb6⟩
theorem fb7:da5.Ok:=Lo.ok [] (by kernel_rfl) .nil rfl (.cons (fun a H=>by kernel_rfl) .nil) fun p s=>(.of @D1 (fun F _ _ _ _ _=>by unfold D1;(repeat' apply k9 (f:=F))<;>rfl) (by kernel_rfl))
structure V8 where
 alt:Nat
 is0:Int
noncomputable def D8 {α:Type} (kk:V8→α) (x:V7):α:=let t1:=(lp (E4 (⟨(rt tV x.d9),(↑(List.length x.d9):Int),x.c9,x.c7,x.d7,x.g7⟩:H6)) (⟨0⟩:o1));(sl ((cnE tV x.d9)&&true) (sl (Nat.beq t1.1 1) (kk ⟨1,t1.2.is8⟩) (sl (Nat.beq t1.1 2) (kk ⟨1,(-1)⟩) (kk ⟨0,0⟩))) (kk ⟨0,0⟩))
noncomputable def V9 (x:V7):V8:=D8 (fun r=>r) x
noncomputable def ia3 (x:V7) (r:V8):DT (b7×List b8):=(.ite (Nat.beq r.alt 1) (.ret ((i r.is0),[⟨0,4,[[(i x.c9),(i x.c7),(i x.d7),(i x.g7)]],true,false,0⟩])) .fail)
theorem tb3 {α β:Type} (F:α→β) (kk:V8→α) (x:V7):F (D8 kk x)=D8 (fun r=>F (kk r)) x:=by unfold D8;(repeat' apply k9 (f:=F))<;>rfl
noncomputable def Ga5:Sum:=nb6 ⟨[(.s (.c 3 (nL tV))),(.fn 197 [(.o (.ptr 0 0 0 0))])],[⟨0,4,true,(some [[(.o (.int .i64)),(.o (.int .i64)),(.o (.int .i64)),(.o (.int .i64))]])⟩],fun a H=>(⟨(rL tV (slT a 0)),(toI (slT (rwT (elT H 0) 0) 0)),(toI (slT (rwT (elT H 0) 0) 1)),(toI (slT (rwT (elT H 0) 0) 2)),(toI (slT (rwT (elT H 0) 0) 3))⟩,())⟩ (fun x=>ia3 x (V9 x))
theorem pb2:g8 prog G 144 Ga5:=V5 (enc:=fun x=>⟨[(eL tV x.d9),(.fn 197 [(.ptr 0 0 0 0)])],[⟨0,4,[[(i x.c9),(i x.c7),(i x.d7),(i x.g7)]],true,false,0⟩]⟩) (fun a H=>by kernel_rfl) (bd Oe9 jb4) fun x=>sa8 (.s .p (.s (.s .p (.b (.u da5.ls))) .p)) [da5.pr] (by kernel_rfl) (.cons fb7 .nil) (Eq.trans (b:=D8 (fun r=>(ia3 x r).run) x) (by kernel_rfl) (tb3 (fun r=>(ia3 x r).run) (fun r=>r) x).symm)
structure N1 where
 d9:List V3
 c9:Int
 c7:Int
 d7:Int
 g7:Int
noncomputable def Za2:List (Nat×Sum):=[(144,Ga5)]
theorem Wa1:i7 prog G Za2:=⟨pb2,trivial⟩
structure N2 where
 alt:Nat
 bs0:Bool
noncomputable def z8 {α:Type} (kk:N2→α) (x:N1):α:=let t1:=(V9 ⟨(rt tV x.d9),x.c9,x.c7,x.d7,x.g7⟩);(sl ((cnE tV x.d9)&&true) (sl (Nat.beq t1.alt 1) (kk ⟨1,(decide (t1.is0≥0))⟩) (kk ⟨0,false⟩)) (kk ⟨0,false⟩))
noncomputable def o8 (x:N1):N2:=z8 (fun r=>r) x
noncomputable def aa4 (x:N1) (r:N2):DT (b7×List b8):=(.ite (Nat.beq r.alt 1) (.ret ((b r.bs0),[⟨0,4,[[(i x.c9),(i x.c7),(i x.d7),(i x.g7)]],true,false,0⟩])) .fail)
theorem fb8 {α β:Type} (F:α→β) (kk:N2→α) (x:N1):F (z8 kk x)=z8 (fun r=>F (kk r)) x:=by unfold z8;(repeat' apply k9 (f:=F))<;>rfl
noncomputable def va0:Sum:=nb6 ⟨[(.s (.c 3 (nL tV))),(.fn 197 [(.o (.ptr 0 0 0 0))])],[⟨0,4,true,(some [[(.o (.int .i64)),(.o (.int .i64)),(.o (.int .i64)),(.o (.int .i64))]])⟩],fun a H=>(⟨(rL tV (slT a 0)),(toI (slT (rwT (elT H 0) 0) 0)),(toI (slT (rwT (elT H 0) 0) 1)),(toI (slT (rwT (elT H 0) 0) 2)),(toI (slT (rwT (elT H 0) 0) 3))⟩,())⟩ (fun x=>aa4 x (o8 x))
theorem Za3:g8 prog G 174 va0:=V5 (enc:=fun x=>⟨[(eL tV x.d9),(.fn 197 [(.ptr 0 0 0 0)])],[⟨0,4,[[(i x.c9),(i x.c7),(i x.d7),(i x.g7)]],true,false,0⟩]⟩) (fun a H=>by kernel_rfl) (bd gf1 Wa1) fun x=>p5 (Eq.trans (b:=z8 (fun r=>(aa4 x r).run) x) (by kernel_rfl) (fb8 (fun r=>(aa4 x r).run) (fun r=>r) x).symm)
noncomputable def Bb9:List (Nat×Sum):=[]
theorem qc0:i7 prog G Bb9:=trivial
@[reducible] noncomputable def va1:Sum:=i9 (En Bb9) Ye7
theorem Da2:g8 prog G 119 va1:=bd Af8 qc0
noncomputable def Za4:List (Nat×Sum):=[(177,Wa0),(174,va0),(119,va1)]
theorem id1:i7 prog G Za4:=⟨tb2,Za3,Da2,trivial⟩
structure ba4 where
 is3:Int
 is4:Int
 is9:Int
 r8:Int
 T0:Int
 n7:Int
 Ca5:Int
 b9:List V3
 e8:List V3
structure F9 where
 A5:Int
noncomputable def Tc5 (p:ba4) (s:F9):St:=⟨(.unk::((.ptr 0 0 0 0)::(.unk::((i p.is3)::((i p.is4)::(ra 4 ((i p.is9)::((i p.r8)::(ra 5 ((i p.T0)::((i p.n7)::(ra 5 ((i p.Ca5)::((i s.A5)::(ra 35 ((i 0)::(.unk::((.ptr 1 0 0 0)::((.ptr 2 0 0 0)::(ra 8 [])))))))))))))))))))),[⟨0,1,[[(eL tV p.b9)]],true,false,0⟩,⟨0,1,[[(eL tV p.e8)]],true,false,0⟩,⟨0,1,[[(b false)]],true,false,0⟩]⟩
noncomputable def oa1 {α:Type} (k:F9→α) (e:Nat→α) (z:α) (p:ba4) (s:F9):α:=let t1:=(F8 (gL tV p.b9 s.A5.toNat) (gL tV p.b9 p.is4.toNat) (gL tV p.b9 p.is3.toNat));let t2:=(o8 ⟨(rt tV p.e8),t1.1.n.x,t1.1.n.y,t1.1.n.z,t1.1.b⟩);(sl (decide (s.A5 < p.Ca5)) (sl (inB s.A5 (List.length p.b9)) (sl (inB p.is4 (List.length p.b9)) (sl (inB p.is3 (List.length p.b9)) (sl (ea4 (gL tV p.b9 s.A5.toNat) (gL tV p.b9 p.is4.toNat) (gL tV p.b9 p.is3.toNat)) (sl t1.2 (sl t1.2 (sl ((cnE tV p.e8)&&true) (sl (Nat.beq t2.alt 1) (e 1) z) z) (k ⟨(W (s.A5+1))⟩)) (sl t1.2 z (k ⟨(W (s.A5+1))⟩))) z) z) z) z) (e 2))
noncomputable def N4 (p:ba4) (s:F9):Stp F9:=oa1 .next .exit .fail p s
noncomputable def pb3:Lo ba4 F9:=⟨En Za4,0,ge2,[1,0,1,4,4,1,4,4,1,1,0,4,1,1,4,4,1,1,0,4,1,1,4,4],[1,3,4,9,10,16,17,23,24,60,62,63],.p,[⟨((.s (.o .unk))::((.s (.o (.ptr 0 0 0 0)))::((.s (.o .unk))::((.s (.o (.int .i64)))::((.s (.o (.int .i64)))::(ru2 4 ((.s (.o (.int .i64)))::((.s (.o (.int .i64)))::(ru2 5 ((.s (.o (.int .i64)))::((.s (.o (.int .i64)))::(ru2 5 ((.s (.o (.int .i64)))::((.s (.o (.int .i64)))::(ru2 35 ((.s (.o (.lit .i64 0)))::((.s (.o .unk))::((.s (.o (.ptr 1 0 0 0)))::((.s (.o (.ptr 2 0 0 0)))::(ru2 8 [])))))))))))))))))))),[⟨0,1,true,(some [[(.c 3 (nL tV))]])⟩,⟨0,1,true,(some [[(.c 3 (nL tV))]])⟩,⟨0,1,true,(some [[(.o (.blit false))]])⟩],fun a H=>(⟨(toI (slT a 3)),(toI (slT a 4)),(toI (slT a 9)),(toI (slT a 10)),(toI (slT a 16)),(toI (slT a 17)),(toI (slT a 23)),(rL tV (slT (rwT (elT H 0) 0) 0)),(rL tV (slT (rwT (elT H 1) 0) 0))⟩,⟨(toI (slT a 24))⟩)⟩],N4,[(none,fun p s=>let t1:=(F8 (gL tV p.b9 s.A5.toNat) (gL tV p.b9 p.is4.toNat) (gL tV p.b9 p.is3.toNat));let t2:=(o8 ⟨(rt tV p.e8),t1.1.n.x,t1.1.n.y,t1.1.n.z,t1.1.b⟩);⟨(.unk::((.ptr 0 0 0 0)::(.unk::((i p.is3)::((i p.is4)::((i s.A5)::((.ptr 3 0 0 0)::((b t1.2)::(.unk::((i p.is9)::((i p.r8)::(ra 5 ((i p.T0)::((i p.n7)::(ra 5 ((i p.Ca5)::((i s.A5)::((b (decide (s.A5 < p.Ca5)))::((i s.A5)::((.tup [(.agg [(i t1.1.n.x),(i t1.1.n.y),(i t1.1.n.z),(i t1.1.b)]),(b t1.2)])::((eL tV p.b9)::((i s.A5)::((.tptr [(i (gL tV p.b9 s.A5.toNat).x),(i (gL tV p.b9 s.A5.toNat).y),(i (gL tV p.b9 s.A5.toNat).z)])::((.agg [(i (gL tV p.b9 s.A5.toNat).x),(i (gL tV p.b9 s.A5.toNat).y),(i (gL tV p.b9 s.A5.toNat).z)])::((eL tV p.b9)::((i p.is4)::((.tptr [(i (gL tV p.b9 p.is4.toNat).x),(i (gL tV p.b9 p.is4.toNat).y),(i (gL tV p.b9 p.is4.toNat).z)])::((.agg [(i (gL tV p.b9 p.is4.toNat).x),(i (gL tV p.b9 p.is4.toNat).y),(i (gL tV p.b9 p.is4.toNat).z)])::((eL tV p.b9)::((i p.is3)::((.tptr [(i (gL tV p.b9 p.is3.toNat).x),(i (gL tV p.b9 p.is3.toNat).y),(i (gL tV p.b9 p.is3.toNat).z)])::((.agg [(i (gL tV p.b9 p.is3.toNat).x),(i (gL tV p.b9 p.is3.toNat).y),(i (gL tV p.b9 p.is3.toNat).z)])::((.tup [(.agg [(i t1.1.n.x),(i t1.1.n.y),(i t1.1.n.z),(i t1.1.b)]),(b t1.2)])::((.agg [(i t1.1.n.x),(i t1.1.n.y),(i t1.1.n.z),(i t1.1.b)])::((b t1.2)::((b t1.2)::((b true)::(.unk::((.agg [(i t1.1.n.x),(i t1.1.n.y),(i t1.1.n.z),(i t1.1.b)])::((b false)::((b true)::((b true)::(.unk::(u::(u::(u::(u::((b true)::((b true)::(ra 3 ((i 1)::(.unk::((.ptr 1 0 0 0)::((.ptr 2 0 0 0)::(ra 8 []))))))))))))))))))))))))))))))))))))))))))))))))))))))),[⟨0,1,[[(eL tV p.b9)]],true,false,0⟩,⟨0,1,[[(eL tV p.e8)]],true,false,0⟩,⟨0,1,[[(b (!t2.bs0))]],true,false,0⟩,⟨0,4,[[(i t1.1.n.x),(i t1.1.n.y),(i t1.1.n.z),(i t1.1.b)]],true,false,0⟩,⟨0,4,[[(i t1.1.n.x),(i t1.1.n.y),(i t1.1.n.z),(i t1.1.b)]],true,false,0⟩]⟩),(some 4,fun p s=>⟨(.unk::((.ptr 0 0 0 0)::(.unk::((i p.is3)::((i p.is4)::(ra 4 ((i p.is9)::((i p.r8)::(ra 5 ((i p.T0)::((i p.n7)::(ra 5 ((i p.Ca5)::((i s.A5)::((b (decide (s.A5 < p.Ca5)))::(ra 34 ((i 0)::(.unk::((.ptr 1 0 0 0)::((.ptr 2 0 0 0)::(ra 8 []))))))))))))))))))))),[⟨0,1,[[(eL tV p.b9)]],true,false,0⟩,⟨0,1,[[(eL tV p.e8)]],true,false,0⟩,⟨0,1,[[(b false)]],true,false,0⟩]⟩)],Tc5⟩
theorem Tc6:pb3.OkM:=Lo.okM [] (by kernel_rfl) .nil rfl (.cons (fun a H=>by kernel_rfl) .nil) fun p s=>(.of @oa1 (fun F _ _ _ _ _=>by unfold oa1;(repeat' apply k9 (f:=F))<;>rfl) (by kernel_rfl))
structure ia4 where
 is3:Int
 is9:Int
 r8:Int
 T0:Int
structure J6 where
 n7:Int
 b9:List V3
 e8:List V3
noncomputable def Tc7 (p:ia4) (s:J6):St:=⟨(.unk::((.ptr 0 0 0 0)::(.unk::((i p.is3)::(ra 5 ((i p.is9)::((i p.r8)::(ra 5 ((i p.T0)::((i s.n7)::(ra 42 ((i 0)::(.unk::((.ptr 1 0 0 0)::((.ptr 2 0 0 0)::(ra 8 [])))))))))))))))),[⟨0,1,[[(eL tV s.b9)]],true,false,0⟩,⟨0,1,[[(eL tV s.e8)]],true,false,0⟩,⟨0,1,[[(b false)]],true,false,0⟩]⟩
noncomputable def oa2 {α:Type} (k:J6→α) (e:Nat→α) (z:α) (p:ia4) (s:J6):α:=let t1:=(lp (N4 (⟨p.is3,s.n7,p.is9,p.r8,p.T0,s.n7,(↑(s.n7.toNat - 0):Int),(rt tV s.b9),(rt tV s.e8)⟩:ba4)) (⟨0⟩:F9));(sl (decide (s.n7 < p.T0)) (sl (inB s.n7 ((List.length s.b9)+1)) (sl ((cnE tV s.b9)&&((cnE tV s.e8)&&true)) (sl (Nat.beq t1.1 1) (e 1) (sl (Nat.beq t1.1 2) (k ⟨(W (s.n7+1)),(rt tV s.b9),(rt tV s.e8)⟩) z)) z) z) (e 2))
noncomputable def U6 (p:ia4) (s:J6):Stp J6:=oa2 .next .exit .fail p s
noncomputable def pb4:Lo ia4 J6:=⟨En Za4,0,ge2,[1,0,1,4,4,1,4,4,1,1,0,4,1,1,4,4],[1,3,9,10,16,17,60,62,63],(.s .p (.s .p (.s (.b (.s .p (.s .p (.b (.u pb3.lsM))))) .p))),[⟨((.s (.o .unk))::((.s (.o (.ptr 0 0 0 0)))::((.s (.o .unk))::((.s (.o (.int .i64)))::(ru2 5 ((.s (.o (.int .i64)))::((.s (.o (.int .i64)))::(ru2 5 ((.s (.o (.int .i64)))::((.s (.o (.int .i64)))::(ru2 42 ((.s (.o (.lit .i64 0)))::((.s (.o .unk))::((.s (.o (.ptr 1 0 0 0)))::((.s (.o (.ptr 2 0 0 0)))::(ru2 8 [])))))))))))))))),[⟨0,1,true,(some [[(.c 3 (nL tV))]])⟩,⟨0,1,true,(some [[(.c 3 (nL tV))]])⟩,⟨0,1,true,(some [[(.o (.blit false))]])⟩],fun a H=>(⟨(toI (slT a 3)),(toI (slT a 9)),(toI (slT a 10)),(toI (slT a 16))⟩,⟨(toI (slT a 17)),(rL tV (slT (rwT (elT H 0) 0) 0)),(rL tV (slT (rwT (elT H 1) 0) 0))⟩)⟩],U6,[(none,fun p s=>let t1:=(lp (N4 (⟨p.is3,s.n7,p.is9,p.r8,p.T0,s.n7,(↑(s.n7.toNat - 0):Int),(rt tV s.b9),(rt tV s.e8)⟩:ba4)) (⟨0⟩:F9));let t2:=(F8 (gL tV (rt tV s.b9) t1.2.A5.toNat) (gL tV (rt tV s.b9) s.n7.toNat) (gL tV (rt tV s.b9) p.is3.toNat));let t3:=(o8 ⟨(rt tV (rt tV s.e8)),t2.1.n.x,t2.1.n.y,t2.1.n.z,t2.1.b⟩);⟨(.unk::((.ptr 0 0 0 0)::(.unk::((i p.is3)::((i s.n7)::((i t1.2.A5)::((.ptr 3 0 0 0)::((b t2.2)::(.unk::((i p.is9)::((i p.r8)::(ra 5 ((i p.T0)::((i s.n7)::(ra 5 ((i (↑(s.n7.toNat - 0):Int))::((i t1.2.A5)::((b (decide (t1.2.A5 < (↑(s.n7.toNat - 0):Int))))::((i t1.2.A5)::((.tup [(.agg [(i t2.1.n.x),(i t2.1.n.y),(i t2.1.n.z),(i t2.1.b)]),(b t2.2)])::((eL tV (rt tV s.b9))::((i t1.2.A5)::((.tptr [(i (gL tV (rt tV s.b9) t1.2.A5.toNat).x),(i (gL tV (rt tV s.b9) t1.2.A5.toNat).y),(i (gL tV (rt tV s.b9) t1.2.A5.toNat).z)])::((.agg [(i (gL tV (rt tV s.b9) t1.2.A5.toNat).x),(i (gL tV (rt tV s.b9) t1.2.A5.toNat).y),(i (gL tV (rt tV s.b9) t1.2.A5.toNat).z)])::((eL tV (rt tV s.b9))::((i s.n7)::((.tptr [(i (gL tV (rt tV s.b9) s.n7.toNat).x),(i (gL tV (rt tV s.b9) s.n7.toNat).y),(i (gL tV (rt tV s.b9) s.n7.toNat).z)])::((.agg [(i (gL tV (rt tV s.b9) s.n7.toNat).x),(i (gL tV (rt tV s.b9) s.n7.toNat).y),(i (gL tV (rt tV s.b9) s.n7.toNat).z)])::((eL tV (rt tV s.b9))::((i p.is3)::((.tptr [(i (gL tV (rt tV s.b9) p.is3.toNat).x),(i (gL tV (rt tV s.b9) p.is3.toNat).y),(i (gL tV (rt tV s.b9) p.is3.toNat).z)])::((.agg [(i (gL tV (rt tV s.b9) p.is3.toNat).x),(i (gL tV (rt tV s.b9) p.is3.toNat).y),(i (gL tV (rt tV s.b9) p.is3.toNat).z)])::((.tup [(.agg [(i t2.1.n.x),(i t2.1.n.y),(i t2.1.n.z),(i t2.1.b)]),(b t2.2)])::((.agg [(i t2.1.n.x),(i t2.1.n.y),(i t2.1.n.z),(i t2.1.b)])::((b t2.2)::((b t2.2)::((b true)::(.unk::((.agg [(i t2.1.n.x),(i t2.1.n.y),(i t2.1.n.z),(i t2.1.b)])::((b false)::((b true)::((b true)::(.unk::(u::(u::(u::(u::((b true)::((b true)::(ra 3 ((i 1)::(.unk::((.ptr 1 0 0 0)::((.ptr 2 0 0 0)::(ra 8 []))))))))))))))))))))))))))))))))))))))))))))))))))))))),[⟨0,1,[[(eL tV (rt tV s.b9))]],true,false,0⟩,⟨0,1,[[(eL tV (rt tV s.e8))]],true,false,0⟩,⟨0,1,[[(b (!t3.bs0))]],true,false,0⟩,⟨0,4,[[(i t2.1.n.x),(i t2.1.n.y),(i t2.1.n.z),(i t2.1.b)]],true,false,0⟩,⟨0,4,[[(i t2.1.n.x),(i t2.1.n.y),(i t2.1.n.z),(i t2.1.b)]],true,false,0⟩]⟩),(some 2,fun p s=>⟨(.unk::((.ptr 0 0 0 0)::(.unk::((i p.is3)::(ra 5 ((i p.is9)::((i p.r8)::(ra 5 ((i p.T0)::((i s.n7)::((b (decide (s.n7 < p.T0)))::(ra 41 ((i 0)::(.unk::((.ptr 1 0 0 0)::((.ptr 2 0 0 0)::(ra 8 []))))))))))))))))),[⟨0,1,[[(eL tV s.b9)]],true,false,0⟩,⟨0,1,[[(eL tV s.e8)]],true,false,0⟩,⟨0,1,[[(b false)]],true,false,0⟩]⟩)],Tc7⟩
theorem Tc8:pb4.OkM:=Lo.okM [pb3.prM] (by kernel_rfl) (.cons Tc6 .nil) rfl (.cons (fun a H=>by kernel_rfl) .nil) fun p s=>(.of @oa2 (fun F _ _ _ _ _=>by unfold oa2;(repeat' apply k9 (f:=F))<;>rfl) (by kernel_rfl))
structure Ba3 where
 is9:Int
structure T9 where
 r8:Int
 b9:List V3
 e8:List V3
noncomputable def Tc9 (p:Ba3) (s:T9):St:=⟨(.unk::((.ptr 0 0 0 0)::(ra 7 ((i p.is9)::((i s.r8)::(ra 49 ((i 0)::(.unk::((.ptr 1 0 0 0)::((.ptr 2 0 0 0)::(ra 8 []))))))))))),[⟨0,1,[[(eL tV s.b9)]],true,false,0⟩,⟨0,1,[[(eL tV s.e8)]],true,false,0⟩,⟨0,1,[[(b false)]],true,false,0⟩]⟩
noncomputable def oa3 {α:Type} (k:T9→α) (e:Nat→α) (z:α) (p:Ba3) (s:T9):α:=let t1:=(lp (U6 (⟨s.r8,p.is9,s.r8,(↑(s.r8.toNat - 0):Int)⟩:ia4)) (⟨0,(rt tV s.b9),(rt tV s.e8)⟩:J6));(sl (decide (s.r8 < p.is9)) (sl (inB s.r8 ((List.length s.b9)+1)) (sl ((cnE tV s.b9)&&((cnE tV s.e8)&&true)) (sl (Nat.beq t1.1 1) (e 1) (sl (Nat.beq t1.1 2) (k ⟨(W (s.r8+1)),t1.2.b9,t1.2.e8⟩) z)) z) z) (e 2))
noncomputable def ka7 (p:Ba3) (s:T9):Stp T9:=oa3 .next .exit .fail p s
noncomputable def pb5:Lo Ba3 T9:=⟨En Za4,0,ge2,[1,0,1,4,4,1,4,4],[1,9,10,60,62,63],(.s .p (.s .p (.s (.b (.s .p (.s .p (.b (.u pb4.lsM))))) .p))),[⟨((.s (.o .unk))::((.s (.o (.ptr 0 0 0 0)))::(ru2 7 ((.s (.o (.int .i64)))::((.s (.o (.int .i64)))::(ru2 49 ((.s (.o (.lit .i64 0)))::((.s (.o .unk))::((.s (.o (.ptr 1 0 0 0)))::((.s (.o (.ptr 2 0 0 0)))::(ru2 8 []))))))))))),[⟨0,1,true,(some [[(.c 3 (nL tV))]])⟩,⟨0,1,true,(some [[(.c 3 (nL tV))]])⟩,⟨0,1,true,(some [[(.o (.blit false))]])⟩],fun a H=>(⟨(toI (slT a 9))⟩,⟨(toI (slT a 10)),(rL tV (slT (rwT (elT H 0) 0) 0)),(rL tV (slT (rwT (elT H 1) 0) 0))⟩)⟩],ka7,[(none,fun p s=>let t1:=(lp (U6 (⟨s.r8,p.is9,s.r8,(↑(s.r8.toNat - 0):Int)⟩:ia4)) (⟨0,(rt tV s.b9),(rt tV s.e8)⟩:J6));let t2:=(lp (N4 (⟨s.r8,t1.2.n7,p.is9,s.r8,(↑(s.r8.toNat - 0):Int),t1.2.n7,(↑(t1.2.n7.toNat - 0):Int),(rt tV t1.2.b9),(rt tV t1.2.e8)⟩:ba4)) (⟨0⟩:F9));let t3:=(F8 (gL tV (rt tV t1.2.b9) t2.2.A5.toNat) (gL tV (rt tV t1.2.b9) t1.2.n7.toNat) (gL tV (rt tV t1.2.b9) s.r8.toNat));let t4:=(o8 ⟨(rt tV (rt tV t1.2.e8)),t3.1.n.x,t3.1.n.y,t3.1.n.z,t3.1.b⟩);⟨(.unk::((.ptr 0 0 0 0)::(.unk::((i s.r8)::((i t1.2.n7)::((i t2.2.A5)::((.ptr 3 0 0 0)::((b t3.2)::(.unk::((i p.is9)::((i s.r8)::(ra 5 ((i (↑(s.r8.toNat - 0):Int))::((i t1.2.n7)::(ra 5 ((i (↑(t1.2.n7.toNat - 0):Int))::((i t2.2.A5)::((b (decide (t2.2.A5 < (↑(t1.2.n7.toNat - 0):Int))))::((i t2.2.A5)::((.tup [(.agg [(i t3.1.n.x),(i t3.1.n.y),(i t3.1.n.z),(i t3.1.b)]),(b t3.2)])::((eL tV (rt tV t1.2.b9))::((i t2.2.A5)::((.tptr [(i (gL tV (rt tV t1.2.b9) t2.2.A5.toNat).x),(i (gL tV (rt tV t1.2.b9) t2.2.A5.toNat).y),(i (gL tV (rt tV t1.2.b9) t2.2.A5.toNat).z)])::((.agg [(i (gL tV (rt tV t1.2.b9) t2.2.A5.toNat).x),(i (gL tV (rt tV t1.2.b9) t2.2.A5.toNat).y),(i (gL tV (rt tV t1.2.b9) t2.2.A5.toNat).z)])::((eL tV (rt tV t1.2.b9))::((i t1.2.n7)::((.tptr [(i (gL tV (rt tV t1.2.b9) t1.2.n7.toNat).x),(i (gL tV (rt tV t1.2.b9) t1.2.n7.toNat).y),(i (gL tV (rt tV t1.2.b9) t1.2.n7.toNat).z)])::((.agg [(i (gL tV (rt tV t1.2.b9) t1.2.n7.toNat).x),(i (gL tV (rt tV t1.2.b9) t1.2.n7.toNat).y),(i (gL tV (rt tV t1.2.b9) t1.2.n7.toNat).z)])::((eL tV (rt tV t1.2.b9))::((i s.r8)::((.tptr [(i (gL tV (rt tV t1.2.b9) s.r8.toNat).x),(i (gL tV (rt tV t1.2.b9) s.r8.toNat).y),(i (gL tV (rt tV t1.2.b9) s.r8.toNat).z)])::((.agg [(i (gL tV (rt tV t1.2.b9) s.r8.toNat).x),(i (gL tV (rt tV t1.2.b9) s.r8.toNat).y),(i (gL tV (rt tV t1.2.b9) s.r8.toNat).z)])::((.tup [(.agg [(i t3.1.n.x),(i t3.1.n.y),(i t3.1.n.z),(i t3.1.b)]),(b t3.2)])::((.agg [(i t3.1.n.x),(i t3.1.n.y),(i t3.1.n.z),(i t3.1.b)])::((b t3.2)::((b t3.2)::((b true)::(.unk::((.agg [(i t3.1.n.x),(i t3.1.n.y),(i t3.1.n.z),(i t3.1.b)])::((b false)::((b true)::((b true)::(.unk::(u::(u::(u::(u::((b true)::((b true)::(ra 3 ((i 1)::(.unk::((.ptr 1 0 0 0)::((.ptr 2 0 0 0)::(ra 8 []))))))))))))))))))))))))))))))))))))))))))))))))))))))),[⟨0,1,[[(eL tV (rt tV t1.2.b9))]],true,false,0⟩,⟨0,1,[[(eL tV (rt tV t1.2.e8))]],true,false,0⟩,⟨0,1,[[(b (!t4.bs0))]],true,false,0⟩,⟨0,4,[[(i t3.1.n.x),(i t3.1.n.y),(i t3.1.n.z),(i t3.1.b)]],true,false,0⟩,⟨0,4,[[(i t3.1.n.x),(i t3.1.n.y),(i t3.1.n.z),(i t3.1.b)]],true,false,0⟩]⟩),(some 0,fun p s=>⟨(.unk::((.ptr 0 0 0 0)::(ra 7 ((i p.is9)::((i s.r8)::((b (decide (s.r8 < p.is9)))::(ra 48 ((i 0)::(.unk::((.ptr 1 0 0 0)::((.ptr 2 0 0 0)::(ra 8 [])))))))))))),[⟨0,1,[[(eL tV s.b9)]],true,false,0⟩,⟨0,1,[[(eL tV s.e8)]],true,false,0⟩,⟨0,1,[[(b false)]],true,false,0⟩]⟩)],Tc9⟩
theorem Uc0:pb5.OkM:=Lo.okM [pb4.prM] (by kernel_rfl) (.cons Tc8 .nil) rfl (.cons (fun a H=>by kernel_rfl) .nil) fun p s=>(.of @oa3 (fun F _ _ _ _ _=>by unfold oa3;(repeat' apply k9 (f:=F))<;>rfl) (by kernel_rfl))
noncomputable def Ta9 (x:List V3):Option (b7×List b8):=let t1:=(lp (ka7 (⟨(↑(List.length x):Int)⟩:Ba3)) (⟨0,(rt tV x),(rt tV x)⟩:T9));let t2:=(lp (U6 (⟨t1.2.r8,(↑(List.length x):Int),t1.2.r8,(↑(t1.2.r8.toNat - 0):Int)⟩:ia4)) (⟨0,(rt tV t1.2.b9),(rt tV t1.2.e8)⟩:J6));let t3:=(lp (N4 (⟨t1.2.r8,t2.2.n7,(↑(List.length x):Int),t1.2.r8,(↑(t1.2.r8.toNat - 0):Int),t2.2.n7,(↑(t2.2.n7.toNat - 0):Int),(rt tV t2.2.b9),(rt tV t2.2.e8)⟩:ba4)) (⟨0⟩:F9));let t4:=(F8 (gL tV (rt tV t2.2.b9) t3.2.A5.toNat) (gL tV (rt tV t2.2.b9) t2.2.n7.toNat) (gL tV (rt tV t2.2.b9) t1.2.r8.toNat));let t5:=(o8 ⟨(rt tV (rt tV t2.2.e8)),t4.1.n.x,t4.1.n.y,t4.1.n.z,t4.1.b⟩);(sl ((cnE tV x)&&((cnE tV x)&&true)) (sl (Nat.beq t1.1 1) (some ((b (!t5.bs0)),[])) (sl (Nat.beq t1.1 2) (some ((b true),[])) none)) none)
noncomputable def lb7 (x:List V3):Bool:=C9 (one r1B) (Ta9 x)
noncomputable def lb8 (x:List V3):Bool:=okO (one r1B) (Ta9 x)
noncomputable def yc0:Sum:=Q5 (fa0 tV) (fun x=>.guard (lb8 x) (.ret ((one r1B).enc (lb7 x),[])))
theorem zd0:g8 prog G 175 yc0:=ya9 (bd Df9 id1) (one r1B) (o:=Ta9) fun x=>Ld1 (.s .p (.s (.s .p (.b (.i (.s .p (.b (.u pb5.lsM)))))) .p)) [pb5.prM] (by kernel_rfl) (.cons Uc0 .nil) (by kernel_rfl)
end Go.Ev.Ce
end
section
namespace Go.Ev.Ce
open Go Go.Ev Go.Ev.L Go.Proofs
set_option maxRecDepth 100000
structure Da3 where
 O8:Int
 O9:Int
 P0:Int
 c9:Int
 c7:Int
 d7:Int
 g7:Int
noncomputable def qc1:List (Nat×Sum):=[(88,Za1)]
theorem gc8:i7 prog G qc1:=⟨pb1,trivial⟩
structure Da4 where
 alt:Nat
 bs0:Bool
noncomputable def ea5 {α:Type} (kk:Da4→α) (x:Da3):α:=let t1:=(la5 (⟨(⟨x.c9,x.c7,x.d7⟩:V3),x.g7⟩:Pln) (⟨x.O8,x.O9,x.P0⟩:V3));(sl (la6 (⟨(⟨x.c9,x.c7,x.d7⟩:V3),x.g7⟩:Pln) (⟨x.O8,x.O9,x.P0⟩:V3)) (kk ⟨1,(decide (t1 > 0))⟩) (kk ⟨0,false⟩))
noncomputable def Da5 (x:Da3):Da4:=ea5 (fun r=>r) x
noncomputable def Pa3 (x:Da3) (r:Da4):DT (b7×List b8):=(.ite (Nat.beq r.alt 1) (.ret ((b r.bs0),[⟨0,4,[[(i x.c9),(i x.c7),(i x.d7),(i x.g7)]],true,false,0⟩])) .fail)
theorem Cc6 {α β:Type} (F:α→β) (kk:Da4→α) (x:Da3):F (ea5 kk x)=ea5 (fun r=>F (kk r)) x:=by unfold ea5;(repeat' apply k9 (f:=F))<;>rfl
noncomputable def Cb0:Sum:=nb6 ⟨[(.agg [(.o (.int .i64)),(.o (.int .i64)),(.o (.int .i64))]),(.s (.o (.ptr 0 0 0 0)))],[⟨0,4,true,(some [[(.o (.int .i64)),(.o (.int .i64)),(.o (.int .i64)),(.o (.int .i64))]])⟩],fun a H=>(⟨(toI (slT (cellsOf (slT a 0)) 0)),(toI (slT (cellsOf (slT a 0)) 1)),(toI (slT (cellsOf (slT a 0)) 2)),(toI (slT (rwT (elT H 0) 0) 0)),(toI (slT (rwT (elT H 0) 0) 1)),(toI (slT (rwT (elT H 0) 0) 2)),(toI (slT (rwT (elT H 0) 0) 3))⟩,())⟩ (fun x=>Pa3 x (Da5 x))
theorem qc2:g8 prog G 178 Cb0:=V5 (enc:=fun x=>⟨[(.agg [(i x.O8),(i x.O9),(i x.P0)]),(.ptr 0 0 0 0)],[⟨0,4,[[(i x.c9),(i x.c7),(i x.d7),(i x.g7)]],true,false,0⟩]⟩) (fun a H=>by kernel_rfl) (bd Ef1 gc8) fun x=>p5 (Eq.trans (b:=ea5 (fun r=>(Pa3 x r).run) x) (by kernel_rfl) (Cc6 (fun r=>(Pa3 x r).run) (fun r=>r) x).symm)
structure W0 where
 d9:List V3
 c9:Int
 c7:Int
 d7:Int
 g7:Int
noncomputable def Ba4:List (Nat×Sum):=[(178,Cb0)]
theorem jb5:i7 prog G Ba4:=⟨qc2,trivial⟩
structure H7 where
 d9:List V3
 is7:Int
 c9:Int
 c7:Int
 d7:Int
 g7:Int
structure o2 where
 is8:Int
noncomputable def fb9 (p:H7) (s:o2):St:=⟨((eL tV p.d9)::((.fn 178 [(.ptr 0 0 0 0)])::(ra 5 ((i p.is7)::((i s.is8)::(ra 10 [])))))),[⟨0,4,[[(i p.c9),(i p.c7),(i p.d7),(i p.g7)]],true,false,0⟩]⟩
noncomputable def D2 {α:Type} (k:o2→α) (e:Nat→α) (z:α) (p:H7) (s:o2):α:=let t1:=(Da5 ⟨(gL tV p.d9 s.is8.toNat).x,(gL tV p.d9 s.is8.toNat).y,(gL tV p.d9 s.is8.toNat).z,p.c9,p.c7,p.d7,p.g7⟩);(sl (decide (s.is8 < p.is7)) (sl (inB s.is8 (List.length p.d9)) (sl (Nat.beq t1.alt 1) (sl t1.bs0 (e 1) (k ⟨(W (s.is8+1))⟩)) z) z) (e 2))
noncomputable def E5 (p:H7) (s:o2):Stp o2:=D2 .next .exit .fail p s
noncomputable def da6:Lo H7 o2:=⟨En Ba4,1,Ld0,[1,0,1,4,4],[0,1,7,8],.p,[⟨((.s (.c 3 (nL tV)))::((.fn 178 [(.o (.ptr 0 0 0 0))])::(ru2 5 ((.s (.o (.int .i64)))::((.s (.o (.int .i64)))::(ru2 10 [])))))),[⟨0,4,true,(some [[(.o (.int .i64)),(.o (.int .i64)),(.o (.int .i64)),(.o (.int .i64))]])⟩],fun a H=>(⟨(rL tV (slT a 0)),(toI (slT a 7)),(toI (slT (rwT (elT H 0) 0) 0)),(toI (slT (rwT (elT H 0) 0) 1)),(toI (slT (rwT (elT H 0) 0) 2)),(toI (slT (rwT (elT H 0) 0) 3))⟩,⟨(toI (slT a 8))⟩)⟩],E5,[(none,fun p s=>⟨[(i s.is8)],[⟨0,4,[[(i p.c9),(i p.c7),(i p.d7),(i p.g7)]],true,false,0⟩]⟩),(some 0,fun p s=>⟨((eL tV p.d9)::((.fn 178 [(.ptr 0 0 0 0)])::(ra 5 ((i p.is7)::((i s.is8)::((b (decide (s.is8 < p.is7)))::(ra 9 []))))))),[⟨0,4,[[(i p.c9),(i p.c7),(i p.d7),(i p.g7)]],true,false,0⟩]⟩)],fb9⟩
theorem gb0:da6.Ok:=Lo.ok [] (by kernel_rfl) .nil rfl (.cons (fun a H=>by kernel_rfl) .nil) fun p s=>(.of @D2 (fun F _ _ _ _ _=>by unfold D2;(repeat' apply k9 (f:=F))<;>rfl) (by kernel_rfl))
structure W4 where
 alt:Nat
 is0:Int
noncomputable def D9 {α:Type} (kk:W4→α) (x:W0):α:=let t1:=(lp (E5 (⟨(rt tV x.d9),(↑(List.length x.d9):Int),x.c9,x.c7,x.d7,x.g7⟩:H7)) (⟨0⟩:o2));(sl ((cnE tV x.d9)&&true) (sl (Nat.beq t1.1 1) (kk ⟨1,t1.2.is8⟩) (sl (Nat.beq t1.1 2) (kk ⟨1,(-1)⟩) (kk ⟨0,0⟩))) (kk ⟨0,0⟩))
noncomputable def W5 (x:W0):W4:=D9 (fun r=>r) x
noncomputable def ia5 (x:W0) (r:W4):DT (b7×List b8):=(.ite (Nat.beq r.alt 1) (.ret ((i r.is0),[⟨0,4,[[(i x.c9),(i x.c7),(i x.d7),(i x.g7)]],true,false,0⟩])) .fail)
theorem tb4 {α β:Type} (F:α→β) (kk:W4→α) (x:W0):F (D9 kk x)=D9 (fun r=>F (kk r)) x:=by unfold D9;(repeat' apply k9 (f:=F))<;>rfl
noncomputable def Ga6:Sum:=nb6 ⟨[(.s (.c 3 (nL tV))),(.fn 178 [(.o (.ptr 0 0 0 0))])],[⟨0,4,true,(some [[(.o (.int .i64)),(.o (.int .i64)),(.o (.int .i64)),(.o (.int .i64))]])⟩],fun a H=>(⟨(rL tV (slT a 0)),(toI (slT (rwT (elT H 0) 0) 0)),(toI (slT (rwT (elT H 0) 0) 1)),(toI (slT (rwT (elT H 0) 0) 2)),(toI (slT (rwT (elT H 0) 0) 3))⟩,())⟩ (fun x=>ia5 x (W5 x))
theorem pb6:g8 prog G 144 Ga6:=V5 (enc:=fun x=>⟨[(eL tV x.d9),(.fn 178 [(.ptr 0 0 0 0)])],[⟨0,4,[[(i x.c9),(i x.c7),(i x.d7),(i x.g7)]],true,false,0⟩]⟩) (fun a H=>by kernel_rfl) (bd Oe9 jb5) fun x=>sa8 (.s .p (.s (.s .p (.b (.u da6.ls))) .p)) [da6.pr] (by kernel_rfl) (.cons gb0 .nil) (Eq.trans (b:=D9 (fun r=>(ia5 x r).run) x) (by kernel_rfl) (tb4 (fun r=>(ia5 x r).run) (fun r=>r) x).symm)
structure N5 where
 d9:List V3
 c9:Int
 c7:Int
 d7:Int
 g7:Int
noncomputable def Za5:List (Nat×Sum):=[(144,Ga6)]
theorem Wa2:i7 prog G Za5:=⟨pb6,trivial⟩
structure N6 where
 alt:Nat
 bs0:Bool
noncomputable def A0 {α:Type} (kk:N6→α) (x:N5):α:=let t1:=(W5 ⟨(rt tV x.d9),x.c9,x.c7,x.d7,x.g7⟩);(sl ((cnE tV x.d9)&&true) (sl (Nat.beq t1.alt 1) (kk ⟨1,(decide (t1.is0≥0))⟩) (kk ⟨0,false⟩)) (kk ⟨0,false⟩))
noncomputable def N7 (x:N5):N6:=A0 (fun r=>r) x
noncomputable def aa5 (x:N5) (r:N6):DT (b7×List b8):=(.ite (Nat.beq r.alt 1) (.ret ((b r.bs0),[⟨0,4,[[(i x.c9),(i x.c7),(i x.d7),(i x.g7)]],true,false,0⟩])) .fail)
theorem gb1 {α β:Type} (F:α→β) (kk:N6→α) (x:N5):F (A0 kk x)=A0 (fun r=>F (kk r)) x:=by unfold A0;(repeat' apply k9 (f:=F))<;>rfl
noncomputable def va2:Sum:=nb6 ⟨[(.s (.c 3 (nL tV))),(.fn 178 [(.o (.ptr 0 0 0 0))])],[⟨0,4,true,(some [[(.o (.int .i64)),(.o (.int .i64)),(.o (.int .i64)),(.o (.int .i64))]])⟩],fun a H=>(⟨(rL tV (slT a 0)),(toI (slT (rwT (elT H 0) 0) 0)),(toI (slT (rwT (elT H 0) 0) 1)),(toI (slT (rwT (elT H 0) 0) 2)),(toI (slT (rwT (elT H 0) 0) 3))⟩,())⟩ (fun x=>aa5 x (N7 x))
theorem Za6:g8 prog G 174 va2:=V5 (enc:=fun x=>⟨[(eL tV x.d9),(.fn 178 [(.ptr 0 0 0 0)])],[⟨0,4,[[(i x.c9),(i x.c7),(i x.d7),(i x.g7)]],true,false,0⟩]⟩) (fun a H=>by kernel_rfl) (bd gf1 Wa2) fun x=>p5 (Eq.trans (b:=A0 (fun r=>(aa5 x r).run) x) (by kernel_rfl) (gb1 (fun r=>(aa5 x r).run) (fun r=>r) x).symm)
noncomputable def Uc1:List (Nat×Sum):=[(174,va2)]
theorem Cc7:i7 prog G Uc1:=⟨Za6,trivial⟩
noncomputable def Ba5 (x:List V3) (y:Pln):Option (b7×List b8):=let t1:=(N7 ⟨(rt tV x),y.n.x,y.n.y,y.n.z,y.b⟩);(sl ((cnE tV x)&&true) (sl (Nat.beq t1.alt 1) (some ((b t1.bs0),[])) none) none)
noncomputable def ba5 (x:List V3) (y:Pln):Bool:=C9 (one r1B) (Ba5 x y)
noncomputable def G3 (x:List V3) (y:Pln):Bool:=okO (one r1B) (Ba5 x y)
noncomputable def Sb4:Sum:=Z9 (fa0 tV) (B0 tP) (fun x y=>.guard (G3 x y) (.ret ((one r1B).enc (ba5 x y),[])))
theorem Uc2:g8 prog G 120 Sb4:=Ia3 (bd Af9 Cc7) (one r1B) (o:=Ba5) fun x y=>p5 (by kernel_rfl)
end Go.Ev.Ce
end
section
namespace Go.Ev.Ce
open Go Go.Ev Go.Ev.L Go.Proofs
set_option maxRecDepth 100000
noncomputable def Cc8:List (Nat×Sum):=[(85,yb4)]
theorem qc3:i7 prog G Cc8:=⟨Ib4,trivial⟩
noncomputable def va3 (x:V3):Option (b7×List b8):=let t1:=(ta8 x);(sl (ta9 x) (some ((b (!t1)),[])) none)
noncomputable def Ka3 (x:V3):Bool:=C9 (one r1B) (va3 x)
noncomputable def Ka4 (x:V3):Bool:=okO (one r1B) (va3 x)
noncomputable def Jb2:Sum:=Q5 (B0 tV) (fun x=>.guard (Ka4 x) (.ret ((one r1B).enc (Ka3 x),[])))
theorem Cc9:g8 prog G 173 Jb2:=ya9 (bd Df8 qc3) (one r1B) (o:=va3) fun x=>p5 (by kernel_rfl)
structure W6 where
 d9:List V3
noncomputable def Ba6:List (Nat×Sum):=[(173,Jb2)]
theorem jb6:i7 prog G Ba6:=⟨Cc9,trivial⟩
structure H8 where
 d9:List V3
 is7:Int
structure o3 where
 is8:Int
noncomputable def gb2 (p:H8) (s:o3):St:=⟨((eL tV p.d9)::((.fn 173 [])::(ra 5 ((i p.is7)::((i s.is8)::(ra 10 [])))))),[]⟩
noncomputable def D3 {α:Type} (k:o3→α) (e:Nat→α) (z:α) (p:H8) (s:o3):α:=let t1:=(Ka3 (gL tV p.d9 s.is8.toNat));(sl (decide (s.is8 < p.is7)) (sl (inB s.is8 (List.length p.d9)) (sl (Ka4 (gL tV p.d9 s.is8.toNat)) (sl t1 (e 1) (k ⟨(W (s.is8+1))⟩)) z) z) (e 2))
noncomputable def E6 (p:H8) (s:o3):Stp o3:=D3 .next .exit .fail p s
noncomputable def da7:Lo H8 o3:=⟨En Ba6,0,Ld0,[1,0,1,4,4],[0,1,7,8],.p,[⟨((.s (.c 3 (nL tV)))::((.s (.o (.fn 173)))::(ru2 5 ((.s (.o (.int .i64)))::((.s (.o (.int .i64)))::(ru2 10 [])))))),[],fun a H=>(⟨(rL tV (slT a 0)),(toI (slT a 7))⟩,⟨(toI (slT a 8))⟩)⟩],E6,[(none,fun p s=>⟨[(i s.is8)],[]⟩),(some 0,fun p s=>⟨((eL tV p.d9)::((.fn 173 [])::(ra 5 ((i p.is7)::((i s.is8)::((b (decide (s.is8 < p.is7)))::(ra 9 []))))))),[]⟩)],gb2⟩
theorem gb3:da7.Ok:=Lo.ok [] (by kernel_rfl) .nil rfl (.cons (fun a H=>by kernel_rfl) .nil) fun p s=>(.of @D3 (fun F _ _ _ _ _=>by unfold D3;(repeat' apply k9 (f:=F))<;>rfl) (by kernel_rfl))
structure W7 where
 alt:Nat
 is0:Int
noncomputable def E0 {α:Type} (kk:W7→α) (x:W6):α:=let t1:=(lp (E6 (⟨(rt tV x.d9),(↑(List.length x.d9):Int)⟩:H8)) (⟨0⟩:o3));(sl ((cnE tV x.d9)&&true) (sl (Nat.beq t1.1 1) (kk ⟨1,t1.2.is8⟩) (sl (Nat.beq t1.1 2) (kk ⟨1,(-1)⟩) (kk ⟨0,0⟩))) (kk ⟨0,0⟩))
noncomputable def W8 (x:W6):W7:=E0 (fun r=>r) x
noncomputable def ia6 (x:W6) (r:W7):DT (b7×List b8):=(.ite (Nat.beq r.alt 1) (.ret ((i r.is0),[])) .fail)
theorem tb5 {α β:Type} (F:α→β) (kk:W7→α) (x:W6):F (E0 kk x)=E0 (fun r=>F (kk r)) x:=by unfold E0;(repeat' apply k9 (f:=F))<;>rfl
noncomputable def Ga7:Sum:=nb6 ⟨[(.s (.c 3 (nL tV))),(.s (.o (.fn 173)))],[],fun a H=>(⟨(rL tV (slT a 0))⟩,())⟩ (fun x=>ia6 x (W8 x))
theorem pb7:g8 prog G 144 Ga7:=V5 (enc:=fun x=>⟨[(eL tV x.d9),(.fn 173 [])],[]⟩) (fun a H=>by kernel_rfl) (bd Oe9 jb6) fun x=>sa8 (.s .p (.s (.s .p (.b (.u da7.ls))) .p)) [da7.pr] (by kernel_rfl) (.cons gb3 .nil) (Eq.trans (b:=E0 (fun r=>(ia6 x r).run) x) (by kernel_rfl) (tb5 (fun r=>(ia6 x r).run) (fun r=>r) x).symm)
structure N8 where
 d9:List V3
noncomputable def Za7:List (Nat×Sum):=[(144,Ga7)]
theorem Wa3:i7 prog G Za7:=⟨pb7,trivial⟩
structure N9 where
 alt:Nat
 bs0:Bool
noncomputable def A1 {α:Type} (kk:N9→α) (x:N8):α:=let t1:=(W8 ⟨(rt tV x.d9)⟩);(sl ((cnE tV x.d9)&&true) (sl (Nat.beq t1.alt 1) (kk ⟨1,(decide (t1.is0≥0))⟩) (kk ⟨0,false⟩)) (kk ⟨0,false⟩))
noncomputable def O0 (x:N8):N9:=A1 (fun r=>r) x
noncomputable def aa6 (x:N8) (r:N9):DT (b7×List b8):=(.ite (Nat.beq r.alt 1) (.ret ((b r.bs0),[])) .fail)
theorem gb4 {α β:Type} (F:α→β) (kk:N9→α) (x:N8):F (A1 kk x)=A1 (fun r=>F (kk r)) x:=by unfold A1;(repeat' apply k9 (f:=F))<;>rfl
noncomputable def va4:Sum:=nb6 ⟨[(.s (.c 3 (nL tV))),(.s (.o (.fn 173)))],[],fun a H=>(⟨(rL tV (slT a 0))⟩,())⟩ (fun x=>aa6 x (O0 x))
theorem Za8:g8 prog G 174 va4:=V5 (enc:=fun x=>⟨[(eL tV x.d9),(.fn 173 [])],[]⟩) (fun a H=>by kernel_rfl) (bd gf1 Wa3) fun x=>p5 (Eq.trans (b:=A1 (fun r=>(aa6 x r).run) x) (by kernel_rfl) (gb4 (fun r=>(aa6 x r).run) (fun r=>r) x).symm)
noncomputable def id3:List (Nat×Sum):=[(174,va4),(175,yc0)]
theorem Uc3:i7 prog G id3:=⟨Za8,zd0,trivial⟩
noncomputable def Ka5 (x:List V3):Option (b7×List b8):=let t1:=(O0 ⟨(rt tV x)⟩);let t2:=(lb7 (rt tV x));(sl (decide ((↑(List.length x):Int) > 48)) (some ((i 2),[])) (sl ((cnE tV x)&&true) (sl (Nat.beq t1.alt 1) (sl t1.bs0 (some ((i 3),[])) (sl (okE tV x) (sl (lb8 (rt tV x)) (sl t2 (some ((i 11),[])) (some ((i 0),[]))) none) none)) none) none))
noncomputable def Ka6 (x:List V3):Int:=C9 (one r1I) (Ka5 x)
noncomputable def Ka7 (x:List V3):Bool:=okO (one r1I) (Ka5 x)
noncomputable def zb5:Sum:=Q5 (fa0 tV) (fun x=>.guard (Ka7 x) (.ret ((one r1I).enc (Ka6 x),[])))
theorem Sb5:g8 prog G 118 zb5:=ya9 (bd Af7 Uc3) (one r1I) (o:=Ka5) fun x=>p5 (by kernel_rfl)
end Go.Ev.Ce
end
section
namespace Go.Ev.Ce
open Go Go.Ev Go.Ev.L Go.Proofs
set_option maxRecDepth 100000
noncomputable def qc4:List (Nat×Sum):=[]
theorem gc9:i7 prog G qc4:=trivial
noncomputable def Da6 (x:Int):Bool:=(x != x)
noncomputable def Cb1:Sum:=Q5 cI (fun x=>.ret ((one r1B).enc (Da6 x),[]))
theorem qc5:g8 prog G 220 Cb1:=kb8 (bd Ff5 gc9) fun x=>p5 (by kernel_rfl)
noncomputable def Yb1:List (Nat×Sum):=[(220,Cb1)]
theorem Pb5:i7 prog G Yb1:=⟨qc5,trivial⟩
noncomputable def ga2 (x:Int) (y:Int):Option (b7×List b8):=let t1:=(Da6 x);let t2:=(Da6 y);(sl t1 (sl t2 (some ((i 0),[])) (some ((i (-1)),[]))) (sl t2 (some ((i 1),[])) (sl (decide (x < y)) (some ((i (-1)),[])) (sl (decide (x > y)) (some ((i 1),[])) (some ((i 0),[]))))))
noncomputable def W9 (x:Int) (y:Int):Int:=C9 (one r1I) (ga2 x y)
noncomputable def X0 (x:Int) (y:Int):Bool:=okO (one r1I) (ga2 x y)
noncomputable def lb9:Sum:=Z9 cI cI (fun x y=>.guard (X0 x y) (.ret ((one r1I).enc (W9 x y),[])))
theorem Yb2:g8 prog G 189 lb9:=Ia3 (bd Ef8 Pb5) (one r1I) (o:=ga2) fun x y=>p5 (by kernel_rfl)
noncomputable def Sb6:List (Nat×Sum):=[]
theorem Uc4:i7 prog G Sb6:=trivial
structure va5 where
 Ma8:List Int
 is7:Int
structure J7 where
 is8:Int
noncomputable def Dc0 (p:va5) (s:J7):St:=⟨(ra 3 ((i 0)::(.unk::(.unk::((eL tI p.Ma8)::((i p.is7)::((i s.is8)::(ra 9 [])))))))),[]⟩
noncomputable def Pa4 {α:Type} (k:J7→α) (e:Nat→α) (z:α) (p:va5) (s:J7):α:=(sl (decide (s.is8 < p.is7)) (sl (inB s.is8 (List.length p.Ma8)) (sl ((gL tI p.Ma8 s.is8.toNat) != 0) (e 1) (k ⟨(W (s.is8+1))⟩)) z) (e 2))
noncomputable def Z0 (p:va5) (s:J7):Stp J7:=Pa4 .next .exit .fail p s
noncomputable def gb5:Lo va5 J7:=⟨En Sb6,0,Ze6,[1,1,0,1,4,4],[3,6,7,8],.p,[⟨(ru2 3 ((.s (.o (.lit .i64 0)))::((.s (.o .unk))::((.s (.o .unk))::((.s (.c 1 (nL tI)))::((.s (.o (.int .i64)))::((.s (.o (.int .i64)))::(ru2 9 [])))))))),[],fun a H=>(⟨(rL tI (slT a 6)),(toI (slT a 7))⟩,⟨(toI (slT a 8))⟩)⟩],Z0,[(none,fun p s=>⟨[(i (gL tI p.Ma8 s.is8.toNat))],[]⟩),(some 0,fun p s=>⟨(ra 3 ((i 0)::(.unk::(.unk::((eL tI p.Ma8)::((i p.is7)::((i s.is8)::((b (decide (s.is8 < p.is7)))::(ra 8 []))))))))),[]⟩)],Dc0⟩
theorem Dc1:gb5.Ok:=Lo.ok [] (by kernel_rfl) .nil rfl (.cons (fun a H=>by kernel_rfl) .nil) fun p s=>(.of @Pa4 (fun F _ _ _ _ _=>by unfold Pa4;(repeat' apply k9 (f:=F))<;>rfl) (by kernel_rfl))
noncomputable def Ka8 (x:List Int):Option (b7×List b8):=let t1:=(lp (Z0 (⟨(rt tI x),(↑(List.length x):Int)⟩:va5)) (⟨0⟩:J7));(sl ((cnE tI x)&&true) (sl (Nat.beq t1.1 1) (some ((i (gL tI (rt tI x) t1.2.is8.toNat)),[])) (sl (Nat.beq t1.1 2) (some ((i 0),[])) none)) none)
noncomputable def Za9 (x:List Int):Int:=C9 (one r1I) (Ka8 x)
noncomputable def ab0 (x:List Int):Bool:=okO (one r1I) (Ka8 x)
noncomputable def hc3:Sum:=Q5 (fa0 tI) (fun x=>.guard (ab0 x) (.ret ((one r1I).enc (Za9 x),[])))
theorem id4:g8 prog G 188 hc3:=ya9 (bd Ef7 Uc4) (one r1I) (o:=Ka8) fun x=>sa8 (.s .p (.s .p (.s (.s .p (.b (.u gb5.ls))) .p))) [gb5.pr] (by kernel_rfl) (.cons Dc1 .nil) (by kernel_rfl)
noncomputable def Dc2:List (Nat×Sum):=[(189,lb9),(188,hc3)]
theorem qc6:i7 prog G Dc2:=⟨Yb2,id4,trivial⟩
noncomputable def va6 (x:V3) (y:V3):Option (b7×List b8):=let t1:=(W9 x.x y.x);let t2:=(W9 x.y y.y);let t3:=(W9 x.z y.z);let t4:=(Za9 [t1,t2,t3]);(sl (X0 x.x y.x) (sl (X0 x.y y.y) (sl (X0 x.z y.z) (sl (ab0 [t1,t2,t3]) (some ((i t4),[])) none) none) none) none)
noncomputable def Ka9 (x:V3) (y:V3):Int:=C9 (one r1I) (va6 x y)
noncomputable def La0 (x:V3) (y:V3):Bool:=okO (one r1I) (va6 x y)
noncomputable def gb6:Sum:=Z9 (B0 tV) (B0 tV) (fun x y=>.guard (La0 x y) (.ret ((one r1I).enc (Ka9 x y),[])))
theorem Dc3:g8 prog G 147 gb6:=Ia3 (bd Df1 qc6) (one r1I) (o:=va6) fun x y=>p5 (by kernel_rfl)
end Go.Ev.Ce
end
namespace Go.Ev.L
open Go Go.Ev
theorem Ae3 (n:Int):W n=(n+9223372036854775808) % 18446744073709551616 - 9223372036854775808:=IntKind.wrap_i64 n
theorem ga3 {n:Int} (h1:-9223372036854775808≤n) (h2:n≤9223372036854775807):W n=n:=by rw[Ae3];omega
theorem ge6 (n:Int):∃ k,W n=n+18446744073709551616*k:=⟨-((n+9223372036854775808) / 18446744073709551616),by rw[Ae3];omega⟩
theorem Ob5 (n k:Int):W (n+18446744073709551616*k)=W n:=by rw[Ae3,Ae3];omega
theorem zb6 (a b:Int):W (W a+b)=W (a+b):=by
 obtain⟨k,hk⟩:=ge6 a
 rw[hk,show a+18446744073709551616*k+b=a+b+18446744073709551616*k by omega,Ob5]
theorem Yb3 (a b:Int):W (a+W b)=W (a+b):=by rw[Int.add_comm,zb6,Int.add_comm]
theorem zd1 (a b:Int):W (W a - b)=W (a - b):=by
 obtain⟨k,hk⟩:=ge6 a
 rw[hk,show a+18446744073709551616*k - b=a - b+18446744073709551616*k by omega,Ob5]
theorem ae1 (a b:Int):W (a - W b)=W (a - b):=by
 obtain⟨k,hk⟩:=ge6 b
 rw[hk,show a - (b+18446744073709551616*k)=a - b+18446744073709551616*(-k) by omega,Ob5]
theorem Ae4 (a b:Int):W (W a*b)=W (a*b):=by
 obtain⟨k,hk⟩:=ge6 a
 rw[hk,show (a+18446744073709551616*k)*b=a*b+18446744073709551616*(k*b) by grind,Ob5]
theorem gf3 (a b:Int):W (a*W b)=W (a*b):=by rw[Int.mul_comm,Ae4,Int.mul_comm]
theorem o5 {j n:Nat} (h:j < n) (hn:n≤4611686018427387904):W ((j:Int)+1)=((j+1:Nat):Int):=by
 rw[ga3 (by omega) (by omega)];omega
theorem Jb3 {j n:Nat} (h:j < n):decide ((j:Int) < (n:Int))=true:=decide_eq_true (by omega)
theorem mb0 {j n:Nat} (h:¬ j < n):decide ((j:Int) < (n:Int))=false:=decide_eq_false (by omega)
theorem f8 {j n:Nat} (h:j < n):inB (j:Int) n=true:=by
 show Nat.blt j n=true
 rw[Nat.blt_eq];exact h
theorem zd2 (m:Int) (n:Nat):inB m n=decide (0≤m∧m < n):=by
 unfold inB
 cases m with
 | ofNat k =>
  rw[Bool.eq_iff_iff,decide_eq_true_eq]
  show Nat.blt k n=true↔_
  rw[Nat.blt_eq]
  constructor
  ·intro h;exact⟨Int.natCast_nonneg k,Int.ofNat_lt.2 h⟩
  ·intro h;exact Int.ofNat_lt.1 h.2
 | negSucc k=>exact (decide_eq_false (fun h=>by omega)).symm
theorem bt {c:Bool} (h:c=true) {α:Type} (t e:α):sl c t e=t:=by rw[h];rfl
theorem bf {c:Bool} (h:c=false) {α:Type} (t e:α):sl c t e=e:=by rw[h];rfl
theorem xa8 {n:Nat} (h:n≤1000000000000):Nat.ble (n*32) room=true:=by
 rw[Nat.ble_eq];unfold room;omega
theorem Ae5 {σ : Type} {step : σ → Stp σ} {I : Nat → σ → Prop} {Q : Nat → σ → Prop} (h : ∀ m s, I m s → (∃ t, step s = .exit t ∧ Q t s) ∨ ∃ s' m', m = m' + 1 ∧ step s = .next s' ∧ I m' s') :
  ∀ (m n:Nat) (s:σ),m≤n→I m s→Q (lp0 step n s).1 (lp0 step n s).2
 | m,n,s,hn,hi=>by
  rcases h m s hi with⟨t,h1,h2⟩ | ⟨s',m',rfl,h1,h2⟩
  ·rw[Hd9 h1]
   exact h2
  ·cases n with
   | zero=>omega
   | succ n =>
    rw[Hd8 h1]
    exact Ae5 h m' n s' (by omega) h2
theorem zb7 {σ : Type} {step : σ → Stp σ} {I : Nat → σ → Prop} {Q : Nat → σ → Prop} (h : ∀ m s, I m s → (∃ t, step s = .exit t ∧ Q t s) ∨ ∃ s' m', m = m' + 1 ∧ step s = .next s' ∧ I m' s')
  (m:Nat) (s:σ) (hm:m≤18446744073709551615) (hi:I m s):Q (lp step s).1 (lp step s).2:=by
 rw[Ye0]
 exact Ae5 h m rounds s (by unfold rounds;omega) hi
section
variable {σ τ α:Type} {step:σ→Stp σ}
theorem ge7 {mk : Nat → τ → σ} {f : τ → α → τ} {fin : Nat} (t : Ty α) (l : List α) (I : Nat → τ → Prop) (hl : l.length ≤ 1000000000)
  (h:∀ j a,j < l.length→I j a→step (mk j a)=.next (mk (j+1) (f a (gL t l j)))∧I (j+1) (f a (gL t l j)))
  (hf:∀ a,I l.length a→step (mk l.length a)=.exit fin) (j0:Nat) (hj:j0≤l.length) (a:τ) (hi:I j0 a) :
  lp step (mk j0 a)=(fin,mk l.length ((l.drop j0).foldl f a))∧I l.length ((l.drop j0).foldl f a):=by
 have key:=zb7 (step:=step) (I:=fun m s=>∃ j b,m=l.length - j∧j≤l.length∧s=mk j b∧I j b∧(l.drop j).foldl f b=(l.drop j0).foldl f a)
  (Q:=fun u s=>u=fin∧s=mk l.length ((l.drop j0).foldl f a)∧I l.length ((l.drop j0).foldl f a)) (fun m s ⟨j,b,hm,hj,hs,hb,he⟩=>by
   subst hs
   by_cases hlt:j < l.length
   ·obtain⟨h1,h2⟩:=h j b hlt hb
    refine .inr ⟨_,l.length - (j+1),by omega,h1,j+1,_,rfl,by omega,rfl,h2,?_⟩
    rw[← he,List.drop_eq_getElem_cons hlt,List.foldl_cons]
    simp[gL,List.getD_eq_getElem?_getD,List.getElem?_eq_getElem hlt]
   ·have:j=l.length:=by omega
    subst this
    have he:b=(l.drop j0).foldl f a:=by rw[← he];simp
    subst he
    exact .inl ⟨fin,hf _ hb,rfl,rfl,hb⟩) (l.length - j0) (mk j0 a) (by omega) ⟨j0,a,rfl,hj,rfl,hi,rfl⟩
 exact⟨by rw[← key.2.1,← key.1],key.2.2⟩
theorem Wa4 {mk : Nat → σ} {c : α → Bool} {u fin : Nat} (t : Ty α) (l : List α) (hl : l.length ≤ 1000000000)
  (h:∀ j,j < l.length→step (mk j)=sl (c (gL t l j)) (.exit u) (.next (mk (j+1)))) (hf:step (mk l.length)=.exit fin) (j0:Nat) (hj:j0≤l.length) :
  (lp step (mk j0)).1=if (l.drop j0).any c then u else fin :=
 zb7 (step:=step) (I:=fun m s=>∃ j,m=l.length - j∧j≤l.length∧s=mk j∧(l.drop j).any c=(l.drop j0).any c)
  (Q:=fun v _=>v=if (l.drop j0).any c then u else fin) (fun m s ⟨j,hm,hj,hs,he⟩=>by
   subst hs
   by_cases hlt:j < l.length
   ·have h1:=h j hlt
    have e:gL t l j=l[j]:=by simp[gL,List.getD_eq_getElem?_getD,List.getElem?_eq_getElem hlt]
    have e2:(l.drop j).any c=(c l[j]||(l.drop (j+1)).any c):=by rw[List.drop_eq_getElem_cons hlt,List.any_cons]
    rw[e] at h1
    cases hc:c l[j] with
    | true =>
     rw[hc] at h1
     refine .inl ⟨u,h1,?_⟩
     rw[← he,e2,hc];rfl
    | false =>
     rw[hc] at h1
     refine .inr ⟨_,l.length - (j+1),by omega,h1,j+1,rfl,by omega,rfl,?_⟩
     rw[← he,e2,hc];rfl
   ·have:j=l.length:=by omega
    subst this
    refine .inl ⟨fin,hf,?_⟩
    rw[← he];simp) (l.length - j0) (mk j0) (by omega) ⟨j0,rfl,hj,rfl,rfl⟩
theorem ab1 {mk : Nat → σ} {c : α → Bool} {u fin : Nat} (t : Ty α) (l : List α) (hl : l.length ≤ 1000000000)
  (h:∀ j,j < l.length→step (mk j)=sl (c (gL t l j)) (.exit u) (.next (mk (j+1)))) (hf:step (mk l.length)=.exit fin) (j0:Nat) (hj:j0≤l.length) :
  lp step (mk j0)=if (l.drop j0).any c then (u,mk (j0+(l.drop j0).findIdx c)) else (fin,mk l.length):=by
 have key:=zb7 (step:=step) (I:=fun m s=>∃ j,m=l.length - j∧j≤l.length∧j0≤j∧s=mk j∧(l.drop j).any c=(l.drop j0).any c∧j+(l.drop j).findIdx c=j0+(l.drop j0).findIdx c)
  (Q:=fun v s=>(v,s)=if (l.drop j0).any c then (u,mk (j0+(l.drop j0).findIdx c)) else (fin,mk l.length)) (fun m s ⟨j,hm,hj,hj0,hs,he,hi⟩=>by
   subst hs
   by_cases hlt:j < l.length
   ·have h1:=h j hlt
    have e:gL t l j=l[j]:=by simp[gL,List.getD_eq_getElem?_getD,List.getElem?_eq_getElem hlt]
    have e2:(l.drop j).any c=(c l[j]||(l.drop (j+1)).any c):=by rw[List.drop_eq_getElem_cons hlt,List.any_cons]
    have e3:(l.drop j).findIdx c=if c l[j] then 0 else (l.drop (j+1)).findIdx c+1:=by rw[List.drop_eq_getElem_cons hlt,List.findIdx_cons];cases c l[j]<;>rfl
    rw[e] at h1
    cases hc:c l[j] with
    | true =>
     rw[hc] at h1
     refine .inl ⟨u,h1,?_⟩
     rw[← he,e2,hc,← hi,e3,hc];rfl
    | false =>
     rw[hc] at h1
     refine .inr ⟨_,l.length - (j+1),by omega,h1,j+1,rfl,by omega,by omega,rfl,?_,?_⟩
     ·rw[← he,e2,hc];rfl
     ·rw[← hi,e3,hc];simp only[Bool.false_eq_true,if_false];omega
   ·have:j=l.length:=by omega
    subst this
    refine .inl ⟨fin,hf,?_⟩
    rw[← he];simp) (l.length - j0) (mk j0) (by omega) ⟨j0,rfl,hj,Nat.le_refl _,rfl,rfl,rfl⟩
 exact key
end
theorem Uc5 {α:Type} (t:Ty α) {l:List α} {j:Nat} (h:j < l.length):gL t l j∈l:=by
 simp[gL,List.getD_eq_getElem?_getD,List.getElem?_eq_getElem h]
theorem Ua0 {α:Type} (t:Ty α) {l:List α} {j:Nat} (h:j < l.length):gL t l j=l[j]:=by
 simp[gL,List.getD_eq_getElem?_getD,List.getElem?_eq_getElem h]
end Go.Ev.L
namespace Go.Ev.L
open Go Go.Ev
def euF:Nat→Int→Int→Int
 | 0,g,_=>g
 | k+1,g,n=>if n=0 then g else euF k n (Int.tmod g n)
def eu (g n:Int):Int:=euF (n.natAbs+1) g n
theorem Oa3 {g n:Int} (h:n≠0):(Int.tmod g n).natAbs < n.natAbs:=by
 rw[Int.natAbs_tmod]
 exact Nat.mod_lt _ (by omega)
theorem Od2:∀ (k m:Nat) {g n:Int},n.natAbs < k→n.natAbs < m→euF k g n=euF m g n
 | 0,_,_,_,h,_=>by omega
 | _+1,0,_,_,_,h=>by omega
 | k+1,m+1,g,n,h1,h2=>by
  unfold euF
  by_cases h:n=0
  ·rw[if_pos h,if_pos h]
  ·rw[if_neg h,if_neg h]
   have:=Oa3 (g:=g) h
   exact Od2 k m (by omega) (by omega)
theorem Ob6 (g:Int):eu g 0=g:=by simp[eu,euF]
theorem Jc2 {g n:Int} (h:n≠0):eu g n=eu n (Int.tmod g n):=by
 have:=Oa3 (g:=g) h
 unfold eu
 conv=>lhs;unfold euF
 rw[if_neg h]
 exact Od2 _ _ (by omega) (by omega)
theorem gf4:∀ (k:Nat) (g n:Int),n.natAbs≤k→(eu g n).natAbs=Int.gcd g n:=by
 intro k
 induction k with
 | zero =>
  intro g n h
  have:n=0:=by omega
  subst this
  rw[Ob6];simp
 | succ k ih =>
  intro g n h
  by_cases h0:n=0
  ·subst h0;rw[Ob6];simp
  ·have:=Oa3 (g:=g) h0
   rw[Jc2 h0,ih n (Int.tmod g n) (by omega)]
   unfold Int.gcd
   rw[Int.natAbs_tmod,Nat.gcd_comm g.natAbs,Nat.gcd_comm n.natAbs,← Nat.gcd_rec]
theorem gf5 (g n:Int):(eu g n).natAbs=Int.gcd g n:=gf4 _ g n (Nat.le_refl _)
theorem pe6:∀ (k:Nat) (g n:Int),n.natAbs≤k→0≤g→0≤n→0≤eu g n:=by
 intro k
 induction k with
 | zero =>
  intro g n h hg _
  have:n=0:=by omega
  subst this
  rw[Ob6];exact hg
 | succ k ih =>
  intro g n h hg hn
  by_cases h0:n=0
  ·subst h0;rw[Ob6];exact hg
  ·have:=Oa3 (g:=g) h0
   rw[Jc2 h0]
   exact ih n _ (by omega) hn (Int.tmod_nonneg _ hg)
theorem Ae6 {g n:Int} (hg:0≤g) (hn:0≤n):eu g n=(Int.gcd g n:Int):=by
 have h1:=pe6 _ g n (Nat.le_refl _) hg hn
 have h2:=gf5 g n
 omega
section
variable {σ:Type} {step:σ→Stp σ} {mk:Int→Int→σ}
theorem Pe4 (h:∀ g n,n≠0→step (mk g n)=.next (mk n (Int.tmod g n))) (h0:∀ g,step (mk g 0)=.exit 1) (g n:Int) (hn:n.natAbs≤9223372036854775808):lp step (mk g n)=(1,mk (eu g n) 0):=by
 have:=zb7 (step:=step) (I:=fun m s=>∃ a c,s=mk a c∧c.natAbs≤m∧eu a c=eu g n) (Q:=fun u s=>(u,s)=(1,mk (eu g n) 0)) (fun m s ⟨a,c,hs,hm,he⟩=>by
  subst hs
  by_cases hc:c=0
  ·subst hc
   rw[Ob6] at he
   subst he
   exact .inl ⟨1,h0 _,rfl⟩
  ·have ht:=Oa3 (g:=a) hc
   exact .inr ⟨_,m - 1,by omega,h a c hc,c,_,rfl,by omega,by rw[← he,Jc2 hc]⟩) n.natAbs (mk g n) (by omega) ⟨g,n,rfl,Nat.le_refl _,rfl⟩
 exact this
theorem yc1 (h:∀ g n,0 < n→step (mk g n)=.next (mk n (Int.tmod g n))) (h0:∀ g,step (mk g 0)=.exit 1) (g n:Int) (hg:0≤g) (h1:0≤n) (hn:n≤9223372036854775808):lp step (mk g n)=(1,mk (eu g n) 0):=by
 have:=zb7 (step:=step) (I:=fun m s=>∃ a c,s=mk a c∧c.natAbs≤m∧0≤a∧0≤c∧eu a c=eu g n) (Q:=fun u s=>(u,s)=(1,mk (eu g n) 0)) (fun m s ⟨a,c,hs,hm,ha,hc0,he⟩=>by
  subst hs
  by_cases hc:c=0
  ·subst hc
   rw[Ob6] at he
   subst he
   exact .inl ⟨1,h0 _,rfl⟩
  ·have ht:=Oa3 (g:=a) hc
   exact .inr ⟨_,m - 1,by omega,h a c (by omega),c,_,rfl,by omega,hc0,Int.tmod_nonneg _ ha,by rw[← he,Jc2 hc]⟩) n.natAbs (mk g n) (by omega) ⟨g,n,rfl,Nat.le_refl _,hg,h1,rfl⟩
 exact this
end
theorem mb {a c A C:Int} (h1:-A≤a) (h2:a≤A) (h3:-C≤c) (h4:c≤C):-(A*C)≤a*c∧a*c≤A*C:=by
 have hA:a.natAbs≤A.natAbs:=by omega
 have hC:c.natAbs≤C.natAbs:=by omega
 have h5:=Nat.mul_le_mul hA hC
 rw[← Int.natAbs_mul,← Int.natAbs_mul] at h5
 have h6:0≤A*C:=Int.mul_nonneg (by omega) (by omega)
 omega
end Go.Ev.L
namespace Go.Proofs
open Go.Shelf
set_option maxRecDepth 100000 in
def Ce.sortLayV_ren:Go.Shelf.Ren:=⟨fun | 6=>146 | 15=>180 | 14=>187 | 28=>207 | 29=>208 | 20=>212 | 21=>213 | 22=>214 | 23=>215 | 24=>216 | 25=>217 | 26=>218 | 27=>219 | 46=>230 | 47=>224 | 48=>225 | 49=>231 | 50=>232 | 57=>234 | n=>n,fun | 22=>33 | 24=>27 | 25=>112 | 3=>3 | 39=>173 | 0=>0 | 53=>197 | 55=>199 | 4=>4 | 46=>191 | 45=>190 | 50=>50 | 5=>5 | 9=>9 | 66=>210 | 70=>214 | 76=>218 | 77=>219 | n=>n,fun | n=>n⟩
set_option maxRecDepth 100000 in
theorem Ce.sortLayV:Go.Proofs.SlLaysF0.n6 Tryz.prog Ce.sortLayV_ren:={
 mixed:=by kernel_rfl
 f6:=⟨Tryz.f146.name,by decide,Tryz.func146.trans (congrArg some (by kernel_rfl))⟩
 f14:=⟨Tryz.f187.name,by decide,Tryz.func187.trans (congrArg some (by kernel_rfl))⟩
 f15:=Tryz.func180.trans (congrArg some (by kernel_rfl))
 f20:=⟨Tryz.f212.name,by decide,Tryz.func212.trans (congrArg some (by kernel_rfl))⟩
 f21:=⟨Tryz.f213.name,by decide,Tryz.func213.trans (congrArg some (by kernel_rfl))⟩
 f22:=⟨Tryz.f214.name,by decide,Tryz.func214.trans (congrArg some (by kernel_rfl))⟩
 f23:=⟨Tryz.f215.name,by decide,Tryz.func215.trans (congrArg some (by kernel_rfl))⟩
 f24:=⟨Tryz.f216.name,by decide,Tryz.func216.trans (congrArg some (by kernel_rfl))⟩
 f25:=⟨Tryz.f217.name,by decide,Tryz.func217.trans (congrArg some (by kernel_rfl))⟩
 f26:=⟨Tryz.f218.name,by decide,Tryz.func218.trans (congrArg some (by kernel_rfl))⟩
 f27:=⟨Tryz.f219.name,by decide,Tryz.func219.trans (congrArg some (by kernel_rfl))⟩
 f28:=Tryz.func207.trans (congrArg some (by kernel_rfl))
 f29:=Tryz.func208.trans (congrArg some (by kernel_rfl))
 f46:=⟨Tryz.f230.name,by decide,Tryz.func230.trans (congrArg some (by kernel_rfl))⟩
 f47:=Tryz.func224.trans (congrArg some (by kernel_rfl))
 f48:=Tryz.func225.trans (congrArg some (by kernel_rfl))
 f49:=⟨Tryz.f231.name,by decide,Tryz.func231.trans (congrArg some (by kernel_rfl))⟩
 f50:=⟨Tryz.f232.name,by decide,Tryz.func232.trans (congrArg some (by kernel_rfl))⟩
 f57:=⟨Tryz.f234.name,by decide,Tryz.func234.trans (congrArg some (by kernel_rfl))⟩
 t0:=Tryz.underlying0
 a0:=Tryz.isAgg0
 z0:=Tryz.sizeOf0
 v0:=Tryz.zeroValue0
 t3:=Tryz.underlying3
 a3:=Tryz.isAgg3
 z3:=Tryz.sizeOf3
 v3:=Tryz.zeroValue3
 t4:=Tryz.underlying4
 a4:=Tryz.isAgg4
 z4:=Tryz.sizeOf4
 v4:=Tryz.zeroValue4
 t5:=Tryz.underlying5
 a5:=Tryz.isAgg5
 z5:=Tryz.sizeOf5
 v5:=Tryz.zeroValue5
 t9:=Tryz.underlying9
 a9:=Tryz.isAgg9
 z9:=Tryz.sizeOf9
 v9:=Tryz.zeroValue9
 t22:=Tryz.underlying33
 a22:=Tryz.isAgg33
 z22:=Tryz.sizeOf33
 v22:=Tryz.zeroValue33
 t25:=Tryz.underlying112
 a25:=Tryz.isAgg112
 z25:=Tryz.sizeOf112
 v25:=Tryz.zeroValue112
 t39:=Tryz.underlying173
 a39:=Tryz.isAgg173
 z39:=Tryz.sizeOf173
 v39:=Tryz.zeroValue173
 t45:=Tryz.underlying190
 a45:=Tryz.isAgg190
 z45:=Tryz.sizeOf190
 v45:=Tryz.zeroValue190
 t46:=Tryz.underlying191
 a46:=Tryz.isAgg191
 z46:=Tryz.sizeOf191
 v46:=Tryz.zeroValue191
 t50:=Tryz.underlying50
 a50:=Tryz.isAgg50
 z50:=Tryz.sizeOf50
 v50:=Tryz.zeroValue50
 t53:=Tryz.underlying197
 a53:=Tryz.isAgg197
 z53:=Tryz.sizeOf197
 v53:=Tryz.zeroValue197
 t55:=Tryz.underlying199
 a55:=Tryz.isAgg199
 z55:=Tryz.sizeOf199
 v55:=Tryz.zeroValue199
 t66:=Tryz.underlying210
 a66:=Tryz.isAgg210
 z66:=Tryz.sizeOf210
 v66:=Tryz.zeroValue210
 t70:=Tryz.underlying214
 a70:=Tryz.isAgg214
 z70:=Tryz.sizeOf214
 v70:=Tryz.zeroValue214
 t76:=Tryz.underlying218
 a76:=Tryz.isAgg218
 z76:=Tryz.sizeOf218
 v76:=Tryz.zeroValue218
 t77:=Tryz.underlying219
 a77:=Tryz.isAgg219
 z77:=Tryz.sizeOf219
 v77:=Tryz.zeroValue219 }
end Go.Proofs
namespace Go.Ev.Ce
open Go Go.Ev Go.Ev.L Go.Proofs Go.Sort
theorem ge8 (x y:Int):ga2 x y=some (i (ob2 x y),[]):=by
 unfold ga2 Da6 ob2
 simp only[bne_self_eq_false,xb1,decide_eq_true_eq,Bool.false_eq_true,if_false]
 split<;>(try split)<;>rfl
theorem gf6 (x y:Int):W9 x y=ob2 x y:=by unfold W9;rw[ge8];rfl
theorem gf7 (x y:Int):X0 x y=true:=by unfold X0;rw[ge8];rfl
def orI (a c d:Int):Int:=if a=0 then if c=0 then d else c else a
theorem Pe5 (a c d:Int):((lp (Z0 ⟨[a,c,d],3⟩) ⟨0⟩).1=1∧gL tI [a,c,d] (lp (Z0 ⟨[a,c,d],3⟩) ⟨0⟩).2.is8.toNat=orI a c d)∨((lp (Z0 ⟨[a,c,d],3⟩) ⟨0⟩).1=2∧orI a c d=0):=by
 have g0:gL tI [a,c,d] 0=a:=rfl
 have g1:gL tI [a,c,d] 1=c:=rfl
 have g2:gL tI [a,c,d] 2=d:=rfl
 refine zb7 (step:=Z0 ⟨[a,c,d],3⟩) (I:=fun m s=>(m=3∧s=⟨0⟩)∨(m=2∧s=⟨1⟩∧a=0)∨(m=1∧s=⟨2⟩∧a=0∧c=0)∨(m=0∧s=⟨3⟩∧a=0∧c=0∧d=0))
  (Q:=fun t s=>(t=1∧gL tI [a,c,d] s.is8.toNat=orI a c d)∨(t=2∧orI a c d=0)) (fun m s hi=>?_) 3 ⟨0⟩ (by omega) (.inl ⟨rfl,rfl⟩)
 rcases hi with⟨rfl,rfl⟩ | ⟨rfl,rfl,ha⟩ | ⟨rfl,rfl,ha,hc⟩ | ⟨rfl,rfl,ha,hc,hd⟩
 ·by_cases h:a=0
  ·exact .inr ⟨⟨1⟩,2,rfl,by subst h;rfl,.inr (.inl ⟨rfl,rfl,h⟩)⟩
  ·refine .inl ⟨1,?_,.inl ⟨rfl,by unfold orI;rw[if_neg h];rfl⟩⟩
   show sl (a != 0) (Stp.exit 1) (Stp.next (⟨W (0+1)⟩:J7))=_
   rw[bt (by simpa using h)]
 ·by_cases h:c=0
  ·exact .inr ⟨⟨2⟩,1,rfl,by subst h;rfl,.inr (.inr (.inl ⟨rfl,rfl,ha,h⟩))⟩
  ·refine .inl ⟨1,?_,.inl ⟨rfl,by unfold orI;rw[if_pos ha,if_neg h];rfl⟩⟩
   show sl (c != 0) (Stp.exit 1) (Stp.next (⟨W (1+1)⟩:J7))=_
   rw[bt (by simpa using h)]
 ·by_cases h:d=0
  ·exact .inr ⟨⟨3⟩,0,rfl,by subst h;rfl,.inr (.inr (.inr ⟨rfl,rfl,ha,hc,h⟩))⟩
  ·refine .inl ⟨1,?_,.inl ⟨rfl,by unfold orI;rw[if_pos ha,if_pos hc];rfl⟩⟩
   show sl (d != 0) (Stp.exit 1) (Stp.next (⟨W (2+1)⟩:J7))=_
   rw[bt (by simpa using h)]
 ·exact .inl ⟨2,rfl,.inr ⟨rfl,by unfold orI;rw[if_pos ha,if_pos hc];exact hd⟩⟩
theorem af3 (a c d:Int):Ka8 [a,c,d]=some (i (orI a c d),[]):=by
 have h:=Pe5 a c d
 unfold Ka8
 simp only[l5,j7]
 rw[show ((([a,c,d]:List Int).length:Nat):Int)=3 from rfl]
 generalize lp (Z0 ⟨[a,c,d],3⟩) ⟨0⟩=r at *
 rcases h with⟨h1,h2⟩ | ⟨h1,h2⟩
 ·rw[h1,h2];rfl
 ·rw[h1,h2];rfl
theorem Gf0 (a c d:Int):Za9 [a,c,d]=orI a c d:=by unfold Za9;rw[af3];rfl
theorem Gf1 (a c d:Int):ab0 [a,c,d]=true:=by unfold ab0;rw[af3];rfl
def pb8 (x y:V3):Int:=orI (ob2 x.x y.x) (ob2 x.y y.y) (ob2 x.z y.z)
def LtV (x y:V3):Prop:=x.x < y.x∨x.x=y.x∧(x.y < y.y∨x.y=y.y∧x.z < y.z)
instance (x y:V3):Decidable (LtV x y):=by unfold LtV;exact inferInstance
theorem Pe6 (x y:V3):pb8 x y < 0↔LtV x y:=by
 have h1:=yb5 x.x y.x;have h2:=fc8 x.x y.x
 have h3:=yb5 x.y y.y;have h4:=fc8 x.y y.y
 have h5:=yb5 x.z y.z
 unfold pb8 orI LtV
 split
 ·split<;>omega
 ·omega
theorem Ga8 (x y:V3):ltOf pb8 x y=decide (LtV x y):=by
 unfold ltOf
 rw[decide_eq_decide]
 exact Pe6 x y
theorem tf9:SWO (ltOf pb8) where
 irrefl x:=by rw[Ga8];simp[LtV]
 trans x y z h1 h2:=by rw[Ga8,decide_eq_true_eq] at *;unfold LtV at *;omega
 ntrans x y z h1 h2:=by rw[Ga8,decide_eq_false_iff_not] at *;unfold LtV at *;omega
theorem Gf2 (x y:V3) (h1:ltOf pb8 x y=false) (h2:ltOf pb8 y x=false):x=y:=by
 rw[Ga8,decide_eq_false_iff_not] at *
 unfold LtV at *
 obtain⟨a,b,c⟩:=x;obtain⟨a',b',c'⟩:=y
 simp only at *
 have:a=a'∧b=b'∧c=c':=by omega
 obtain⟨rfl,rfl,rfl⟩:=this
 rfl
theorem yc2 (x y:V3):va6 x y=some (i (pb8 x y),[]):=by
 unfold va6 pb8
 simp only[gf6,gf7,Gf0,Gf1,o0]
theorem gf8 (x y:V3):Ka9 x y=pb8 x y:=by unfold Ka9;rw[yc2];rfl
theorem gf9 (x y:V3):La0 x y=true:=by unfold La0;rw[yc2];rfl
theorem hf0 (x y:V3):(gb6 [.agg (tV.row x),.agg (tV.row y)] []).run=some (i (pb8 x y),[]):=by
 have:(gb6 [.agg (tV.row x),.agg (tV.row y)] []).run=sel (La0 x y) (some (i (Ka9 x y),[])) none:=by kernel_rfl
 rw[this,gf9,gf8]
def Ae7 (p:V3):List Value:=[.int .i64 p.x,.int .i64 p.y,.int .i64 p.z]
instance:Inhabited V3:=⟨⟨0,0,0⟩⟩
def Cb2 (l:List V3):List V3:=l.mergeSort fun x y=>!ltOf pb8 y x
theorem pd3 (l:List V3):(Cb2 l).length=l.length:=List.length_mergeSort l
noncomputable def ra3:Sum:=fe6 tV 147 27 Cb2
theorem pe7:Ce.sortLayV_ren.f 6=146:=by kernel_rfl
theorem Uc6:Ce.sortLayV_ren.t 24=27:=by kernel_rfl
set_option maxRecDepth 100000 in
theorem La1:g8 prog G 146 ra3:=by
 refine fe7 (enc:=Ae7) (cf:=pb8) ⟨_,Tryz.func146,by kernel_rfl,of_decide_eq_true (by kernel_rfl)⟩ (by decide) (fun _=>rfl) (fun r h=>Oa4 (n:=3) h) (fun x v hv=>?_) pd3
  (fun blk off size w=>fe5 Dc3 hf0 (fun _=>rfl) (fun _=>rfl) _ _ _ _ _) (fun blk cap d w hcl hH hb hs=>?_)
 ·simp[Ae7] at hv
  rcases hv with rfl | rfl | rfl<;>rfl
 ·have eg:∀ args w,(callFunc 147 args).run Tryz.prog w=.ok (.enter 147 args) w:=enters_of Tryz.func147 (by kernel_rfl) rfl
  have:=AnyQ.slices_SortFunc Ce.sortLayV 3 (by rw[Uc6];exact Tryz.isAgg27) (by rw[Uc6];exact Tryz.sizeOf27) Ae7 (fun _=>rfl) (fun x v hv=>by simp[Ae7] at hv;rcases hv with rfl | rfl | rfl<;>rfl) pb8 tf9 147 #[] blk 0 cap d w eg (hcl 0 d.size) hH hb hs
  rw[pe7] at this
  refine this.mono fun e w' ⟨h1,d',n,os,h2,h3,h4⟩=>⟨h1,n,os,?_⟩
  have h5:=sorted_unique_holds tf9 Gf2 d d' h2 h3
  rw[h4]
  show _=sortWorldK Ae7 3 w blk 0 n (d.toList.mergeSort fun x y=>!ltOf pb8 y x).toArray os
  rw[← h5]
end Go.Ev.Ce
section
namespace Go.Ev.Ce
open Go Go.Ev Go.Ev.L Go.Proofs
set_option maxRecDepth 100000
noncomputable def Pb6:List (Nat×Sum):=[]
theorem Jb4:i7 prog G Pb6:=trivial
structure la7 where
 alt:Nat
 ns0:Nat
 eh0:List (List b7)
noncomputable def R8 {α:Type} (kk:la7→α) (x:V3×List V3):α:=(sl (Nat.beq (len (m9 (fun k=>(tV).row (gL tV (x.1::x.2) k)) (List.range (List.length x.2+1)))) 0) (kk ⟨1,0,[]⟩) (sl (Nat.beq 0 0&&Nat.ble ((0+(len (m9 (fun k=>(tV).row (gL tV (x.1::x.2) k)) (List.range (List.length x.2+1)))))*24) room) (kk ⟨1,(0+(len (m9 (fun k=>(tV).row (gL tV (x.1::x.2) k)) (List.range (List.length x.2+1))))),(app [] (m9 (fun k=>(tV).row (gL tV (x.1::x.2) k)) (List.range (List.length x.2+1))))⟩) (kk ⟨0,0,[]⟩)))
noncomputable def ca8 (x:V3×List V3):la7:=R8 (fun r=>r) x
noncomputable def za0 (r:la7):DT (b7×List b8):=(.ite (Nat.beq r.alt 1) (.ret ((.sl 0 0 r.ns0 0),[⟨27,3,r.eh0,true,false,0⟩])) .fail)
theorem Yb4 {α β:Type} (F:α→β) (kk:la7→α) (x:V3×List V3):F (R8 kk x)=R8 (fun r=>F (kk r)) x:=by unfold R8;(repeat' apply k9 (f:=F))<;>rfl
noncomputable def Fa0:Sum:=Q5 (Id3 tV) (fun x=>za0 (ca8 x))
theorem Xa9:g8 prog G 145 Fa0:=kb8 (bd Df0 Jb4) fun x=>p5 (Eq.trans (b:=R8 (fun r=>(za0 r).run) x) (by kernel_rfl) (Yb4 (fun r=>(za0 r).run) (fun r=>r) x).symm)
structure ga4 where
 ns0:Nat
 eh0:List (List b7)
noncomputable def ra4:List (Nat×Sum):=[]
theorem zb8:i7 prog G ra4:=trivial
structure B5 where
 ns0:Nat
 os4:Nat
 ns4:Nat
structure o7 where
 is3:Int
 is5:Int
 eh0:List (List b7)
noncomputable def tb6 (p:B5) (s:o7):St:=⟨((.sl 0 0 p.ns0 0)::(.unk::(.unk::((i s.is3)::((.sl 0 p.os4 p.ns4 0)::((i s.is5)::(ra 55 []))))))),[⟨27,3,s.eh0,true,false,0⟩]⟩
noncomputable def J8 {α:Type} (k:o7→α) (e:Nat→α) (z:α) (p:B5) (s:o7):α:=(sl (decide (s.is5 < (↑p.ns4:Int))) (sl (inB s.is5 p.ns4) (sl (ldR tV s.eh0 (p.os4+s.is5.toNat)) (sl (inB (W (s.is5 - 1)) p.ns4) (sl (ldR tV s.eh0 (p.os4+(W (s.is5 - 1)).toNat)) (sl (!(((rdR tV s.eh0 (p.os4+s.is5.toNat)).x==(rdR tV s.eh0 (p.os4+(W (s.is5 - 1)).toNat)).x)&&(((rdR tV s.eh0 (p.os4+s.is5.toNat)).y==(rdR tV s.eh0 (p.os4+(W (s.is5 - 1)).toNat)).y)&&(((rdR tV s.eh0 (p.os4+s.is5.toNat)).z==(rdR tV s.eh0 (p.os4+(W (s.is5 - 1)).toNat)).z)&&true)))) (sl (inB s.is5 p.ns4) (sl (ldR tV s.eh0 (p.os4+s.is5.toNat)) (sl (inB s.is3 p.ns0) (sl ((Nat.blt (0+s.is3.toNat) (len s.eh0))&&(Nat.ble (0+3) (len (i6 s.eh0 (0+s.is3.toNat))))) (k ⟨(W (s.is3+1)),(W (s.is5+1)),(setAt s.eh0 (0+s.is3.toNat) (J1 (i6 s.eh0 (0+s.is3.toNat)) 0 [(i (rdR tV s.eh0 (p.os4+s.is5.toNat)).x),(i (rdR tV s.eh0 (p.os4+s.is5.toNat)).y),(i (rdR tV s.eh0 (p.os4+s.is5.toNat)).z)]))⟩) z) z) z) z) (k ⟨s.is3,(W (s.is5+1)),s.eh0⟩)) z) z) z) z) (e 1))
noncomputable def p6 (p:B5) (s:o7):Stp o7:=J8 .next .exit .fail p s
noncomputable def la8:Lo B5 o7:=⟨En ra4,1,ze8,[1,1,0,1,4,4,1,0,4,1,2,1,0,1,4,4],[0,3,4,5],.p,[⟨((.s (.o (.sl 0 0 (some 0) none)))::((.s (.o .unk))::((.s (.o .unk))::((.s (.o (.int .i64)))::((.s (.o (.sl 0 0 none none)))::((.s (.o (.int .i64)))::(ru2 55 []))))))),[⟨27,3,true,none⟩],fun a H=>(⟨(slN (slT a 0)),(slO (slT a 4)),(slN (slT a 4))⟩,⟨(toI (slT a 3)),(toI (slT a 5)),(elT H 0)⟩)⟩],p6,[(some 2,fun p s=>⟨((.sl 0 0 p.ns0 0)::(.unk::(.unk::((i s.is3)::((.sl 0 p.os4 p.ns4 0)::((i s.is5)::(ra 23 ((i s.is5)::((.sl 0 p.os4 p.ns4 0)::((i (↑p.ns4:Int))::((b (decide (s.is5 < (↑p.ns4:Int))))::(ra 28 [])))))))))))),[⟨27,3,s.eh0,true,false,0⟩]⟩)],tb6⟩
theorem tb7:la8.Ok:=Lo.ok [] (by kernel_rfl) .nil rfl (.cons (fun a H=>by kernel_rfl) .nil) fun p s=>(.of @J8 (fun F _ _ _ _ _=>by unfold J8;(repeat' apply k9 (f:=F))<;>rfl) (by kernel_rfl))
structure O1 where
 ns0:Nat
 eh0:List (List b7)
structure r7 where
 is3:Int
noncomputable def tb8 (p:O1) (s:r7):St:=⟨((.sl 0 0 p.ns0 0)::(.unk::(.unk::((i s.is3)::(ra 57 []))))),[⟨27,3,p.eh0,true,false,0⟩]⟩
noncomputable def J9 {α:Type} (k:r7→α) (e:Nat→α) (z:α) (p:O1) (s:r7):α:=let t1:=(lp (p6 (⟨p.ns0,(0+s.is3.toNat),(p.ns0 - s.is3.toNat)⟩:B5)) (⟨s.is3,1,p.eh0⟩:o7));(sl (decide (s.is3 < (↑p.ns0:Int))) (sl (inB s.is3 p.ns0) (sl (ldR tV p.eh0 (0+s.is3.toNat)) (sl (inB (W (s.is3 - 1)) p.ns0) (sl (ldR tV p.eh0 (0+(W (s.is3 - 1)).toNat)) (sl (((rdR tV p.eh0 (0+s.is3.toNat)).x==(rdR tV p.eh0 (0+(W (s.is3 - 1)).toNat)).x)&&(((rdR tV p.eh0 (0+s.is3.toNat)).y==(rdR tV p.eh0 (0+(W (s.is3 - 1)).toNat)).y)&&(((rdR tV p.eh0 (0+s.is3.toNat)).z==(rdR tV p.eh0 (0+(W (s.is3 - 1)).toNat)).z)&&true))) (sl (inB s.is3 (p.ns0+1)) (sl (Nat.beq t1.1 1) (sl (inB t1.2.is3 (p.ns0+1)) (sl (inB t1.2.is3 (p.ns0+1)) (e 1) z) z) z) z) (k ⟨(W (s.is3+1))⟩)) z) z) z) z) (e 2))
noncomputable def L5 (p:O1) (s:r7):Stp r7:=J9 .next .exit .fail p s
noncomputable def la9:Lo O1 r7:=⟨En ra4,1,ze8,[1,1,0,1,4,4],[0,3],(.s .p (.s (.b (.s .p (.c (.s .p (.s (.s .p (.b (.u la8.ls))) .p)) .p))) .p)),[⟨((.s (.o (.sl 0 0 (some 0) none)))::((.s (.o .unk))::((.s (.o .unk))::((.s (.o (.int .i64)))::(ru2 57 []))))),[⟨27,3,true,none⟩],fun a H=>(⟨(slN (slT a 0)),(elT H 0)⟩,⟨(toI (slT a 3))⟩)⟩],L5,[(none,fun p s=>let t1:=(lp (p6 (⟨p.ns0,(0+s.is3.toNat),(p.ns0 - s.is3.toNat)⟩:B5)) (⟨s.is3,1,p.eh0⟩:o7));⟨[(.sl 0 0 (t1.2.is3.toNat - 0) 0)],[⟨27,3,(app (C4 t1.2.eh0 (0+t1.2.is3.toNat)) (app (List.replicate (p.ns0 - t1.2.is3.toNat) [(i 0),(i 0),(i 0)]) (g9 t1.2.eh0 ((0+t1.2.is3.toNat)+(p.ns0 - t1.2.is3.toNat))))),true,false,0⟩]⟩),(some 0,fun p s=>⟨((.sl 0 0 p.ns0 0)::(.unk::(.unk::((i s.is3)::(ra 6 ((i s.is3)::((.sl 0 0 p.ns0 0)::((i (↑p.ns0:Int))::((b (decide (s.is3 < (↑p.ns0:Int))))::(ra 47 [])))))))))),[⟨27,3,p.eh0,true,false,0⟩]⟩)],tb8⟩
theorem tb9:la9.Ok:=Lo.ok [la8.pr] (by kernel_rfl) (.cons tb7 .nil) rfl (.cons (fun a H=>by kernel_rfl) .nil) fun p s=>(.of @J9 (fun F _ _ _ _ _=>by unfold J9;(repeat' apply k9 (f:=F))<;>rfl) (by kernel_rfl))
structure ga5 where
 alt:Nat
 ns0:Nat
 eh0:List (List b7)
noncomputable def L6 {α:Type} (kk:ga5→α) (x:ga4):α:=let t1:=(lp (L5 (⟨x.ns0,x.eh0⟩:O1)) (⟨1⟩:r7));let t2:=(lp (p6 (⟨x.ns0,(0+t1.2.is3.toNat),(x.ns0 - t1.2.is3.toNat)⟩:B5)) (⟨t1.2.is3,1,x.eh0⟩:o7));(sl (decide ((↑x.ns0:Int) < 2)) (kk ⟨1,x.ns0,x.eh0⟩) (sl (Nat.beq t1.1 1) (kk ⟨1,(t2.2.is3.toNat - 0),(app (C4 t2.2.eh0 (0+t2.2.is3.toNat)) (app (List.replicate (x.ns0 - t2.2.is3.toNat) [(i 0),(i 0),(i 0)]) (g9 t2.2.eh0 ((0+t2.2.is3.toNat)+(x.ns0 - t2.2.is3.toNat)))))⟩) (sl (Nat.beq t1.1 2) (kk ⟨1,x.ns0,x.eh0⟩) (kk ⟨0,0,[]⟩))))
noncomputable def L7 (x:ga4):ga5:=L6 (fun r=>r) x
noncomputable def ra5 (x:ga4) (r:ga5):DT (b7×List b8):=(.ite (Nat.beq r.alt 1) (.ret ((.sl 0 0 r.ns0 0),[⟨27,3,r.eh0,true,false,0⟩])) .fail)
theorem Jb5 {α β:Type} (F:α→β) (kk:ga5→α) (x:ga4):F (L6 kk x)=L6 (fun r=>F (kk r)) x:=by unfold L6;(repeat' apply k9 (f:=F))<;>rfl
noncomputable def va7:Sum:=nb6 ⟨[(.s (.o (.sl 0 0 (some 0) none)))],[⟨27,3,true,none⟩],fun a H=>(⟨(slN (slT a 0)),(elT H 0)⟩,())⟩ (fun x=>ra5 x (L7 x))
theorem Na6:g8 prog G 148 va7:=V5 (enc:=fun x=>⟨[(.sl 0 0 x.ns0 0)],[⟨27,3,x.eh0,true,false,0⟩]⟩) (fun a H=>by kernel_rfl) (bd Df2 zb8) fun x=>sa8 (.s .p (.s .p (.s (.s .p (.b (.u la9.ls))) .p))) [la9.pr] (by kernel_rfl) (.cons tb9 .nil) (Eq.trans (b:=L6 (fun r=>(ra5 x r).run) x) (by kernel_rfl) (Jb5 (fun r=>(ra5 x r).run) (fun r=>r) x).symm)
noncomputable def qc7:List (Nat×Sum):=[(145,Fa0),(146,ra3),(148,va7)]
theorem hc5:i7 prog G qc7:=⟨Xa9,La1,Na6,trivial⟩
noncomputable def oa4 (x:V3×List V3):Option (b7×List b8):=let t1:=(ca8 (hC tV (fun k=>(tV).row (gL tV (x.1::x.2) k)),tC tV (List.length x.2) (fun k=>(tV).row (gL tV (x.1::x.2) k))));let t2:=(L7 ⟨t1.ns0,(app (bL tV (Cb2 (slR tV t1.eh0 0 t1.ns0))) (g9 t1.eh0 t1.ns0))⟩);(sl (okL tV (List.length x.2+1) (fun k=>(tV).row (gL tV (x.1::x.2) k))) (sl (Nat.beq t1.alt 1) (sl (Bool.and (Nat.ble t1.ns0 room) (Bool.and (Nat.ble t1.ns0 (len t1.eh0)) (okS tV t1.eh0 0 t1.ns0))) (sl (Nat.beq t2.alt 1) (some ((.sl 0 0 t2.ns0 0),[⟨27,3,t2.eh0,true,false,0⟩])) none) none) none) none)
noncomputable def Wa5 (x:V3×List V3):List V3:=C9 (one (r1L tV)) (oa4 x)
noncomputable def Wa6 (x:V3×List V3):Bool:=okO (one (r1L tV)) (oa4 x)
noncomputable def Cb3:Sum:=Q5 (Id3 tV) (fun x=>.guard (Wa6 x) (.ret ((one (r1L tV)).enc (Wa5 x),[])))
theorem qc8:g8 prog G 92 Cb3:=ya9 (bd b92 hc5) (one (r1L tV)) (o:=oa4) fun x=>p5 (by kernel_rfl)
end Go.Ev.Ce
end
section
namespace Go.Ev.Ce
open Go Go.Ev Go.Ev.L Go.Proofs
set_option maxRecDepth 100000
noncomputable def Ra3:List (Nat×Sum):=[(118,zb5),(92,Cb3),(177,Wa0),(52,gc5),(120,Sb4),(121,Ga1),(119,va1)]
theorem Uc7:i7 prog G Ra3:=⟨Sb5,qc8,tb2,hd5,Uc2,ob4,Da2,trivial⟩
structure O2 where
 is3:Int
 is4:Int
 is9:Int
 r8:Int
 T0:Int
 n7:Int
 Ca5:Int
 b9:List V3
 e8:List V3
structure A2 where
 ph:Nat
 A5:Int
 eh4:List (List b7)
 v8:Nat
 eh5:List (List b7)
noncomputable def qc9 (p:O2) (s:A2):St:=⟨(.unk::((.ptr 0 0 0 0)::(.unk::((i p.is3)::((i p.is4)::(ra 4 ((i p.is9)::((i p.r8)::(ra 5 ((i p.T0)::((i p.n7)::(ra 5 ((i p.Ca5)::((i s.A5)::(ra 35 ((i 0)::(.unk::((.ptr 1 0 0 0)::((.v (.slice none 0 0))::((i 0)::(.unk::((.ptr 2 0 0 0)::((.ptr 3 0 0 0)::(ra 28 [])))))))))))))))))))))))),[⟨0,1,[[(eL tV p.b9)]],true,false,0⟩,⟨0,1,[[(eL tV p.e8)]],true,false,0⟩,⟨0,0,[[(.ptr 4 0 0 0)]],true,false,0⟩,⟨0,0,[[(.v (.slice none 0 0))]],true,false,0⟩,⟨143,0,s.eh4,true,false,0⟩]⟩
noncomputable def rc0 (p:O2) (s:A2):St:=⟨(.unk::((.ptr 0 0 0 0)::(.unk::((i p.is3)::((i p.is4)::(ra 4 ((i p.is9)::((i p.r8)::(ra 5 ((i p.T0)::((i p.n7)::(ra 5 ((i p.Ca5)::((i s.A5)::(ra 35 ((i 0)::(.unk::((.ptr 1 0 0 0)::((.v (.slice none 0 0))::((i 0)::(.unk::((.ptr 2 0 0 0)::((.ptr 3 0 0 0)::(ra 28 [])))))))))))))))))))))))),[⟨0,1,[[(eL tV p.b9)]],true,false,0⟩,⟨0,1,[[(eL tV p.e8)]],true,false,0⟩,⟨0,0,[[(.ptr 4 0 0 0)]],true,false,0⟩,⟨0,0,[[(.sl 5 0 s.v8 0)]],true,false,0⟩,⟨143,0,s.eh4,true,false,0⟩,⟨73,4,s.eh5,true,false,0⟩]⟩
noncomputable def Dc4 (p:O2) (s:A2):St:=(sel (Nat.beq s.ph 1) (rc0 p s) (qc9 p s))
noncomputable def R9 {α:Type} (k:A2→α) (e:Nat→α) (z:α) (p:O2) (s:A2):α:=let t1:=(F8 (gL tV p.b9 s.A5.toNat) (gL tV p.b9 p.is4.toNat) (gL tV p.b9 p.is3.toNat));let t2:=(xa6 t1.1);let t3:=(ba5 (rt tV p.e8) t2);let t4:=(ba5 (rt tV p.e8) t1.1);(sl (decide (s.A5 < p.Ca5)) (sl (inB s.A5 (List.length p.b9)) (sl (inB p.is4 (List.length p.b9)) (sl (inB p.is3 (List.length p.b9)) (sl (ea4 (gL tV p.b9 s.A5.toNat) (gL tV p.b9 p.is4.toNat) (gL tV p.b9 p.is3.toNat)) (sl t1.2 (sl t1.2 (sl (Fa5 4 [(0,(.int .i64)),(1,(.int .i64)),(2,(.int .i64)),(3,(.int .i64))] [(i t1.1.n.x),(i t1.1.n.y),(i t1.1.n.z),(i t1.1.b)] s.eh4) (sl (Fa5 4 [(0,(.int .i64)),(1,(.int .i64)),(2,(.int .i64)),(3,(.int .i64))] [(i t2.n.x),(i t2.n.y),(i t2.n.z),(i t2.b)] s.eh4) (k ⟨0,(W (s.A5+1)),s.eh4,0,[]⟩) (sl (okE tV p.e8) (sl (G3 (rt tV p.e8) t2) (sl (!t3) (k ⟨1,(W (s.A5+1)),(U1 [(0,(.int .i64)),(1,(.int .i64)),(2,(.int .i64)),(3,(.int .i64))] [(i t2.n.x),(i t2.n.y),(i t2.n.z),(i t2.b)] [(i t2.n.x),(i t2.n.y),(i t2.n.z),(i t2.b),(b true)] s.eh4),1,[[(i t2.n.x),(i t2.n.y),(i t2.n.z),(i t2.b)]]⟩) (k ⟨0,(W (s.A5+1)),(U1 [(0,(.int .i64)),(1,(.int .i64)),(2,(.int .i64)),(3,(.int .i64))] [(i t2.n.x),(i t2.n.y),(i t2.n.z),(i t2.b)] [(i t2.n.x),(i t2.n.y),(i t2.n.z),(i t2.b),(b true)] s.eh4),0,[]⟩)) z) z)) (sl (okE tV p.e8) (sl (G3 (rt tV p.e8) t1.1) (sl (!t4) (sl (Fa5 4 [(0,(.int .i64)),(1,(.int .i64)),(2,(.int .i64)),(3,(.int .i64))] [(i t2.n.x),(i t2.n.y),(i t2.n.z),(i t2.b)] (U1 [(0,(.int .i64)),(1,(.int .i64)),(2,(.int .i64)),(3,(.int .i64))] [(i t1.1.n.x),(i t1.1.n.y),(i t1.1.n.z),(i t1.1.b)] [(i t1.1.n.x),(i t1.1.n.y),(i t1.1.n.z),(i t1.1.b),(b true)] s.eh4)) (k ⟨1,(W (s.A5+1)),(U1 [(0,(.int .i64)),(1,(.int .i64)),(2,(.int .i64)),(3,(.int .i64))] [(i t1.1.n.x),(i t1.1.n.y),(i t1.1.n.z),(i t1.1.b)] [(i t1.1.n.x),(i t1.1.n.y),(i t1.1.n.z),(i t1.1.b),(b true)] s.eh4),1,[[(i t1.1.n.x),(i t1.1.n.y),(i t1.1.n.z),(i t1.1.b)]]⟩) (sl (okE tV p.e8) (sl (G3 (rt tV p.e8) t2) (sl (!t3) (k ⟨1,(W (s.A5+1)),(U1 [(0,(.int .i64)),(1,(.int .i64)),(2,(.int .i64)),(3,(.int .i64))] [(i t2.n.x),(i t2.n.y),(i t2.n.z),(i t2.b)] [(i t2.n.x),(i t2.n.y),(i t2.n.z),(i t2.b),(b true)] (U1 [(0,(.int .i64)),(1,(.int .i64)),(2,(.int .i64)),(3,(.int .i64))] [(i t1.1.n.x),(i t1.1.n.y),(i t1.1.n.z),(i t1.1.b)] [(i t1.1.n.x),(i t1.1.n.y),(i t1.1.n.z),(i t1.1.b),(b true)] s.eh4)),2,[[(i t1.1.n.x),(i t1.1.n.y),(i t1.1.n.z),(i t1.1.b)],[(i t2.n.x),(i t2.n.y),(i t2.n.z),(i t2.b)]]⟩) (k ⟨1,(W (s.A5+1)),(U1 [(0,(.int .i64)),(1,(.int .i64)),(2,(.int .i64)),(3,(.int .i64))] [(i t2.n.x),(i t2.n.y),(i t2.n.z),(i t2.b)] [(i t2.n.x),(i t2.n.y),(i t2.n.z),(i t2.b),(b true)] (U1 [(0,(.int .i64)),(1,(.int .i64)),(2,(.int .i64)),(3,(.int .i64))] [(i t1.1.n.x),(i t1.1.n.y),(i t1.1.n.z),(i t1.1.b)] [(i t1.1.n.x),(i t1.1.n.y),(i t1.1.n.z),(i t1.1.b),(b true)] s.eh4)),1,[[(i t1.1.n.x),(i t1.1.n.y),(i t1.1.n.z),(i t1.1.b)]]⟩)) z) z)) (sl (Fa5 4 [(0,(.int .i64)),(1,(.int .i64)),(2,(.int .i64)),(3,(.int .i64))] [(i t2.n.x),(i t2.n.y),(i t2.n.z),(i t2.b)] (U1 [(0,(.int .i64)),(1,(.int .i64)),(2,(.int .i64)),(3,(.int .i64))] [(i t1.1.n.x),(i t1.1.n.y),(i t1.1.n.z),(i t1.1.b)] [(i t1.1.n.x),(i t1.1.n.y),(i t1.1.n.z),(i t1.1.b),(b true)] s.eh4)) (k ⟨0,(W (s.A5+1)),(U1 [(0,(.int .i64)),(1,(.int .i64)),(2,(.int .i64)),(3,(.int .i64))] [(i t1.1.n.x),(i t1.1.n.y),(i t1.1.n.z),(i t1.1.b)] [(i t1.1.n.x),(i t1.1.n.y),(i t1.1.n.z),(i t1.1.b),(b true)] s.eh4),0,[]⟩) (sl (okE tV p.e8) (sl (G3 (rt tV p.e8) t2) (sl (!t3) (k ⟨1,(W (s.A5+1)),(U1 [(0,(.int .i64)),(1,(.int .i64)),(2,(.int .i64)),(3,(.int .i64))] [(i t2.n.x),(i t2.n.y),(i t2.n.z),(i t2.b)] [(i t2.n.x),(i t2.n.y),(i t2.n.z),(i t2.b),(b true)] (U1 [(0,(.int .i64)),(1,(.int .i64)),(2,(.int .i64)),(3,(.int .i64))] [(i t1.1.n.x),(i t1.1.n.y),(i t1.1.n.z),(i t1.1.b)] [(i t1.1.n.x),(i t1.1.n.y),(i t1.1.n.z),(i t1.1.b),(b true)] s.eh4)),1,[[(i t2.n.x),(i t2.n.y),(i t2.n.z),(i t2.b)]]⟩) (k ⟨0,(W (s.A5+1)),(U1 [(0,(.int .i64)),(1,(.int .i64)),(2,(.int .i64)),(3,(.int .i64))] [(i t2.n.x),(i t2.n.y),(i t2.n.z),(i t2.b)] [(i t2.n.x),(i t2.n.y),(i t2.n.z),(i t2.b),(b true)] (U1 [(0,(.int .i64)),(1,(.int .i64)),(2,(.int .i64)),(3,(.int .i64))] [(i t1.1.n.x),(i t1.1.n.y),(i t1.1.n.z),(i t1.1.b)] [(i t1.1.n.x),(i t1.1.n.y),(i t1.1.n.z),(i t1.1.b),(b true)] s.eh4)),0,[]⟩)) z) z))) z) z)) (k ⟨0,(W (s.A5+1)),s.eh4,0,[]⟩)) (sl t1.2 z (k ⟨0,(W (s.A5+1)),s.eh4,0,[]⟩))) z) z) z) z) (e 1))
noncomputable def S1 {α:Type} (k:A2→α) (e:Nat→α) (z:α) (p:O2) (s:A2):α:=let t1:=(F8 (gL tV p.b9 s.A5.toNat) (gL tV p.b9 p.is4.toNat) (gL tV p.b9 p.is3.toNat));let t2:=(xa6 t1.1);let t3:=(ba5 (rt tV p.e8) t2);let t4:=(ba5 (rt tV p.e8) t1.1);let a0:=(Nat.beq s.v8 (len s.eh5)&&Nat.ble ((s.v8+1)*32) room);(sl (decide (s.A5 < p.Ca5)) (sl (inB s.A5 (List.length p.b9)) (sl (inB p.is4 (List.length p.b9)) (sl (inB p.is3 (List.length p.b9)) (sl (ea4 (gL tV p.b9 s.A5.toNat) (gL tV p.b9 p.is4.toNat) (gL tV p.b9 p.is3.toNat)) (sl t1.2 (sl t1.2 (sl (Fa5 4 [(0,(.int .i64)),(1,(.int .i64)),(2,(.int .i64)),(3,(.int .i64))] [(i t1.1.n.x),(i t1.1.n.y),(i t1.1.n.z),(i t1.1.b)] s.eh4) (sl (Fa5 4 [(0,(.int .i64)),(1,(.int .i64)),(2,(.int .i64)),(3,(.int .i64))] [(i t2.n.x),(i t2.n.y),(i t2.n.z),(i t2.b)] s.eh4) (k ⟨1,(W (s.A5+1)),s.eh4,s.v8,s.eh5⟩) (sl (okE tV p.e8) (sl (G3 (rt tV p.e8) t2) (sl (!t3) (sl a0 (k ⟨1,(W (s.A5+1)),(U1 [(0,(.int .i64)),(1,(.int .i64)),(2,(.int .i64)),(3,(.int .i64))] [(i t2.n.x),(i t2.n.y),(i t2.n.z),(i t2.b)] [(i t2.n.x),(i t2.n.y),(i t2.n.z),(i t2.b),(b true)] s.eh4),(s.v8+1),(app s.eh5 [[(i t2.n.x),(i t2.n.y),(i t2.n.z),(i t2.b)]])⟩) z) (k ⟨1,(W (s.A5+1)),(U1 [(0,(.int .i64)),(1,(.int .i64)),(2,(.int .i64)),(3,(.int .i64))] [(i t2.n.x),(i t2.n.y),(i t2.n.z),(i t2.b)] [(i t2.n.x),(i t2.n.y),(i t2.n.z),(i t2.b),(b true)] s.eh4),s.v8,s.eh5⟩)) z) z)) (sl (okE tV p.e8) (sl (G3 (rt tV p.e8) t1.1) (sl (!t4) (sl a0 (sl (Fa5 4 [(0,(.int .i64)),(1,(.int .i64)),(2,(.int .i64)),(3,(.int .i64))] [(i t2.n.x),(i t2.n.y),(i t2.n.z),(i t2.b)] (U1 [(0,(.int .i64)),(1,(.int .i64)),(2,(.int .i64)),(3,(.int .i64))] [(i t1.1.n.x),(i t1.1.n.y),(i t1.1.n.z),(i t1.1.b)] [(i t1.1.n.x),(i t1.1.n.y),(i t1.1.n.z),(i t1.1.b),(b true)] s.eh4)) (k ⟨1,(W (s.A5+1)),(U1 [(0,(.int .i64)),(1,(.int .i64)),(2,(.int .i64)),(3,(.int .i64))] [(i t1.1.n.x),(i t1.1.n.y),(i t1.1.n.z),(i t1.1.b)] [(i t1.1.n.x),(i t1.1.n.y),(i t1.1.n.z),(i t1.1.b),(b true)] s.eh4),(s.v8+1),(app s.eh5 [[(i t1.1.n.x),(i t1.1.n.y),(i t1.1.n.z),(i t1.1.b)]])⟩) (sl (okE tV p.e8) (sl (G3 (rt tV p.e8) t2) (sl (!t3) (sl (Nat.beq (s.v8+1) (len (app s.eh5 [[(i t1.1.n.x),(i t1.1.n.y),(i t1.1.n.z),(i t1.1.b)]]))&&Nat.ble (((s.v8+1)+1)*32) room) (k ⟨1,(W (s.A5+1)),(U1 [(0,(.int .i64)),(1,(.int .i64)),(2,(.int .i64)),(3,(.int .i64))] [(i t2.n.x),(i t2.n.y),(i t2.n.z),(i t2.b)] [(i t2.n.x),(i t2.n.y),(i t2.n.z),(i t2.b),(b true)] (U1 [(0,(.int .i64)),(1,(.int .i64)),(2,(.int .i64)),(3,(.int .i64))] [(i t1.1.n.x),(i t1.1.n.y),(i t1.1.n.z),(i t1.1.b)] [(i t1.1.n.x),(i t1.1.n.y),(i t1.1.n.z),(i t1.1.b),(b true)] s.eh4)),((s.v8+1)+1),(app (app s.eh5 [[(i t1.1.n.x),(i t1.1.n.y),(i t1.1.n.z),(i t1.1.b)]]) [[(i t2.n.x),(i t2.n.y),(i t2.n.z),(i t2.b)]])⟩) z) (k ⟨1,(W (s.A5+1)),(U1 [(0,(.int .i64)),(1,(.int .i64)),(2,(.int .i64)),(3,(.int .i64))] [(i t2.n.x),(i t2.n.y),(i t2.n.z),(i t2.b)] [(i t2.n.x),(i t2.n.y),(i t2.n.z),(i t2.b),(b true)] (U1 [(0,(.int .i64)),(1,(.int .i64)),(2,(.int .i64)),(3,(.int .i64))] [(i t1.1.n.x),(i t1.1.n.y),(i t1.1.n.z),(i t1.1.b)] [(i t1.1.n.x),(i t1.1.n.y),(i t1.1.n.z),(i t1.1.b),(b true)] s.eh4)),(s.v8+1),(app s.eh5 [[(i t1.1.n.x),(i t1.1.n.y),(i t1.1.n.z),(i t1.1.b)]])⟩)) z) z)) z) (sl (Fa5 4 [(0,(.int .i64)),(1,(.int .i64)),(2,(.int .i64)),(3,(.int .i64))] [(i t2.n.x),(i t2.n.y),(i t2.n.z),(i t2.b)] (U1 [(0,(.int .i64)),(1,(.int .i64)),(2,(.int .i64)),(3,(.int .i64))] [(i t1.1.n.x),(i t1.1.n.y),(i t1.1.n.z),(i t1.1.b)] [(i t1.1.n.x),(i t1.1.n.y),(i t1.1.n.z),(i t1.1.b),(b true)] s.eh4)) (k ⟨1,(W (s.A5+1)),(U1 [(0,(.int .i64)),(1,(.int .i64)),(2,(.int .i64)),(3,(.int .i64))] [(i t1.1.n.x),(i t1.1.n.y),(i t1.1.n.z),(i t1.1.b)] [(i t1.1.n.x),(i t1.1.n.y),(i t1.1.n.z),(i t1.1.b),(b true)] s.eh4),s.v8,s.eh5⟩) (sl (okE tV p.e8) (sl (G3 (rt tV p.e8) t2) (sl (!t3) (sl a0 (k ⟨1,(W (s.A5+1)),(U1 [(0,(.int .i64)),(1,(.int .i64)),(2,(.int .i64)),(3,(.int .i64))] [(i t2.n.x),(i t2.n.y),(i t2.n.z),(i t2.b)] [(i t2.n.x),(i t2.n.y),(i t2.n.z),(i t2.b),(b true)] (U1 [(0,(.int .i64)),(1,(.int .i64)),(2,(.int .i64)),(3,(.int .i64))] [(i t1.1.n.x),(i t1.1.n.y),(i t1.1.n.z),(i t1.1.b)] [(i t1.1.n.x),(i t1.1.n.y),(i t1.1.n.z),(i t1.1.b),(b true)] s.eh4)),(s.v8+1),(app s.eh5 [[(i t2.n.x),(i t2.n.y),(i t2.n.z),(i t2.b)]])⟩) z) (k ⟨1,(W (s.A5+1)),(U1 [(0,(.int .i64)),(1,(.int .i64)),(2,(.int .i64)),(3,(.int .i64))] [(i t2.n.x),(i t2.n.y),(i t2.n.z),(i t2.b)] [(i t2.n.x),(i t2.n.y),(i t2.n.z),(i t2.b),(b true)] (U1 [(0,(.int .i64)),(1,(.int .i64)),(2,(.int .i64)),(3,(.int .i64))] [(i t1.1.n.x),(i t1.1.n.y),(i t1.1.n.z),(i t1.1.b)] [(i t1.1.n.x),(i t1.1.n.y),(i t1.1.n.z),(i t1.1.b),(b true)] s.eh4)),s.v8,s.eh5⟩)) z) z))) z) z)) (k ⟨1,(W (s.A5+1)),s.eh4,s.v8,s.eh5⟩)) (sl t1.2 z (k ⟨1,(W (s.A5+1)),s.eh4,s.v8,s.eh5⟩))) z) z) z) z) (e 2))
noncomputable def P8 (p:O2) (s:A2):Stp A2:=(sel (Nat.beq s.ph 1) (S1 .next .exit .fail p s) (R9 .next .exit .fail p s))
noncomputable def gb7:Lo O2 A2:=⟨En Ra3,0,Oe7,[1,1,1,1,1,0,1,4,4,1,4,4,1,1,0,4,1,1,4,4,1,1,0,4,1,1,4,4],[1,3,4,9,10,16,17,23,24,60,62,63,64,66,67],.p,[⟨((.s (.o .unk))::((.s (.o (.ptr 0 0 0 0)))::((.s (.o .unk))::((.s (.o (.int .i64)))::((.s (.o (.int .i64)))::(ru2 4 ((.s (.o (.int .i64)))::((.s (.o (.int .i64)))::(ru2 5 ((.s (.o (.int .i64)))::((.s (.o (.int .i64)))::(ru2 5 ((.s (.o (.int .i64)))::((.s (.o (.int .i64)))::(ru2 35 ((.s (.o (.lit .i64 0)))::((.s (.o .unk))::((.s (.o (.ptr 1 0 0 0)))::((.s (.o .nil))::((.s (.o (.lit .i64 0)))::((.s (.o .unk))::((.s (.o (.ptr 2 0 0 0)))::((.s (.o (.ptr 3 0 0 0)))::(ru2 28 [])))))))))))))))))))))))),[⟨0,1,true,(some [[(.c 3 (nL tV))]])⟩,⟨0,1,true,(some [[(.c 3 (nL tV))]])⟩,⟨0,0,true,(some [[(.o (.ptr 4 0 0 0))]])⟩,⟨0,0,true,(some [[(.o .nil)]])⟩,⟨143,0,true,none⟩],fun a H=>(⟨(toI (slT a 3)),(toI (slT a 4)),(toI (slT a 9)),(toI (slT a 10)),(toI (slT a 16)),(toI (slT a 17)),(toI (slT a 23)),(rL tV (slT (rwT (elT H 0) 0) 0)),(rL tV (slT (rwT (elT H 1) 0) 0))⟩,⟨0,(toI (slT a 24)),(elT H 4),0,[]⟩)⟩,⟨((.s (.o .unk))::((.s (.o (.ptr 0 0 0 0)))::((.s (.o .unk))::((.s (.o (.int .i64)))::((.s (.o (.int .i64)))::(ru2 4 ((.s (.o (.int .i64)))::((.s (.o (.int .i64)))::(ru2 5 ((.s (.o (.int .i64)))::((.s (.o (.int .i64)))::(ru2 5 ((.s (.o (.int .i64)))::((.s (.o (.int .i64)))::(ru2 35 ((.s (.o (.lit .i64 0)))::((.s (.o .unk))::((.s (.o (.ptr 1 0 0 0)))::((.s (.o .nil))::((.s (.o (.lit .i64 0)))::((.s (.o .unk))::((.s (.o (.ptr 2 0 0 0)))::((.s (.o (.ptr 3 0 0 0)))::(ru2 28 [])))))))))))))))))))))))),[⟨0,1,true,(some [[(.c 3 (nL tV))]])⟩,⟨0,1,true,(some [[(.c 3 (nL tV))]])⟩,⟨0,0,true,(some [[(.o (.ptr 4 0 0 0))]])⟩,⟨0,0,true,(some [[(.o (.sl 5 0 (some 0) none))]])⟩,⟨143,0,true,none⟩,⟨73,4,true,none⟩],fun a H=>(⟨(toI (slT a 3)),(toI (slT a 4)),(toI (slT a 9)),(toI (slT a 10)),(toI (slT a 16)),(toI (slT a 17)),(toI (slT a 23)),(rL tV (slT (rwT (elT H 0) 0) 0)),(rL tV (slT (rwT (elT H 1) 0) 0))⟩,⟨1,(toI (slT a 24)),(elT H 4),(slN (slT (rwT (elT H 3) 0) 0)),(elT H 5)⟩)⟩],P8,[(some 4,fun p s=>⟨(.unk::((.ptr 0 0 0 0)::(.unk::((i p.is3)::((i p.is4)::(ra 4 ((i p.is9)::((i p.r8)::(ra 5 ((i p.T0)::((i p.n7)::(ra 5 ((i p.Ca5)::((i s.A5)::((b (decide (s.A5 < p.Ca5)))::(ra 34 ((i 0)::(.unk::((.ptr 1 0 0 0)::((.v (.slice none 0 0))::((i 0)::(.unk::((.ptr 2 0 0 0)::((.ptr 3 0 0 0)::(ra 28 []))))))))))))))))))))))))),[⟨0,1,[[(eL tV p.b9)]],true,false,0⟩,⟨0,1,[[(eL tV p.e8)]],true,false,0⟩,⟨0,0,[[(.ptr 4 0 0 0)]],true,false,0⟩,⟨0,0,[[(.v (.slice none 0 0))]],true,false,0⟩,⟨143,0,s.eh4,true,false,0⟩]⟩),(some 4,fun p s=>⟨(.unk::((.ptr 0 0 0 0)::(.unk::((i p.is3)::((i p.is4)::(ra 4 ((i p.is9)::((i p.r8)::(ra 5 ((i p.T0)::((i p.n7)::(ra 5 ((i p.Ca5)::((i s.A5)::((b (decide (s.A5 < p.Ca5)))::(ra 34 ((i 0)::(.unk::((.ptr 1 0 0 0)::((.v (.slice none 0 0))::((i 0)::(.unk::((.ptr 2 0 0 0)::((.ptr 3 0 0 0)::(ra 28 []))))))))))))))))))))))))),[⟨0,1,[[(eL tV p.b9)]],true,false,0⟩,⟨0,1,[[(eL tV p.e8)]],true,false,0⟩,⟨0,0,[[(.ptr 4 0 0 0)]],true,false,0⟩,⟨0,0,[[(.sl 5 0 s.v8 0)]],true,false,0⟩,⟨143,0,s.eh4,true,false,0⟩,⟨73,4,s.eh5,true,false,0⟩]⟩)],Dc4⟩
theorem Dc5:gb7.OkM:=Lo.okM [] (by kernel_rfl) .nil rfl (.cons (fun a H=>by kernel_rfl) (.cons (fun a H=>by kernel_rfl) .nil)) fun p s=>(.sel (Nat.beq s.ph 1) (.of @S1 (fun F _ _ _ _ _=>by unfold S1;(repeat' apply k9 (f:=F))<;>rfl) (by kernel_rfl)) (.of @R9 (fun F _ _ _ _ _=>by unfold R9;(repeat' apply k9 (f:=F))<;>rfl) (by kernel_rfl)))
structure O3 where
 is3:Int
 is9:Int
 r8:Int
 T0:Int
structure y5 where
 ph:Nat
 n7:Int
 b9:List V3
 e8:List V3
 eh4:List (List b7)
 v8:Nat
 eh5:List (List b7)
noncomputable def rc1 (p:O3) (s:y5):St:=⟨(.unk::((.ptr 0 0 0 0)::(.unk::((i p.is3)::(ra 5 ((i p.is9)::((i p.r8)::(ra 5 ((i p.T0)::((i s.n7)::(ra 42 ((i 0)::(.unk::((.ptr 1 0 0 0)::((.v (.slice none 0 0))::((i 0)::(.unk::((.ptr 2 0 0 0)::((.ptr 3 0 0 0)::(ra 28 [])))))))))))))))))))),[⟨0,1,[[(eL tV s.b9)]],true,false,0⟩,⟨0,1,[[(eL tV s.e8)]],true,false,0⟩,⟨0,0,[[(.ptr 4 0 0 0)]],true,false,0⟩,⟨0,0,[[(.v (.slice none 0 0))]],true,false,0⟩,⟨143,0,s.eh4,true,false,0⟩]⟩
noncomputable def rc2 (p:O3) (s:y5):St:=⟨(.unk::((.ptr 0 0 0 0)::(.unk::((i p.is3)::(ra 5 ((i p.is9)::((i p.r8)::(ra 5 ((i p.T0)::((i s.n7)::(ra 42 ((i 0)::(.unk::((.ptr 1 0 0 0)::((.v (.slice none 0 0))::((i 0)::(.unk::((.ptr 2 0 0 0)::((.ptr 3 0 0 0)::(ra 28 [])))))))))))))))))))),[⟨0,1,[[(eL tV s.b9)]],true,false,0⟩,⟨0,1,[[(eL tV s.e8)]],true,false,0⟩,⟨0,0,[[(.ptr 4 0 0 0)]],true,false,0⟩,⟨0,0,[[(.sl 5 0 s.v8 0)]],true,false,0⟩,⟨143,0,s.eh4,true,false,0⟩,⟨73,4,s.eh5,true,false,0⟩]⟩
noncomputable def Dc6 (p:O3) (s:y5):St:=(sel (Nat.beq s.ph 1) (rc2 p s) (rc1 p s))
noncomputable def S3 {α:Type} (k:y5→α) (e:Nat→α) (z:α) (p:O3) (s:y5):α:=let t1:=(lp (P8 (⟨p.is3,s.n7,p.is9,p.r8,p.T0,s.n7,(↑(s.n7.toNat - 0):Int),(rt tV s.b9),(rt tV s.e8)⟩:O2)) (⟨0,0,s.eh4,0,[]⟩:A2));(sl (decide (s.n7 < p.T0)) (sl (inB s.n7 ((List.length s.b9)+1)) (sl ((cnE tV s.b9)&&((cnE tV s.e8)&&true)) (sl (Nat.beq t1.1 1) (k ⟨0,(W (s.n7+1)),(rt tV s.b9),(rt tV s.e8),t1.2.eh4,0,[]⟩) (sl (Nat.beq t1.1 2) (k ⟨1,(W (s.n7+1)),(rt tV s.b9),(rt tV s.e8),t1.2.eh4,t1.2.v8,t1.2.eh5⟩) z)) z) z) (e 1))
noncomputable def S4 {α:Type} (k:y5→α) (e:Nat→α) (z:α) (p:O3) (s:y5):α:=let t1:=(lp (P8 (⟨p.is3,s.n7,p.is9,p.r8,p.T0,s.n7,(↑(s.n7.toNat - 0):Int),(rt tV s.b9),(rt tV s.e8)⟩:O2)) (⟨1,0,s.eh4,s.v8,s.eh5⟩:A2));(sl (decide (s.n7 < p.T0)) (sl (inB s.n7 ((List.length s.b9)+1)) (sl ((cnE tV s.b9)&&((cnE tV s.e8)&&true)) (sl (Nat.beq t1.1 1) (k ⟨0,(W (s.n7+1)),(rt tV s.b9),(rt tV s.e8),t1.2.eh4,0,[]⟩) (sl (Nat.beq t1.1 2) (k ⟨1,(W (s.n7+1)),(rt tV s.b9),(rt tV s.e8),t1.2.eh4,t1.2.v8,t1.2.eh5⟩) z)) z) z) (e 2))
noncomputable def Z1 (p:O3) (s:y5):Stp y5:=(sel (Nat.beq s.ph 1) (S4 .next .exit .fail p s) (S3 .next .exit .fail p s))
noncomputable def gb8:Lo O3 y5:=⟨En Ra3,0,Oe7,[1,1,1,1,1,0,1,4,4,1,4,4,1,1,0,4,1,1,4,4],[1,3,9,10,16,17,60,62,63,64,66,67],(.s .p (.s .p (.s (.b (.s .p (.s .p (.b (.u gb7.lsM))))) .p))),[⟨((.s (.o .unk))::((.s (.o (.ptr 0 0 0 0)))::((.s (.o .unk))::((.s (.o (.int .i64)))::(ru2 5 ((.s (.o (.int .i64)))::((.s (.o (.int .i64)))::(ru2 5 ((.s (.o (.int .i64)))::((.s (.o (.int .i64)))::(ru2 42 ((.s (.o (.lit .i64 0)))::((.s (.o .unk))::((.s (.o (.ptr 1 0 0 0)))::((.s (.o .nil))::((.s (.o (.lit .i64 0)))::((.s (.o .unk))::((.s (.o (.ptr 2 0 0 0)))::((.s (.o (.ptr 3 0 0 0)))::(ru2 28 [])))))))))))))))))))),[⟨0,1,true,(some [[(.c 3 (nL tV))]])⟩,⟨0,1,true,(some [[(.c 3 (nL tV))]])⟩,⟨0,0,true,(some [[(.o (.ptr 4 0 0 0))]])⟩,⟨0,0,true,(some [[(.o .nil)]])⟩,⟨143,0,true,none⟩],fun a H=>(⟨(toI (slT a 3)),(toI (slT a 9)),(toI (slT a 10)),(toI (slT a 16))⟩,⟨0,(toI (slT a 17)),(rL tV (slT (rwT (elT H 0) 0) 0)),(rL tV (slT (rwT (elT H 1) 0) 0)),(elT H 4),0,[]⟩)⟩,⟨((.s (.o .unk))::((.s (.o (.ptr 0 0 0 0)))::((.s (.o .unk))::((.s (.o (.int .i64)))::(ru2 5 ((.s (.o (.int .i64)))::((.s (.o (.int .i64)))::(ru2 5 ((.s (.o (.int .i64)))::((.s (.o (.int .i64)))::(ru2 42 ((.s (.o (.lit .i64 0)))::((.s (.o .unk))::((.s (.o (.ptr 1 0 0 0)))::((.s (.o .nil))::((.s (.o (.lit .i64 0)))::((.s (.o .unk))::((.s (.o (.ptr 2 0 0 0)))::((.s (.o (.ptr 3 0 0 0)))::(ru2 28 [])))))))))))))))))))),[⟨0,1,true,(some [[(.c 3 (nL tV))]])⟩,⟨0,1,true,(some [[(.c 3 (nL tV))]])⟩,⟨0,0,true,(some [[(.o (.ptr 4 0 0 0))]])⟩,⟨0,0,true,(some [[(.o (.sl 5 0 (some 0) none))]])⟩,⟨143,0,true,none⟩,⟨73,4,true,none⟩],fun a H=>(⟨(toI (slT a 3)),(toI (slT a 9)),(toI (slT a 10)),(toI (slT a 16))⟩,⟨1,(toI (slT a 17)),(rL tV (slT (rwT (elT H 0) 0) 0)),(rL tV (slT (rwT (elT H 1) 0) 0)),(elT H 4),(slN (slT (rwT (elT H 3) 0) 0)),(elT H 5)⟩)⟩],Z1,[(some 2,fun p s=>⟨(.unk::((.ptr 0 0 0 0)::(.unk::((i p.is3)::(ra 5 ((i p.is9)::((i p.r8)::(ra 5 ((i p.T0)::((i s.n7)::((b (decide (s.n7 < p.T0)))::(ra 41 ((i 0)::(.unk::((.ptr 1 0 0 0)::((.v (.slice none 0 0))::((i 0)::(.unk::((.ptr 2 0 0 0)::((.ptr 3 0 0 0)::(ra 28 []))))))))))))))))))))),[⟨0,1,[[(eL tV s.b9)]],true,false,0⟩,⟨0,1,[[(eL tV s.e8)]],true,false,0⟩,⟨0,0,[[(.ptr 4 0 0 0)]],true,false,0⟩,⟨0,0,[[(.v (.slice none 0 0))]],true,false,0⟩,⟨143,0,s.eh4,true,false,0⟩]⟩),(some 2,fun p s=>⟨(.unk::((.ptr 0 0 0 0)::(.unk::((i p.is3)::(ra 5 ((i p.is9)::((i p.r8)::(ra 5 ((i p.T0)::((i s.n7)::((b (decide (s.n7 < p.T0)))::(ra 41 ((i 0)::(.unk::((.ptr 1 0 0 0)::((.v (.slice none 0 0))::((i 0)::(.unk::((.ptr 2 0 0 0)::((.ptr 3 0 0 0)::(ra 28 []))))))))))))))))))))),[⟨0,1,[[(eL tV s.b9)]],true,false,0⟩,⟨0,1,[[(eL tV s.e8)]],true,false,0⟩,⟨0,0,[[(.ptr 4 0 0 0)]],true,false,0⟩,⟨0,0,[[(.sl 5 0 s.v8 0)]],true,false,0⟩,⟨143,0,s.eh4,true,false,0⟩,⟨73,4,s.eh5,true,false,0⟩]⟩)],Dc6⟩
theorem Dc7:gb8.OkM:=Lo.okM [gb7.prM] (by kernel_rfl) (.cons Dc5 .nil) rfl (.cons (fun a H=>by kernel_rfl) (.cons (fun a H=>by kernel_rfl) .nil)) fun p s=>(.sel (Nat.beq s.ph 1) (.of @S4 (fun F _ _ _ _ _=>by unfold S4;(repeat' apply k9 (f:=F))<;>rfl) (by kernel_rfl)) (.of @S3 (fun F _ _ _ _ _=>by unfold S3;(repeat' apply k9 (f:=F))<;>rfl) (by kernel_rfl)))
structure U7 where
 is9:Int
structure A3 where
 ph:Nat
 r8:Int
 b9:List V3
 e8:List V3
 eh4:List (List b7)
 v8:Nat
 eh5:List (List b7)
noncomputable def rc3 (p:U7) (s:A3):St:=⟨(.unk::((.ptr 0 0 0 0)::(ra 7 ((i p.is9)::((i s.r8)::(ra 49 ((i 0)::(.unk::((.ptr 1 0 0 0)::((.v (.slice none 0 0))::((i 0)::(.unk::((.ptr 2 0 0 0)::((.ptr 3 0 0 0)::(ra 28 []))))))))))))))),[⟨0,1,[[(eL tV s.b9)]],true,false,0⟩,⟨0,1,[[(eL tV s.e8)]],true,false,0⟩,⟨0,0,[[(.ptr 4 0 0 0)]],true,false,0⟩,⟨0,0,[[(.v (.slice none 0 0))]],true,false,0⟩,⟨143,0,s.eh4,true,false,0⟩]⟩
noncomputable def rc4 (p:U7) (s:A3):St:=⟨(.unk::((.ptr 0 0 0 0)::(ra 7 ((i p.is9)::((i s.r8)::(ra 49 ((i 0)::(.unk::((.ptr 1 0 0 0)::((.v (.slice none 0 0))::((i 0)::(.unk::((.ptr 2 0 0 0)::((.ptr 3 0 0 0)::(ra 28 []))))))))))))))),[⟨0,1,[[(eL tV s.b9)]],true,false,0⟩,⟨0,1,[[(eL tV s.e8)]],true,false,0⟩,⟨0,0,[[(.ptr 4 0 0 0)]],true,false,0⟩,⟨0,0,[[(.sl 5 0 s.v8 0)]],true,false,0⟩,⟨143,0,s.eh4,true,false,0⟩,⟨73,4,s.eh5,true,false,0⟩]⟩
noncomputable def Dc8 (p:U7) (s:A3):St:=(sel (Nat.beq s.ph 1) (rc4 p s) (rc3 p s))
noncomputable def S5 {α:Type} (k:A3→α) (e:Nat→α) (z:α) (p:U7) (s:A3):α:=let t1:=(lp (Z1 (⟨s.r8,p.is9,s.r8,(↑(s.r8.toNat - 0):Int)⟩:O3)) (⟨0,0,(rt tV s.b9),(rt tV s.e8),s.eh4,0,[]⟩:y5));(sl (decide (s.r8 < p.is9)) (sl (inB s.r8 ((List.length s.b9)+1)) (sl ((cnE tV s.b9)&&((cnE tV s.e8)&&true)) (sl (Nat.beq t1.1 1) (k ⟨0,(W (s.r8+1)),t1.2.b9,t1.2.e8,t1.2.eh4,0,[]⟩) (sl (Nat.beq t1.1 2) (k ⟨1,(W (s.r8+1)),t1.2.b9,t1.2.e8,t1.2.eh4,t1.2.v8,t1.2.eh5⟩) z)) z) z) (e 1))
noncomputable def S6 {α:Type} (k:A3→α) (e:Nat→α) (z:α) (p:U7) (s:A3):α:=let t1:=(lp (Z1 (⟨s.r8,p.is9,s.r8,(↑(s.r8.toNat - 0):Int)⟩:O3)) (⟨1,0,(rt tV s.b9),(rt tV s.e8),s.eh4,s.v8,s.eh5⟩:y5));(sl (decide (s.r8 < p.is9)) (sl (inB s.r8 ((List.length s.b9)+1)) (sl ((cnE tV s.b9)&&((cnE tV s.e8)&&true)) (sl (Nat.beq t1.1 1) (k ⟨0,(W (s.r8+1)),t1.2.b9,t1.2.e8,t1.2.eh4,0,[]⟩) (sl (Nat.beq t1.1 2) (k ⟨1,(W (s.r8+1)),t1.2.b9,t1.2.e8,t1.2.eh4,t1.2.v8,t1.2.eh5⟩) z)) z) z) (e 2))
noncomputable def Da7 (p:U7) (s:A3):Stp A3:=(sel (Nat.beq s.ph 1) (S6 .next .exit .fail p s) (S5 .next .exit .fail p s))
noncomputable def gb9:Lo U7 A3:=⟨En Ra3,0,Oe7,[1,1,1,1,1,0,1,4,4,1,4,4],[1,9,10,60,62,63,64,66,67],(.s .p (.s .p (.s (.b (.s .p (.s .p (.b (.u gb8.lsM))))) .p))),[⟨((.s (.o .unk))::((.s (.o (.ptr 0 0 0 0)))::(ru2 7 ((.s (.o (.int .i64)))::((.s (.o (.int .i64)))::(ru2 49 ((.s (.o (.lit .i64 0)))::((.s (.o .unk))::((.s (.o (.ptr 1 0 0 0)))::((.s (.o .nil))::((.s (.o (.lit .i64 0)))::((.s (.o .unk))::((.s (.o (.ptr 2 0 0 0)))::((.s (.o (.ptr 3 0 0 0)))::(ru2 28 []))))))))))))))),[⟨0,1,true,(some [[(.c 3 (nL tV))]])⟩,⟨0,1,true,(some [[(.c 3 (nL tV))]])⟩,⟨0,0,true,(some [[(.o (.ptr 4 0 0 0))]])⟩,⟨0,0,true,(some [[(.o .nil)]])⟩,⟨143,0,true,none⟩],fun a H=>(⟨(toI (slT a 9))⟩,⟨0,(toI (slT a 10)),(rL tV (slT (rwT (elT H 0) 0) 0)),(rL tV (slT (rwT (elT H 1) 0) 0)),(elT H 4),0,[]⟩)⟩,⟨((.s (.o .unk))::((.s (.o (.ptr 0 0 0 0)))::(ru2 7 ((.s (.o (.int .i64)))::((.s (.o (.int .i64)))::(ru2 49 ((.s (.o (.lit .i64 0)))::((.s (.o .unk))::((.s (.o (.ptr 1 0 0 0)))::((.s (.o .nil))::((.s (.o (.lit .i64 0)))::((.s (.o .unk))::((.s (.o (.ptr 2 0 0 0)))::((.s (.o (.ptr 3 0 0 0)))::(ru2 28 []))))))))))))))),[⟨0,1,true,(some [[(.c 3 (nL tV))]])⟩,⟨0,1,true,(some [[(.c 3 (nL tV))]])⟩,⟨0,0,true,(some [[(.o (.ptr 4 0 0 0))]])⟩,⟨0,0,true,(some [[(.o (.sl 5 0 (some 0) none))]])⟩,⟨143,0,true,none⟩,⟨73,4,true,none⟩],fun a H=>(⟨(toI (slT a 9))⟩,⟨1,(toI (slT a 10)),(rL tV (slT (rwT (elT H 0) 0) 0)),(rL tV (slT (rwT (elT H 1) 0) 0)),(elT H 4),(slN (slT (rwT (elT H 3) 0) 0)),(elT H 5)⟩)⟩],Da7,[(some 0,fun p s=>⟨(.unk::((.ptr 0 0 0 0)::(ra 7 ((i p.is9)::((i s.r8)::((b (decide (s.r8 < p.is9)))::(ra 48 ((i 0)::(.unk::((.ptr 1 0 0 0)::((.v (.slice none 0 0))::((i 0)::(.unk::((.ptr 2 0 0 0)::((.ptr 3 0 0 0)::(ra 28 [])))))))))))))))),[⟨0,1,[[(eL tV s.b9)]],true,false,0⟩,⟨0,1,[[(eL tV s.e8)]],true,false,0⟩,⟨0,0,[[(.ptr 4 0 0 0)]],true,false,0⟩,⟨0,0,[[(.v (.slice none 0 0))]],true,false,0⟩,⟨143,0,s.eh4,true,false,0⟩]⟩),(some 0,fun p s=>⟨(.unk::((.ptr 0 0 0 0)::(ra 7 ((i p.is9)::((i s.r8)::((b (decide (s.r8 < p.is9)))::(ra 48 ((i 0)::(.unk::((.ptr 1 0 0 0)::((.v (.slice none 0 0))::((i 0)::(.unk::((.ptr 2 0 0 0)::((.ptr 3 0 0 0)::(ra 28 [])))))))))))))))),[⟨0,1,[[(eL tV s.b9)]],true,false,0⟩,⟨0,1,[[(eL tV s.e8)]],true,false,0⟩,⟨0,0,[[(.ptr 4 0 0 0)]],true,false,0⟩,⟨0,0,[[(.sl 5 0 s.v8 0)]],true,false,0⟩,⟨143,0,s.eh4,true,false,0⟩,⟨73,4,s.eh5,true,false,0⟩]⟩)],Dc8⟩
theorem Dc9:gb9.OkM:=Lo.okM [gb8.prM] (by kernel_rfl) (.cons Dc7 .nil) rfl (.cons (fun a H=>by kernel_rfl) (.cons (fun a H=>by kernel_rfl) .nil)) fun p s=>(.sel (Nat.beq s.ph 1) (.of @S6 (fun F _ _ _ _ _=>by unfold S6;(repeat' apply k9 (f:=F))<;>rfl) (by kernel_rfl)) (.of @S5 (fun F _ _ _ _ _=>by unfold S5;(repeat' apply k9 (f:=F))<;>rfl) (by kernel_rfl)))
noncomputable def ma0 (x:V3×List V3):Option (b7×List b8):=let t1:=(Ka6 (rt tV (x.1::x.2)));let t2:=(Wa5 (hC tV (fun k=>(tV).row (gL tV (x.1::x.2) k)),tC tV (List.length x.2) (fun k=>(tV).row (gL tV (x.1::x.2) k))));let t3:=(lp (Da7 (⟨(↑(List.length t2):Int)⟩:U7)) (⟨0,0,(rt tV t2),(rt tV t2),[],0,[]⟩:A3));(sl (okE tV (x.1::x.2)) (sl (Ka7 (rt tV (x.1::x.2))) (sl (t1 != 0) (some ((.tup [(.v (.slice none 0 0)),(i t1)]),[])) (sl (okL tV (List.length x.2+1) (fun k=>(tV).row (gL tV (x.1::x.2) k))) (sl (Wa6 (hC tV (fun k=>(tV).row (gL tV (x.1::x.2) k)),tC tV (List.length x.2) (fun k=>(tV).row (gL tV (x.1::x.2) k)))) (sl ((cnE tV t2)&&((cnE tV t2)&&true)) (sl (Nat.beq t3.1 1) none (sl (Nat.beq t3.1 2) (sl (Bool.and (Nat.ble t3.2.v8 room) (Bool.and (Nat.ble t3.2.v8 (len t3.2.eh5)) (okS tP t3.2.eh5 0 t3.2.v8))) (some ((.tup [(.sl 0 0 t3.2.v8 0),(i 0)]),[⟨73,4,(app (bL tP (Sb0 (slR tP t3.2.eh5 0 t3.2.v8))) (g9 t3.2.eh5 t3.2.v8)),true,false,0⟩])) none) none)) none) none) none)) none) none)
noncomputable def zb9 (x:V3×List V3):List Pln×Int:=C9 (two (r1L tP) r1I) (ma0 x)
noncomputable def Ab0 (x:V3×List V3):Bool:=okO (two (r1L tP) r1I) (ma0 x)
noncomputable def hc6:Sum:=Q5 (Id3 tV) (fun x=>.guard (Ab0 x) (.ret ((two (r1L tP) r1I).enc (zb9 x),[])))
theorem id5:g8 prog G 64 hc6:=ya9 (bd b64 Uc7) (two (r1L tP) r1I) (o:=ma0) fun x=>Ld1 (.s .p (.s .p (.s .p (.s .p (.s .p (.s (.s .p (.b (.i (.s .p (.b (.u gb9.lsM)))))) .p)))))) [gb9.prM] (by kernel_rfl) (.cons Dc9 .nil) (by kernel_rfl)
end Go.Ev.Ce
end
section
namespace Go.Ev.Ce
open Go Go.Ev Go.Ev.L Go.Proofs
set_option maxRecDepth 100000
structure Da8 where
 O8:Int
 O9:Int
 P0:Int
 ad7:Int
 c9:Int
 c7:Int
 d7:Int
noncomputable def rc5:List (Nat×Sum):=[(83,Sa9)]
theorem hc7:i7 prog G rc5:=⟨Ya8,trivial⟩
structure Da9 where
 bs0:Bool
noncomputable def ea6 {α:Type} (kk:Da9→α) (x:Da8):α:=let t1:=(y8 (⟨x.c9,x.c7,x.d7⟩:V3) (⟨x.O8,x.O9,x.P0⟩:V3));(kk ⟨(t1 != 0)⟩)
noncomputable def Wa7 (x:Da8):Da9:=ea6 (fun r=>r) x
noncomputable def Pa5 (x:Da8) (r:Da9):DT (b7×List b8):=.ret ((b r.bs0),[⟨0,3,[[(i x.c9),(i x.c7),(i x.d7)]],true,false,0⟩])
theorem Ec0 {α β:Type} (F:α→β) (kk:Da9→α) (x:Da8):F (ea6 kk x)=ea6 (fun r=>F (kk r)) x:=by unfold ea6;(repeat' apply k9 (f:=F))<;>rfl
noncomputable def Cb4:Sum:=nb6 ⟨[(.agg [(.o (.int .i64)),(.o (.int .i64)),(.o (.int .i64)),(.o (.int .i64))]),(.s (.o (.ptr 0 0 0 0)))],[⟨0,3,true,(some [[(.o (.int .i64)),(.o (.int .i64)),(.o (.int .i64))]])⟩],fun a H=>(⟨(toI (slT (cellsOf (slT a 0)) 0)),(toI (slT (cellsOf (slT a 0)) 1)),(toI (slT (cellsOf (slT a 0)) 2)),(toI (slT (cellsOf (slT a 0)) 3)),(toI (slT (rwT (elT H 0) 0) 0)),(toI (slT (rwT (elT H 0) 0) 1)),(toI (slT (rwT (elT H 0) 0) 2))⟩,())⟩ (fun x=>Pa5 x (Wa7 x))
theorem rc6:g8 prog G 143 Cb4:=V5 (enc:=fun x=>⟨[(.agg [(i x.O8),(i x.O9),(i x.P0),(i x.ad7)]),(.ptr 0 0 0 0)],[⟨0,3,[[(i x.c9),(i x.c7),(i x.d7)]],true,false,0⟩]⟩) (fun a H=>by kernel_rfl) (bd Cf9 hc7) fun x=>p5 (Eq.trans (b:=ea6 (fun r=>(Pa5 x r).run) x) (by kernel_rfl) (Ec0 (fun r=>(Pa5 x r).run) (fun r=>r) x).symm)
structure Q6 where
 d8:List Pln
 c9:Int
 c7:Int
 d7:Int
noncomputable def va8:List (Nat×Sum):=[(143,Cb4)]
theorem ab2:i7 prog G va8:=⟨rc6,trivial⟩
structure D4 where
 d8:List Pln
 is7:Int
 c9:Int
 c7:Int
 d7:Int
structure m8 where
 is8:Int
noncomputable def Wa8 (p:D4) (s:m8):St:=⟨((eL tP p.d8)::((.fn 143 [(.ptr 0 0 0 0)])::(ra 5 ((i p.is7)::((i s.is8)::(ra 10 [])))))),[⟨0,3,[[(i p.c9),(i p.c7),(i p.d7)]],true,false,0⟩]⟩
noncomputable def B1 {α:Type} (k:m8→α) (e:Nat→α) (z:α) (p:D4) (s:m8):α:=let t1:=(Wa7 ⟨(gL tP p.d8 s.is8.toNat).n.x,(gL tP p.d8 s.is8.toNat).n.y,(gL tP p.d8 s.is8.toNat).n.z,(gL tP p.d8 s.is8.toNat).b,p.c9,p.c7,p.d7⟩);(sl (decide (s.is8 < p.is7)) (sl (inB s.is8 (List.length p.d8)) (sl t1.bs0 (e 1) (k ⟨(W (s.is8+1))⟩)) z) (e 2))
noncomputable def B9 (p:D4) (s:m8):Stp m8:=B1 .next .exit .fail p s
noncomputable def aa7:Lo D4 m8:=⟨En va8,1,Ze3,[1,0,1,4,4],[0,1,7,8],.p,[⟨((.s (.c 4 (nL tP)))::((.fn 143 [(.o (.ptr 0 0 0 0))])::(ru2 5 ((.s (.o (.int .i64)))::((.s (.o (.int .i64)))::(ru2 10 [])))))),[⟨0,3,true,(some [[(.o (.int .i64)),(.o (.int .i64)),(.o (.int .i64))]])⟩],fun a H=>(⟨(rL tP (slT a 0)),(toI (slT a 7)),(toI (slT (rwT (elT H 0) 0) 0)),(toI (slT (rwT (elT H 0) 0) 1)),(toI (slT (rwT (elT H 0) 0) 2))⟩,⟨(toI (slT a 8))⟩)⟩],B9,[(none,fun p s=>⟨[(i s.is8)],[⟨0,3,[[(i p.c9),(i p.c7),(i p.d7)]],true,false,0⟩]⟩),(some 0,fun p s=>⟨((eL tP p.d8)::((.fn 143 [(.ptr 0 0 0 0)])::(ra 5 ((i p.is7)::((i s.is8)::((b (decide (s.is8 < p.is7)))::(ra 9 []))))))),[⟨0,3,[[(i p.c9),(i p.c7),(i p.d7)]],true,false,0⟩]⟩)],Wa8⟩
theorem Wa9:aa7.Ok:=Lo.ok [] (by kernel_rfl) .nil rfl (.cons (fun a H=>by kernel_rfl) .nil) fun p s=>(.of @B1 (fun F _ _ _ _ _=>by unfold B1;(repeat' apply k9 (f:=F))<;>rfl) (by kernel_rfl))
structure Q7 where
 alt:Nat
 is0:Int
noncomputable def B4 {α:Type} (kk:Q7→α) (x:Q6):α:=let t1:=(lp (B9 (⟨(rt tP x.d8),(↑(List.length x.d8):Int),x.c9,x.c7,x.d7⟩:D4)) (⟨0⟩:m8));(sl ((cnE tP x.d8)&&true) (sl (Nat.beq t1.1 1) (kk ⟨1,t1.2.is8⟩) (sl (Nat.beq t1.1 2) (kk ⟨1,(-1)⟩) (kk ⟨0,0⟩))) (kk ⟨0,0⟩))
noncomputable def Q8 (x:Q6):Q7:=B4 (fun r=>r) x
noncomputable def ca9 (x:Q6) (r:Q7):DT (b7×List b8):=(.ite (Nat.beq r.alt 1) (.ret ((i r.is0),[⟨0,3,[[(i x.c9),(i x.c7),(i x.d7)]],true,false,0⟩])) .fail)
theorem jb7 {α β:Type} (F:α→β) (kk:Q7→α) (x:Q6):F (B4 kk x)=B4 (fun r=>F (kk r)) x:=by unfold B4;(repeat' apply k9 (f:=F))<;>rfl
noncomputable def ya5:Sum:=nb6 ⟨[(.s (.c 4 (nL tP))),(.fn 143 [(.o (.ptr 0 0 0 0))])],[⟨0,3,true,(some [[(.o (.int .i64)),(.o (.int .i64)),(.o (.int .i64))]])⟩],fun a H=>(⟨(rL tP (slT a 0)),(toI (slT (rwT (elT H 0) 0) 0)),(toI (slT (rwT (elT H 0) 0) 1)),(toI (slT (rwT (elT H 0) 0) 2))⟩,())⟩ (fun x=>ca9 x (Q8 x))
theorem hb5:g8 prog G 139 ya5:=V5 (enc:=fun x=>⟨[(eL tP x.d8),(.fn 143 [(.ptr 0 0 0 0)])],[⟨0,3,[[(i x.c9),(i x.c7),(i x.d7)]],true,false,0⟩]⟩) (fun a H=>by kernel_rfl) (bd Cf5 ab2) fun x=>sa8 (.s .p (.s (.s .p (.b (.u aa7.ls))) .p)) [aa7.pr] (by kernel_rfl) (.cons Wa9 .nil) (Eq.trans (b:=B4 (fun r=>(ca9 x r).run) x) (by kernel_rfl) (jb7 (fun r=>(ca9 x r).run) (fun r=>r) x).symm)
structure K6 where
 d8:List Pln
 c9:Int
 c7:Int
 d7:Int
noncomputable def Ua1:List (Nat×Sum):=[(139,ya5)]
theorem Pa6:i7 prog G Ua1:=⟨hb5,trivial⟩
structure K7 where
 alt:Nat
 bs0:Bool
noncomputable def w7 {α:Type} (kk:K7→α) (x:K6):α:=let t1:=(Q8 ⟨(rt tP x.d8),x.c9,x.c7,x.d7⟩);(sl ((cnE tP x.d8)&&true) (sl (Nat.beq t1.alt 1) (kk ⟨1,(decide (t1.is0≥0))⟩) (kk ⟨0,false⟩)) (kk ⟨0,false⟩))
noncomputable def K8 (x:K6):K7:=w7 (fun r=>r) x
noncomputable def U8 (x:K6) (r:K7):DT (b7×List b8):=(.ite (Nat.beq r.alt 1) (.ret ((b r.bs0),[⟨0,3,[[(i x.c9),(i x.c7),(i x.d7)]],true,false,0⟩])) .fail)
theorem Xa0 {α β:Type} (F:α→β) (kk:K7→α) (x:K6):F (w7 kk x)=w7 (fun r=>F (kk r)) x:=by unfold w7;(repeat' apply k9 (f:=F))<;>rfl
noncomputable def oa5:Sum:=nb6 ⟨[(.s (.c 4 (nL tP))),(.fn 143 [(.o (.ptr 0 0 0 0))])],[⟨0,3,true,(some [[(.o (.int .i64)),(.o (.int .i64)),(.o (.int .i64))]])⟩],fun a H=>(⟨(rL tP (slT a 0)),(toI (slT (rwT (elT H 0) 0) 0)),(toI (slT (rwT (elT H 0) 0) 1)),(toI (slT (rwT (elT H 0) 0) 2))⟩,())⟩ (fun x=>U8 x (K8 x))
theorem Ua2:g8 prog G 86 oa5:=V5 (enc:=fun x=>⟨[(eL tP x.d8),(.fn 143 [(.ptr 0 0 0 0)])],[⟨0,3,[[(i x.c9),(i x.c7),(i x.d7)]],true,false,0⟩]⟩) (fun a H=>by kernel_rfl) (bd b86 Pa6) fun x=>p5 (Eq.trans (b:=w7 (fun r=>(U8 x r).run) x) (by kernel_rfl) (Xa0 (fun r=>(U8 x r).run) (fun r=>r) x).symm)
noncomputable def hb6:List (Nat×Sum):=[(142,nb9),(86,oa5)]
theorem Ec1:i7 prog G hb6:=⟨Ib1,Ua2,trivial⟩
structure oa6 where
 d8:List Pln
 vb0:List Pln
 is9:Int
 r8:Int
 mf6:Nat
 de1:Nat→List b7
 ja1:Int
 c9:Int
 c7:Int
 d7:Int
 g7:Int
structure P9 where
 vc6:Int
noncomputable def rc7 (p:oa6) (s:P9):St:=⟨((eL tP p.d8)::(ra 3 ((.ptr 0 0 0 0)::(ra 3 ((eL tP p.vb0)::((i p.is9)::((i p.r8)::(ra 6 ((.tree 4 p.mf6 p.de1)::((i p.ja1)::((i s.vc6)::(ra 18 [])))))))))))),[⟨0,4,[[(i p.c9),(i p.c7),(i p.d7),(i p.g7)]],true,false,0⟩]⟩
noncomputable def ga6 {α:Type} (k:P9→α) (e:Nat→α) (z:α) (p:oa6) (s:P9):α:=let t1:=(ba0 (⟨p.c9,p.c7,p.d7⟩:V3) (⟨(toI (hdA (p.de1 s.vc6.toNat))),(toI (hdA (tlA (p.de1 s.vc6.toNat)))),(toI (hdA (tlA (tlA (p.de1 s.vc6.toNat)))))⟩:V3));let t2:=(K8 ⟨(rt tP p.d8),t1.x,t1.y,t1.z⟩);(sl (decide (s.vc6 < p.ja1)) (sl (inB s.vc6 p.mf6) (sl ((Nat.ble 4 (len (p.de1 s.vc6.toNat)))&&(L9 [(CK.int .i64),(CK.int .i64),(CK.int .i64),(CK.int .i64)] (p.de1 s.vc6.toNat))) (sl (!((t1.x==0)&&((t1.y==0)&&((t1.z==0)&&true)))) (sl ((cnE tP p.d8)&&true) (sl (Nat.beq t2.alt 1) (sl t2.bs0 (e 1) (k ⟨(W (s.vc6+1))⟩)) z) z) (k ⟨(W (s.vc6+1))⟩)) z) z) (e 2))
noncomputable def ba7 (p:oa6) (s:P9):Stp P9:=ga6 .next .exit .fail p s
noncomputable def Xa1:Lo oa6 P9:=⟨En hb6,0,gf0,[1,0,1,4,4,1,1,0,4,1,1,4,4],[0,4,8,9,10,17,18,19],.p,[⟨((.s (.c 4 (nL tP)))::(ru2 3 ((.s (.o (.ptr 0 0 0 0)))::(ru2 3 ((.s (.c 4 (nL tP)))::((.s (.o (.int .i64)))::((.s (.o (.int .i64)))::(ru2 6 ((.s (.o (.tree 4)))::((.s (.o (.int .i64)))::((.s (.o (.int .i64)))::(ru2 18 [])))))))))))),[⟨0,4,true,(some [[(.o (.int .i64)),(.o (.int .i64)),(.o (.int .i64)),(.o (.int .i64))]])⟩],fun a H=>(⟨(rL tP (slT a 0)),(rL tP (slT a 8)),(toI (slT a 9)),(toI (slT a 10)),(toN (slT a 17)),(toG (slT a 17)),(toI (slT a 18)),(toI (slT (rwT (elT H 0) 0) 0)),(toI (slT (rwT (elT H 0) 0) 1)),(toI (slT (rwT (elT H 0) 0) 2)),(toI (slT (rwT (elT H 0) 0) 3))⟩,⟨(toI (slT a 19))⟩)⟩],ba7,[(none,fun p s=>⟨[(b true)],[]⟩),(some 2,fun p s=>⟨((eL tP p.d8)::(ra 3 ((.ptr 0 0 0 0)::(ra 3 ((eL tP p.vb0)::((i p.is9)::((i p.r8)::(ra 6 ((.tree 4 p.mf6 p.de1)::((i p.ja1)::((i s.vc6)::((b (decide (s.vc6 < p.ja1)))::(ra 17 []))))))))))))),[⟨0,4,[[(i p.c9),(i p.c7),(i p.d7),(i p.g7)]],true,false,0⟩]⟩)],rc7⟩
theorem rc8:Xa1.Ok:=Lo.ok [] (by kernel_rfl) .nil rfl (.cons (fun a H=>by kernel_rfl) .nil) fun p s=>(.of @ga6 (fun F _ _ _ _ _=>by unfold ga6;(repeat' apply k9 (f:=F))<;>rfl) (by kernel_rfl))
structure oa7 where
 is9:Int
structure Q0 where
 d8:List Pln
 vb0:List Pln
 r8:Int
noncomputable def rc9 (p:oa7) (s:Q0):St:=⟨((eL tP s.d8)::(ra 7 ((eL tP s.vb0)::((i p.is9)::((i s.r8)::(ra 27 [])))))),[]⟩
noncomputable def ga7 {α:Type} (k:Q0→α) (e:Nat→α) (z:α) (p:oa7) (s:Q0):α:=let t1:=(lp (ba7 (⟨(rt tP s.d8),(rt tP s.vb0),p.is9,s.r8,(s.r8.toNat - 0),(fun k=>(fun k=>(tP).row (gL tP s.d8 k)) (0+k)),(↑(s.r8.toNat - 0):Int),(gL tP s.vb0 s.r8.toNat).n.x,(gL tP s.vb0 s.r8.toNat).n.y,(gL tP s.vb0 s.r8.toNat).n.z,(gL tP s.vb0 s.r8.toNat).b⟩:oa6)) (⟨0⟩:P9));(sl (decide (s.r8 < p.is9)) (sl (inB s.r8 (List.length s.vb0)) (sl (inB s.r8 ((List.length s.d8)+1)) (sl ((cnE tP s.d8)&&((cnE tP s.vb0)&&true)) (sl (Nat.beq t1.1 1) (e 1) (sl (Nat.beq t1.1 2) (k ⟨(rt tP s.d8),(rt tP s.vb0),(W (s.r8+1))⟩) z)) z) z) z) (e 2))
noncomputable def ba8 (p:oa7) (s:Q0):Stp Q0:=ga7 .next .exit .fail p s
noncomputable def Xa2:Lo oa7 Q0:=⟨En hb6,0,gf0,[1,0,1,4,4],[0,8,9,10],(.s .p (.s .p (.s (.b (.s .p (.s .p (.b (.u Xa1.ls))))) .p))),[⟨((.s (.c 4 (nL tP)))::(ru2 7 ((.s (.c 4 (nL tP)))::((.s (.o (.int .i64)))::((.s (.o (.int .i64)))::(ru2 27 [])))))),[],fun a H=>(⟨(toI (slT a 9))⟩,⟨(rL tP (slT a 0)),(rL tP (slT a 8)),(toI (slT a 10))⟩)⟩],ba8,[(none,fun p s=>⟨[(b true)],[]⟩),(some 0,fun p s=>⟨((eL tP s.d8)::(ra 7 ((eL tP s.vb0)::((i p.is9)::((i s.r8)::((b (decide (s.r8 < p.is9)))::(ra 26 []))))))),[]⟩)],rc9⟩
theorem sc0:Xa2.Ok:=Lo.ok [Xa1.pr] (by kernel_rfl) (.cons rc8 .nil) rfl (.cons (fun a H=>by kernel_rfl) .nil) fun p s=>(.of @ga7 (fun F _ _ _ _ _=>by unfold ga7;(repeat' apply k9 (f:=F))<;>rfl) (by kernel_rfl))
noncomputable def Ba7 (x:List Pln):Option (b7×List b8):=let t1:=(lp (ba8 (⟨(↑(List.length x):Int)⟩:oa7)) (⟨(rt tP x),(rt tP x),0⟩:Q0));(sl ((cnE tP x)&&((cnE tP x)&&true)) (sl (Nat.beq t1.1 1) (some ((b true),[])) (sl (Nat.beq t1.1 2) (some ((b false),[])) none)) none)
noncomputable def qa4 (x:List Pln):Bool:=C9 (one r1B) (Ba7 x)
noncomputable def qa5 (x:List Pln):Bool:=okO (one r1B) (Ba7 x)
noncomputable def Sb7:Sum:=Q5 (fa0 tP) (fun x=>.guard (qa5 x) (.ret ((one r1B).enc (qa4 x),[])))
theorem Uc8:g8 prog G 90 Sb7:=ya9 (bd b90 Ec1) (one r1B) (o:=Ba7) fun x=>sa8 (.s .p (.s (.s .p (.b (.u Xa2.ls))) .p)) [Xa2.pr] (by kernel_rfl) (.cons sc0 .nil) (by kernel_rfl)
structure xa9 where
 O8:Int
 O9:Int
 P0:Int
 p9:List Pln
noncomputable def mb1:List (Nat×Sum):=[(88,Za1),(90,Sb7)]
theorem Yb5:i7 prog G mb1:=⟨pb1,Uc8,trivial⟩
structure E7 where
 Na0:List Pln
 is8:Int
 p9:List Pln
 u7:Int
 u9:Int
 v7:Int
structure l9 where
 ph:Nat
 is9:Int
 ns4:Nat
 eh2:List (List b7)
noncomputable def Jb6 (p:E7) (s:l9):St:=⟨(.unk::(.unk::((.ptr 1 0 0 0)::(.unk::((.v (.slice none 0 0))::(.unk::(.unk::((eL tP p.Na0)::((i p.is8)::((i s.is9)::(ra 15 []))))))))))),[⟨0,1,[[(eL tP p.p9)]],true,false,0⟩,⟨0,3,[[(i p.u7),(i p.u9),(i p.v7)]],true,false,0⟩]⟩
noncomputable def Jb7 (p:E7) (s:l9):St:=⟨(.unk::(.unk::((.ptr 1 0 0 0)::(.unk::((.sl 2 0 s.ns4 0)::(.unk::(.unk::((eL tP p.Na0)::((i p.is8)::((i s.is9)::(ra 15 []))))))))))),[⟨0,1,[[(eL tP p.p9)]],true,false,0⟩,⟨0,3,[[(i p.u7),(i p.u9),(i p.v7)]],true,false,0⟩,⟨73,4,s.eh2,true,false,0⟩]⟩
noncomputable def Pb7 (p:E7) (s:l9):St:=(sel (Nat.beq s.ph 1) (Jb7 p s) (Jb6 p s))
noncomputable def E8 {α:Type} (k:l9→α) (e:Nat→α) (z:α) (p:E7) (s:l9):α:=let t1:=(la5 (gL tP p.Na0 s.is9.toNat) (⟨p.u7,p.u9,p.v7⟩:V3));(sl (decide (s.is9 < p.is8)) (sl (inB s.is9 (List.length p.Na0)) (sl (la6 (gL tP p.Na0 s.is9.toNat) (⟨p.u7,p.u9,p.v7⟩:V3)) (sl (t1==0) (k ⟨1,(W (s.is9+1)),1,[[(i (gL tP p.Na0 s.is9.toNat).n.x),(i (gL tP p.Na0 s.is9.toNat).n.y),(i (gL tP p.Na0 s.is9.toNat).n.z),(i (gL tP p.Na0 s.is9.toNat).b)]]⟩) (k ⟨0,(W (s.is9+1)),0,[]⟩)) z) z) (e 1))
noncomputable def E9 {α:Type} (k:l9→α) (e:Nat→α) (z:α) (p:E7) (s:l9):α:=let t1:=(la5 (gL tP p.Na0 s.is9.toNat) (⟨p.u7,p.u9,p.v7⟩:V3));(sl (decide (s.is9 < p.is8)) (sl (inB s.is9 (List.length p.Na0)) (sl (la6 (gL tP p.Na0 s.is9.toNat) (⟨p.u7,p.u9,p.v7⟩:V3)) (sl (t1==0) (sl (Nat.beq s.ns4 (len s.eh2)&&Nat.ble ((s.ns4+1)*32) room) (k ⟨1,(W (s.is9+1)),(s.ns4+1),(app s.eh2 [[(i (gL tP p.Na0 s.is9.toNat).n.x),(i (gL tP p.Na0 s.is9.toNat).n.y),(i (gL tP p.Na0 s.is9.toNat).n.z),(i (gL tP p.Na0 s.is9.toNat).b)]])⟩) z) (k ⟨1,(W (s.is9+1)),s.ns4,s.eh2⟩)) z) z) (e 2))
noncomputable def ja4 (p:E7) (s:l9):Stp l9:=(sel (Nat.beq s.ph 1) (E9 .next .exit .fail p s) (E8 .next .exit .fail p s))
noncomputable def Fa1:Lo E7 l9:=⟨En mb1,1,pf7,[1,1,0,1,4,4],[2,4,7,8,9],.p,[⟨((.s (.o .unk))::((.s (.o .unk))::((.s (.o (.ptr 1 0 0 0)))::((.s (.o .unk))::((.s (.o .nil))::((.s (.o .unk))::((.s (.o .unk))::((.s (.c 4 (nL tP)))::((.s (.o (.int .i64)))::((.s (.o (.int .i64)))::(ru2 15 []))))))))))),[⟨0,1,true,(some [[(.c 4 (nL tP))]])⟩,⟨0,3,true,(some [[(.o (.int .i64)),(.o (.int .i64)),(.o (.int .i64))]])⟩],fun a H=>(⟨(rL tP (slT a 7)),(toI (slT a 8)),(rL tP (slT (rwT (elT H 0) 0) 0)),(toI (slT (rwT (elT H 1) 0) 0)),(toI (slT (rwT (elT H 1) 0) 1)),(toI (slT (rwT (elT H 1) 0) 2))⟩,⟨0,(toI (slT a 9)),0,[]⟩)⟩,⟨((.s (.o .unk))::((.s (.o .unk))::((.s (.o (.ptr 1 0 0 0)))::((.s (.o .unk))::((.s (.o (.sl 2 0 (some 0) none)))::((.s (.o .unk))::((.s (.o .unk))::((.s (.c 4 (nL tP)))::((.s (.o (.int .i64)))::((.s (.o (.int .i64)))::(ru2 15 []))))))))))),[⟨0,1,true,(some [[(.c 4 (nL tP))]])⟩,⟨0,3,true,(some [[(.o (.int .i64)),(.o (.int .i64)),(.o (.int .i64))]])⟩,⟨73,4,true,none⟩],fun a H=>(⟨(rL tP (slT a 7)),(toI (slT a 8)),(rL tP (slT (rwT (elT H 0) 0) 0)),(toI (slT (rwT (elT H 1) 0) 0)),(toI (slT (rwT (elT H 1) 0) 1)),(toI (slT (rwT (elT H 1) 0) 2))⟩,⟨1,(toI (slT a 9)),(slN (slT a 4)),(elT H 2)⟩)⟩],ja4,[(some 0,fun p s=>⟨(.unk::(.unk::((.ptr 1 0 0 0)::(.unk::((.v (.slice none 0 0))::(.unk::(.unk::((eL tP p.Na0)::((i p.is8)::((i s.is9)::((b (decide (s.is9 < p.is8)))::(ra 14 [])))))))))))),[⟨0,1,[[(eL tP p.p9)]],true,false,0⟩,⟨0,3,[[(i p.u7),(i p.u9),(i p.v7)]],true,false,0⟩]⟩),(some 0,fun p s=>⟨(.unk::(.unk::((.ptr 1 0 0 0)::(.unk::((.sl 2 0 s.ns4 0)::(.unk::(.unk::((eL tP p.Na0)::((i p.is8)::((i s.is9)::((b (decide (s.is9 < p.is8)))::(ra 14 [])))))))))))),[⟨0,1,[[(eL tP p.p9)]],true,false,0⟩,⟨0,3,[[(i p.u7),(i p.u9),(i p.v7)]],true,false,0⟩,⟨73,4,s.eh2,true,false,0⟩]⟩)],Pb7⟩
theorem Pb8:Fa1.Ok:=Lo.ok [] (by kernel_rfl) .nil rfl (.cons (fun a H=>by kernel_rfl) (.cons (fun a H=>by kernel_rfl) .nil)) fun p s=>(.sel (Nat.beq s.ph 1) (.of @E9 (fun F _ _ _ _ _=>by unfold E9;(repeat' apply k9 (f:=F))<;>rfl) (by kernel_rfl)) (.of @E8 (fun F _ _ _ _ _=>by unfold E8;(repeat' apply k9 (f:=F))<;>rfl) (by kernel_rfl)))
structure ya0 where
 alt:Nat
 bs0:Bool
 p9:List Pln
noncomputable def ba9 {α:Type} (kk:ya0→α) (x:xa9):α:=let t1:=(lp (ja4 (⟨(rt tP x.p9),(↑(List.length x.p9):Int),(rt tP x.p9),x.O8,x.O9,x.P0⟩:E7)) (⟨0,0,0,[]⟩:l9));let t2:=(qa4 []);let t3:=(qa4 (slR tP t1.2.eh2 0 t1.2.ns4));(sl ((cnE tP x.p9)&&((cnE tP x.p9)&&true)) (sl (Nat.beq t1.1 1) (sl (qa5 []) (kk ⟨1,(!t2),(rt tP x.p9)⟩) (kk ⟨0,false,[]⟩)) (sl (Nat.beq t1.1 2) (sl (okS tP t1.2.eh2 0 t1.2.ns4) (sl (qa5 (slR tP t1.2.eh2 0 t1.2.ns4)) (kk ⟨1,(!t3),(rt tP x.p9)⟩) (kk ⟨0,false,[]⟩)) (kk ⟨0,false,[]⟩)) (kk ⟨0,false,[]⟩))) (kk ⟨0,false,[]⟩))
noncomputable def S7 (x:xa9):ya0:=ba9 (fun r=>r) x
noncomputable def La2 (x:xa9) (r:ya0):DT (b7×List b8):=(.ite (Nat.beq r.alt 1) (.ret ((b r.bs0),[⟨0,1,[[(eL tP r.p9)]],true,false,0⟩])) .fail)
theorem sc1 {α β:Type} (F:α→β) (kk:ya0→α) (x:xa9):F (ba9 kk x)=ba9 (fun r=>F (kk r)) x:=by unfold ba9;(repeat' apply k9 (f:=F))<;>rfl
noncomputable def Pa7:Sum:=nb6 ⟨[(.agg [(.o (.int .i64)),(.o (.int .i64)),(.o (.int .i64))]),(.s (.o (.ptr 0 0 0 0)))],[⟨0,1,true,(some [[(.c 4 (nL tP))]])⟩],fun a H=>(⟨(toI (slT (cellsOf (slT a 0)) 0)),(toI (slT (cellsOf (slT a 0)) 1)),(toI (slT (cellsOf (slT a 0)) 2)),(rL tP (slT (rwT (elT H 0) 0) 0))⟩,())⟩ (fun x=>La2 x (S7 x))
theorem mb2:g8 prog G 89 Pa7:=V5 (enc:=fun x=>⟨[(.agg [(i x.O8),(i x.O9),(i x.P0)]),(.ptr 0 0 0 0)],[⟨0,1,[[(eL tP x.p9)]],true,false,0⟩]⟩) (fun a H=>by kernel_rfl) (bd b89 Yb5) fun x=>sa8 (.s .p (.s .p (.s (.s .p (.b (.u Fa1.ls))) .p))) [Fa1.pr] (by kernel_rfl) (.cons Pb8 .nil) (Eq.trans (b:=ba9 (fun r=>(La2 x r).run) x) (by kernel_rfl) (sc1 (fun r=>(La2 x r).run) (fun r=>r) x).symm)
structure X1 where
 ns0:Nat
 eh0:List (List b7)
 q7:List Pln
noncomputable def Ba8:List (Nat×Sum):=[(89,Pa7)]
theorem jb8:i7 prog G Ba8:=⟨mb2,trivial⟩
structure H9 where
 ns0:Nat
 is7:Int
 eh0:List (List b7)
structure o4 where
 is8:Int
 q7:List Pln
noncomputable def hb7 (p:H9) (s:o4):St:=⟨((.sl 0 0 p.ns0 0)::((.fn 89 [(.ptr 1 0 0 0)])::(ra 5 ((i p.is7)::((i s.is8)::(ra 10 [])))))),[⟨27,3,p.eh0,true,false,0⟩,⟨0,1,[[(eL tP s.q7)]],true,false,0⟩]⟩
noncomputable def D5 {α:Type} (k:o4→α) (e:Nat→α) (z:α) (p:H9) (s:o4):α:=let t1:=(S7 ⟨(rdR tV p.eh0 (0+s.is8.toNat)).x,(rdR tV p.eh0 (0+s.is8.toNat)).y,(rdR tV p.eh0 (0+s.is8.toNat)).z,(rt tP s.q7)⟩);(sl (decide (s.is8 < p.is7)) (sl (inB s.is8 p.ns0) (sl (ldR tV p.eh0 (0+s.is8.toNat)) (sl ((cnE tP s.q7)&&true) (sl (Nat.beq t1.alt 1) (sl t1.bs0 (e 1) (k ⟨(W (s.is8+1)),t1.p9⟩)) z) z) z) z) (e 2))
noncomputable def F4 (p:H9) (s:o4):Stp o4:=D5 .next .exit .fail p s
noncomputable def da8:Lo H9 o4:=⟨En Ba8,2,Ld0,[1,0,1,4,4],[0,1,7,8],.p,[⟨((.s (.o (.sl 0 0 (some 0) none)))::((.fn 89 [(.o (.ptr 1 0 0 0))])::(ru2 5 ((.s (.o (.int .i64)))::((.s (.o (.int .i64)))::(ru2 10 [])))))),[⟨27,3,true,none⟩,⟨0,1,true,(some [[(.c 4 (nL tP))]])⟩],fun a H=>(⟨(slN (slT a 0)),(toI (slT a 7)),(elT H 0)⟩,⟨(toI (slT a 8)),(rL tP (slT (rwT (elT H 1) 0) 0))⟩)⟩],F4,[(none,fun p s=>let t1:=(S7 ⟨(rdR tV p.eh0 (0+s.is8.toNat)).x,(rdR tV p.eh0 (0+s.is8.toNat)).y,(rdR tV p.eh0 (0+s.is8.toNat)).z,(rt tP s.q7)⟩);⟨[(i s.is8)],[⟨27,3,p.eh0,true,false,0⟩,⟨0,1,[[(eL tP t1.p9)]],true,false,0⟩]⟩),(some 0,fun p s=>⟨((.sl 0 0 p.ns0 0)::((.fn 89 [(.ptr 1 0 0 0)])::(ra 5 ((i p.is7)::((i s.is8)::((b (decide (s.is8 < p.is7)))::(ra 9 []))))))),[⟨27,3,p.eh0,true,false,0⟩,⟨0,1,[[(eL tP s.q7)]],true,false,0⟩]⟩)],hb7⟩
theorem hb8:da8.Ok:=Lo.ok [] (by kernel_rfl) .nil rfl (.cons (fun a H=>by kernel_rfl) .nil) fun p s=>(.of @D5 (fun F _ _ _ _ _=>by unfold D5;(repeat' apply k9 (f:=F))<;>rfl) (by kernel_rfl))
structure X2 where
 alt:Nat
 is0:Int
 q7:List Pln
noncomputable def E1 {α:Type} (kk:X2→α) (x:X1):α:=let t1:=(lp (F4 (⟨x.ns0,(↑x.ns0:Int),x.eh0⟩:H9)) (⟨0,(rt tP x.q7)⟩:o4));let t2:=(S7 ⟨(rdR tV x.eh0 (0+t1.2.is8.toNat)).x,(rdR tV x.eh0 (0+t1.2.is8.toNat)).y,(rdR tV x.eh0 (0+t1.2.is8.toNat)).z,(rt tP t1.2.q7)⟩);(sl ((cnE tP x.q7)&&true) (sl (Nat.beq t1.1 1) (kk ⟨1,t1.2.is8,t2.p9⟩) (sl (Nat.beq t1.1 2) (kk ⟨1,(-1),t1.2.q7⟩) (kk ⟨0,0,[]⟩))) (kk ⟨0,0,[]⟩))
noncomputable def X3 (x:X1):X2:=E1 (fun r=>r) x
noncomputable def ia7 (x:X1) (r:X2):DT (b7×List b8):=(.ite (Nat.beq r.alt 1) (.ret ((i r.is0),[⟨27,3,x.eh0,true,false,0⟩,⟨0,1,[[(eL tP r.q7)]],true,false,0⟩])) .fail)
theorem ub0 {α β:Type} (F:α→β) (kk:X2→α) (x:X1):F (E1 kk x)=E1 (fun r=>F (kk r)) x:=by unfold E1;(repeat' apply k9 (f:=F))<;>rfl
noncomputable def Ga9:Sum:=nb6 ⟨[(.s (.o (.sl 0 0 (some 0) none))),(.fn 89 [(.o (.ptr 1 0 0 0))])],[⟨27,3,true,none⟩,⟨0,1,true,(some [[(.c 4 (nL tP))]])⟩],fun a H=>(⟨(slN (slT a 0)),(elT H 0),(rL tP (slT (rwT (elT H 1) 0) 0))⟩,())⟩ (fun x=>ia7 x (X3 x))
theorem pb9:g8 prog G 144 Ga9:=V5 (enc:=fun x=>⟨[(.sl 0 0 x.ns0 0),(.fn 89 [(.ptr 1 0 0 0)])],[⟨27,3,x.eh0,true,false,0⟩,⟨0,1,[[(eL tP x.q7)]],true,false,0⟩]⟩) (fun a H=>by kernel_rfl) (bd Oe9 jb8) fun x=>sa8 (.s .p (.s (.s .p (.b (.u da8.ls))) .p)) [da8.pr] (by kernel_rfl) (.cons hb8 .nil) (Eq.trans (b:=E1 (fun r=>(ia7 x r).run) x) (by kernel_rfl) (ub0 (fun r=>(ia7 x r).run) (fun r=>r) x).symm)
structure X4 where
 ns0:Nat
 eh0:List (List b7)
 q7:List Pln
noncomputable def Ba9:List (Nat×Sum):=[(144,Ga9),(89,Pa7)]
theorem jb9:i7 prog G Ba9:=⟨pb9,mb2,trivial⟩
structure I0 where
 ns0:Nat
structure q9 where
 is5:Int
 is6:Int
 eh0:List (List b7)
 q7:List Pln
noncomputable def hb9 (p:I0) (s:q9):St:=⟨((.sl 0 0 p.ns0 0)::((.fn 89 [(.ptr 1 0 0 0)])::(ra 3 ((i s.is5)::((i s.is6)::(ra 35 [])))))),[⟨27,3,s.eh0,true,false,0⟩,⟨0,1,[[(eL tP s.q7)]],true,false,0⟩]⟩
noncomputable def D6 {α:Type} (k:q9→α) (e:Nat→α) (z:α) (p:I0) (s:q9):α:=let t1:=(S7 ⟨(rdR tV s.eh0 (0+s.is6.toNat)).x,(rdR tV s.eh0 (0+s.is6.toNat)).y,(rdR tV s.eh0 (0+s.is6.toNat)).z,(rt tP s.q7)⟩);(sl (decide (s.is6 < (↑p.ns0:Int))) (sl (inB s.is6 p.ns0) (sl (ldR tV s.eh0 (0+s.is6.toNat)) (sl ((cnE tP s.q7)&&true) (sl (Nat.beq t1.alt 1) (sl (!t1.bs0) (sl (inB s.is5 p.ns0) (sl ((Nat.blt (0+s.is5.toNat) (len s.eh0))&&(Nat.ble (0+3) (len (i6 s.eh0 (0+s.is5.toNat))))) (k ⟨(W (s.is5+1)),(W (s.is6+1)),(setAt s.eh0 (0+s.is5.toNat) (J1 (i6 s.eh0 (0+s.is5.toNat)) 0 [(i (rdR tV s.eh0 (0+s.is6.toNat)).x),(i (rdR tV s.eh0 (0+s.is6.toNat)).y),(i (rdR tV s.eh0 (0+s.is6.toNat)).z)])),t1.p9⟩) z) z) (k ⟨s.is5,(W (s.is6+1)),s.eh0,t1.p9⟩)) z) z) z) z) (e 1))
noncomputable def A4 (p:I0) (s:q9):Stp q9:=D6 .next .exit .fail p s
noncomputable def da9:Lo I0 q9:=⟨En Ba9,2,pf8,[1,1,1,0,1,4,4],[0,1,5,6],.p,[⟨((.s (.o (.sl 0 0 (some 0) none)))::((.fn 89 [(.o (.ptr 1 0 0 0))])::(ru2 3 ((.s (.o (.int .i64)))::((.s (.o (.int .i64)))::(ru2 35 [])))))),[⟨27,3,true,none⟩,⟨0,1,true,(some [[(.c 4 (nL tP))]])⟩],fun a H=>(⟨(slN (slT a 0))⟩,⟨(toI (slT a 5)),(toI (slT a 6)),(elT H 0),(rL tP (slT (rwT (elT H 1) 0) 0))⟩)⟩],A4,[(some 0,fun p s=>⟨((.sl 0 0 p.ns0 0)::((.fn 89 [(.ptr 1 0 0 0)])::(ra 3 ((i s.is5)::((i s.is6)::(ra 9 ((i s.is6)::((.sl 0 0 p.ns0 0)::((i (↑p.ns0:Int))::((b (decide (s.is6 < (↑p.ns0:Int))))::(ra 22 []))))))))))),[⟨27,3,s.eh0,true,false,0⟩,⟨0,1,[[(eL tP s.q7)]],true,false,0⟩]⟩)],hb9⟩
theorem ib0:da9.Ok:=Lo.ok [] (by kernel_rfl) .nil rfl (.cons (fun a H=>by kernel_rfl) .nil) fun p s=>(.of @D6 (fun F _ _ _ _ _=>by unfold D6;(repeat' apply k9 (f:=F))<;>rfl) (by kernel_rfl))
structure X5 where
 alt:Nat
 ns0:Nat
 eh0:List (List b7)
 q7:List Pln
noncomputable def E2 {α:Type} (kk:X5→α) (x:X4):α:=let t1:=(X3 ⟨x.ns0,x.eh0,(rt tP x.q7)⟩);let t2:=(lp (A4 (⟨x.ns0⟩:I0)) (⟨t1.is0,(W (t1.is0+1)),x.eh0,(rt tP t1.q7)⟩:q9));(sl ((cnE tP x.q7)&&true) (sl (Nat.beq t1.alt 1) (sl (t1.is0==(-1)) (kk ⟨1,x.ns0,x.eh0,t1.q7⟩) (sl ((cnE tP t1.q7)&&true) (sl (Nat.beq t2.1 1) (sl (inB t2.2.is5 (x.ns0+1)) (sl (inB t2.2.is5 (x.ns0+1)) (kk ⟨1,(t2.2.is5.toNat - 0),(app (C4 t2.2.eh0 (0+t2.2.is5.toNat)) (app (List.replicate (x.ns0 - t2.2.is5.toNat) [(i 0),(i 0),(i 0)]) (g9 t2.2.eh0 ((0+t2.2.is5.toNat)+(x.ns0 - t2.2.is5.toNat))))),t2.2.q7⟩) (kk ⟨0,0,[],[]⟩)) (kk ⟨0,0,[],[]⟩)) (kk ⟨0,0,[],[]⟩)) (kk ⟨0,0,[],[]⟩))) (kk ⟨0,0,[],[]⟩)) (kk ⟨0,0,[],[]⟩))
noncomputable def X6 (x:X4):X5:=E2 (fun r=>r) x
noncomputable def ia8 (x:X4) (r:X5):DT (b7×List b8):=(.ite (Nat.beq r.alt 1) (.ret ((.sl 0 0 r.ns0 0),[⟨27,3,r.eh0,true,false,0⟩,⟨0,1,[[(eL tP r.q7)]],true,false,0⟩])) .fail)
theorem ub1 {α β:Type} (F:α→β) (kk:X5→α) (x:X4):F (E2 kk x)=E2 (fun r=>F (kk r)) x:=by unfold E2;(repeat' apply k9 (f:=F))<;>rfl
noncomputable def Ha0:Sum:=nb6 ⟨[(.s (.o (.sl 0 0 (some 0) none))),(.fn 89 [(.o (.ptr 1 0 0 0))])],[⟨27,3,true,none⟩,⟨0,1,true,(some [[(.c 4 (nL tP))]])⟩],fun a H=>(⟨(slN (slT a 0)),(elT H 0),(rL tP (slT (rwT (elT H 1) 0) 0))⟩,())⟩ (fun x=>ia8 x (X6 x))
theorem qb0:g8 prog G 91 Ha0:=V5 (enc:=fun x=>⟨[(.sl 0 0 x.ns0 0),(.fn 89 [(.ptr 1 0 0 0)])],[⟨27,3,x.eh0,true,false,0⟩,⟨0,1,[[(eL tP x.q7)]],true,false,0⟩]⟩) (fun a H=>by kernel_rfl) (bd b91 jb9) fun x=>sa8 (.s .p (.s .p (.s .p (.s (.s .p (.b (.u da9.ls))) .p)))) [da9.pr] (by kernel_rfl) (.cons ib0 .nil) (Eq.trans (b:=E2 (fun r=>(ia8 x r).run) x) (by kernel_rfl) (ub1 (fun r=>(ia8 x r).run) (fun r=>r) x).symm)
noncomputable def hc8:List (Nat×Sum):=[(145,Fa0),(146,ra3),(148,va7)]
theorem Yb6:i7 prog G hc8:=⟨Xa9,La1,Na6,trivial⟩
structure ya1 where
 alt:Nat
 ns0:Nat
 eh0:List (List b7)
noncomputable def ca0 {α:Type} (kk:ya1→α) (x:V3×List V3):α:=let t1:=(ca8 (hC tV (fun k=>(tV).row (gL tV (x.1::x.2) k)),tC tV (List.length x.2) (fun k=>(tV).row (gL tV (x.1::x.2) k))));let t2:=(L7 ⟨t1.ns0,(app (bL tV (Cb2 (slR tV t1.eh0 0 t1.ns0))) (g9 t1.eh0 t1.ns0))⟩);(sl (okL tV (List.length x.2+1) (fun k=>(tV).row (gL tV (x.1::x.2) k))) (sl (Nat.beq t1.alt 1) (sl (Bool.and (Nat.ble t1.ns0 room) (Bool.and (Nat.ble t1.ns0 (len t1.eh0)) (okS tV t1.eh0 0 t1.ns0))) (sl (Nat.beq t2.alt 1) (kk ⟨1,t2.ns0,t2.eh0⟩) (kk ⟨0,0,[]⟩)) (kk ⟨0,0,[]⟩)) (kk ⟨0,0,[]⟩)) (kk ⟨0,0,[]⟩))
noncomputable def ya2 (x:V3×List V3):ya1:=ca0 (fun r=>r) x
noncomputable def La3 (r:ya1):DT (b7×List b8):=(.ite (Nat.beq r.alt 1) (.ret ((.sl 0 0 r.ns0 0),[⟨27,3,r.eh0,true,false,0⟩])) .fail)
theorem sc2 {α β:Type} (F:α→β) (kk:ya1→α) (x:V3×List V3):F (ca0 kk x)=ca0 (fun r=>F (kk r)) x:=by unfold ca0;(repeat' apply k9 (f:=F))<;>rfl
noncomputable def ka8:Sum:=Q5 (Id3 tV) (fun x=>La3 (ya2 x))
theorem ra9:g8 prog G 92 ka8:=kb8 (bd b92 Yb6) fun x=>p5 (Eq.trans (b:=ca0 (fun r=>(La3 r).run) x) (by kernel_rfl) (sc2 (fun r=>(La3 r).run) (fun r=>r) x).symm)
noncomputable def Ec2:List (Nat×Sum):=[(64,hc6),(92,ka8),(91,Ha0)]
theorem sc3:i7 prog G Ec2:=⟨id5,ra9,qb0,trivial⟩
noncomputable def va9 (x:V3×List V3):Option (b7×List b8):=let t1:=(zb9 (hC tV (fun k=>(tV).row (gL tV (x.1::x.2) k)),tC tV (List.length x.2) (fun k=>(tV).row (gL tV (x.1::x.2) k))));let t2:=(ya2 (hC tV (fun k=>(tV).row (gL tV (x.1::x.2) k)),tC tV (List.length x.2) (fun k=>(tV).row (gL tV (x.1::x.2) k))));let t3:=(X6 ⟨t2.ns0,t2.eh0,(rt tP t1.1)⟩);(sl (okL tV (List.length x.2+1) (fun k=>(tV).row (gL tV (x.1::x.2) k))) (sl (Ab0 (hC tV (fun k=>(tV).row (gL tV (x.1::x.2) k)),tC tV (List.length x.2) (fun k=>(tV).row (gL tV (x.1::x.2) k)))) (sl (t1.2 != 0) (some ((.tup [(.v (.slice none 0 0)),(i t1.2)]),[])) (sl (okL tV (List.length x.2+1) (fun k=>(tV).row (gL tV (x.1::x.2) k))) (sl (Nat.beq t2.alt 1) (sl ((cnE tP t1.1)&&true) (sl (Nat.beq t3.alt 1) (some ((.tup [(.sl 0 0 t3.ns0 0),(i 0)]),[⟨27,3,t3.eh0,true,false,0⟩])) none) none) none) none)) none) none)
noncomputable def Jb8 (x:V3×List V3):List V3×Int:=C9 (two (r1L tV) r1I) (va9 x)
noncomputable def Jb9 (x:V3×List V3):Bool:=okO (two (r1L tV) r1I) (va9 x)
noncomputable def Uc9:Sum:=Q5 (Id3 tV) (fun x=>.guard (Jb9 x) (.ret ((two (r1L tV) r1I).enc (Jb8 x),[])))
theorem Ec3:g8 prog G 35 Uc9:=ya9 (bd b35 sc3) (two (r1L tV) r1I) (o:=va9) fun x=>p5 (by kernel_rfl)
end Go.Ev.Ce
end
namespace Go.Ev.L
open Go Go.Ev
noncomputable def hf3:Cod Unit where
 enc _:=.v (.slice none 0 0)
 dec x:=match x with
  | .v (.slice none 0 0)=>some ()
  | _=>none
 grd _:=true
 ok x a hx _:=by
  split at hx
  ·exact .refl _
  ·cases hx
noncomputable def cE0:Cod (Addr×Nat) where
 enc z:=.v (.slice (some z.1) 0 z.2)
 dec x:=match x with
  | .v (.slice (some a) 0 c)=>some (a,c)
  | _=>none
 grd _:=true
 ok x a hx _:=by
  split at hx
  ·cases hx;exact .refl _
  ·cases hx
section
variable {α:Type} {t:Ty α} {P:Program} {G:Nat→List Value} {f:FuncId}
theorem zd3 {β:Type} {c:Cod β} {k k':β→DT (b7×List b8)} (h:g8 P G f (Q5 c k)) (hk:∀ a r,(k' a).run=some r→(k a).run=some r):g8 P G f (Q5 c k'):=h.le fun args blks r hr=>by
 unfold Q5 at hr ⊢
 split at hr
 ·obtain⟨a,h1,hr⟩:=C8 hr
  obtain⟨g,hr⟩:=DT.run_guard_some hr
  simp only[h1,onO,g]
  exact hk a r hr
 ·cases hr
theorem hf4 {k:List α→DT (b7×List b8)} (hA:g8 P G f (Q5 (Id3 t) fun z=>k (z.1::z.2))) (hN:g8 P G f (Q5 hf3 fun _=>k [])) (hE:g8 P G f (Q5 cE0 fun _=>k [])):g8 P G f (Q5 (fa0 t) k):=by
 intro args blks r out he W ρ F w args' hH hlen hargs hG
 unfold Q5 at he
 split at he
 ·rename_i x
  obtain⟨a,h1,he⟩:=C8 he
  obtain⟨g1,hk⟩:=DT.run_guard_some he
  have nilCase:∀ v',args'[0]?=some v'→v'=.slice none 0 0→a=[]→cb4 P f∧Calls P f args'.toArray w fun e w'=>∃ r',e=.returned r'∧K3 W ρ [] F w r out r' w':=fun v' hv e ha=>by
   subst ha
   refine hN [.v (.slice none 0 0)] [] r out ?_ W ρ F w args' hH hlen (fun i x' y' hx hy=>?_) hG
   ·exact hk
   ·match i with
    | 0=>cases hx;rw[hv] at hy;cases hy;rw[e];exact .val (.cell (.v _))
    | i+1=>cases hx
  have emptyCase:∀ v' ad c,args'[0]?=some v'→v'=.slice (some ad) 0 c→a=[]→cb4 P f∧Calls P f args'.toArray w fun e w'=>∃ r',e=.returned r'∧K3 W ρ [] F w r out r' w':=fun v' ad c hv e ha=>by
   subst ha
   refine hE [.v (.slice (some ad) 0 c)] [] r out ?_ W ρ F w args' hH hlen (fun i x' y' hx hy=>?_) hG
   ·exact hk
   ·match i with
    | 0=>cases hx;rw[hv] at hy;cases hy;rw[e];exact .val (.cell (.v _))
    | i+1=>cases hx
  obtain⟨v',hv⟩:∃ v',args'[0]?=some v':=by
   cases args' with
   | nil=>simp at hlen
   | cons v' r'=>exact⟨v',rfl⟩
  cases x with
  | tree e n get =>
   have hb:Nat.beq e t.es=true∧a=lsL t n get:=by
    have h1:(Bool.rec none (some (lsL t n get)) (Nat.beq e t.es):Option (List α))=some a:=h1
    cases hb:Nat.beq e t.es with
    | false=>rw[hb] at h1;cases h1
    | true =>
     rw[hb] at h1
     have h1:some (lsL t n get)=some a:=h1
     injection h1 with h1
     exact⟨rfl,h1.symm⟩
   cases n with
   | zero =>
    have ha:a=[]:=hb.2
    have hm:=ma9 (hargs 0 _ v' rfl hv)
    cases hm with
    | tree _ _ _ ad cap cs hs hcap hes hF hw hr=>exact emptyCase _ ad cap hv rfl ha
    | nil=>exact nilCase _ hv rfl ha
   | succ m =>
    have ha:a=hC t get::tC t m get:=hb.2.trans (Id2 t m get)
    subst ha
    refine hA [.tree e (m+1) get] [] r out ?_ W ρ F w args' hH hlen hargs hG
    have hc:(Id3 t).dec (.tree e (m+1) get)=some (hC t get,tC t m get):=by
     show (Bool.rec none (some (hC t get,tC t m get)) (Nat.beq e t.es):Option (α×List α))=_
     rw[hb.1]
    have hg:(Id3 t).grd (.tree e (m+1) get)=true:=g1
    simp only[Q5,hc,onO,hg]
    exact hk
  | v q =>
   have hq:=aa8 (hargs 0 _ v' rfl hv)
   unfold fa0 at h1
   simp only at h1
   split at h1
   ·rename_i heq;cases heq
   ·rename_i heq
    injection heq with heq
    injection h1 with h1
    exact nilCase v' hv (hq.trans heq) h1.symm
   ·rename_i ad c heq
    injection heq with heq
    injection h1 with h1
    exact emptyCase v' _ _ hv (hq.trans heq) h1.symm
   ·cases h1
  | _=>cases h1
 ·cases he
end
end Go.Ev.L
section
namespace Go.Ev.Ce
open Go Go.Ev Go.Ev.L Go.Proofs
set_option maxRecDepth 100000
noncomputable def Vc0:List (Nat×Sum):=[(118,zb5),(92,ka8),(119,va1)]
theorem Ec4:i7 prog G Vc0:=⟨Sb5,ra9,Da2,trivial⟩
noncomputable def Ca0 (x:Unit):Option (b7×List b8):=let t1:=(Ka6 []);(sl (Ka7 []) (sl (t1 != 0) (some ((.tup [(.v (.slice none 0 0)),(i t1)]),[])) none) none)
noncomputable def Ra4 (x:Unit):List Pln×Int:=C9 (two (r1L tP) r1I) (Ca0 x)
noncomputable def Ra5 (x:Unit):Bool:=okO (two (r1L tP) r1I) (Ca0 x)
noncomputable def Sb8:Sum:=Q5 hf3 (fun x=>.guard (Ra5 x) (.ret ((two (r1L tP) r1I).enc (Ra4 x),[])))
theorem Vc1:g8 prog G 64 Sb8:=ya9 (bd b64 Ec4) (two (r1L tP) r1I) (o:=Ca0) fun x=>Ld1 .p [] (by kernel_rfl) .nil (by kernel_rfl)
noncomputable def sc4:List (Nat×Sum):=[(64,Sb8),(92,ka8)]
theorem hc9:i7 prog G sc4:=⟨Vc1,ra9,trivial⟩
noncomputable def oa8 (x:Unit):Option (b7×List b8):=let t1:=(Ra4 ());(sl (Ra5 ()) (sl (t1.2 != 0) (some ((.tup [(.v (.slice none 0 0)),(i t1.2)]),[])) none) none)
noncomputable def Ea0 (x:Unit):List V3×Int:=C9 (two (r1L tV) r1I) (oa8 x)
noncomputable def Ea1 (x:Unit):Bool:=okO (two (r1L tV) r1I) (oa8 x)
noncomputable def Cb5:Sum:=Q5 hf3 (fun x=>.guard (Ea1 x) (.ret ((two (r1L tV) r1I).enc (Ea0 x),[])))
theorem ub2:g8 prog G 35 Cb5:=ya9 (bd b35 hc9) (two (r1L tV) r1I) (o:=oa8) fun x=>p5 (by kernel_rfl)
noncomputable def Vc2:List (Nat×Sum):=[(119,va1)]
theorem Ec5:i7 prog G Vc2:=⟨Da2,trivial⟩
noncomputable def qb1 (x:Addr×Nat):Option (b7×List b8):=none
noncomputable def Sb9 (x:Addr×Nat):List Pln×Int:=C9 (two (r1L tP) r1I) (qb1 x)
noncomputable def Tb0 (x:Addr×Nat):Bool:=okO (two (r1L tP) r1I) (qb1 x)
noncomputable def Tb1:Sum:=Q5 cE0 (fun x=>.guard (Tb0 x) (.ret ((two (r1L tP) r1I).enc (Sb9 x),[])))
theorem Vc3:g8 prog G 64 Tb1:=ya9 (bd b64 Ec5) (two (r1L tP) r1I) (o:=qb1) fun x=>Ld1 .p [] (by kernel_rfl) .nil (by kernel_rfl)
noncomputable def sc5:List (Nat×Sum):=[(64,Tb1),(92,ka8)]
theorem ic0:i7 prog G sc5:=⟨Vc3,ra9,trivial⟩
noncomputable def Xa3 (x:Addr×Nat):Option (b7×List b8):=let t1:=(Sb9 x);(sl (Tb0 x) (sl (t1.2 != 0) (some ((.tup [(.v (.slice none 0 0)),(i t1.2)]),[])) none) none)
noncomputable def Ec6 (x:Addr×Nat):List V3×Int:=C9 (two (r1L tV) r1I) (Xa3 x)
noncomputable def Ec7 (x:Addr×Nat):Bool:=okO (two (r1L tV) r1I) (Xa3 x)
noncomputable def Ec8:Sum:=Q5 cE0 (fun x=>.guard (Ec7 x) (.ret ((two (r1L tV) r1I).enc (Ec6 x),[])))
theorem sc6:g8 prog G 35 Ec8:=ya9 (bd b35 ic0) (two (r1L tV) r1I) (o:=Xa3) fun x=>p5 (by kernel_rfl)
end Go.Ev.Ce
end
section
namespace Go.Ev.Ce
open Go Go.Ev Go.Ev.L Go.Proofs
set_option maxRecDepth 100000
noncomputable def ib1:List (Nat×Sum):=[]
theorem Pb9:i7 prog G ib1:=trivial
structure Z7 where
 c9:Int
 Bb0:Int
 Bb1:Int
structure y9 where
 T0:Int
noncomputable def Kb0 (p:Z7) (s:y9):St:=⟨(ra 14 ((.sl 0 0 3 0)::((i 3)::((i s.T0)::(ra 10 []))))),[⟨3,1,[[(i p.c9)],[(i p.Bb0)],[(i p.Bb1)]],true,false,0⟩]⟩
noncomputable def R2 {α:Type} (k:y9→α) (e:Nat→α) (z:α) (p:Z7) (s:y9):α:=(sl (decide (s.T0 < 3)) (sl (inB s.T0 3) (sl (((Nat.blt (0+s.T0.toNat) (len [[(i p.c9)],[(i p.Bb0)],[(i p.Bb1)]]))&&(Nat.ble (0+1) (len (i6 [[(i p.c9)],[(i p.Bb0)],[(i p.Bb1)]] (0+s.T0.toNat)))))&&(L9 [(CK.int .i64)] (g9 (i6 [[(i p.c9)],[(i p.Bb0)],[(i p.Bb1)]] (0+s.T0.toNat)) 0))) (sl (decide ((toI (hdA (g9 (i6 [[(i p.c9)],[(i p.Bb0)],[(i p.Bb1)]] (0+s.T0.toNat)) 0))) < 0)) (e 1) (sl (decide ((toI (hdA (g9 (i6 [[(i p.c9)],[(i p.Bb0)],[(i p.Bb1)]] (0+s.T0.toNat)) 0))) > 12)) (e 1) (k ⟨(W (s.T0+1))⟩))) z) z) (e 2))
noncomputable def F5 (p:Z7) (s:y9):Stp y9:=R2 .next .exit .fail p s
noncomputable def za1:Lo Z7 y9:=⟨En ib1,0,Ze1,[1,0,1,4,4],[14,15,16],.p,[⟨(ru2 14 ((.s (.o (.sl 0 0 (some 0) (some 3))))::((.s (.o (.lit .i64 3)))::((.s (.o (.int .i64)))::(ru2 10 []))))),[⟨3,1,true,(some [[(.o (.int .i64))],[(.o (.int .i64))],[(.o (.int .i64))]])⟩],fun a H=>(⟨(toI (slT (rwT (elT H 0) 0) 0)),(toI (slT (rwT (elT H 0) 1) 0)),(toI (slT (rwT (elT H 0) 2) 0))⟩,⟨(toI (slT a 16))⟩)⟩],F5,[(none,fun p s=>⟨[(b false)],[]⟩),(some 0,fun p s=>⟨(ra 14 ((.sl 0 0 3 0)::((i 3)::((i s.T0)::((b (decide (s.T0 < 3)))::(ra 9 [])))))),[⟨3,1,[[(i p.c9)],[(i p.Bb0)],[(i p.Bb1)]],true,false,0⟩]⟩)],Kb0⟩
theorem Kb1:za1.Ok:=Lo.ok [] (by kernel_rfl) .nil rfl (.cons (fun a H=>by kernel_rfl) .nil) fun p s=>(.of @R2 (fun F _ _ _ _ _=>by unfold R2;(repeat' apply k9 (f:=F))<;>rfl) (by kernel_rfl))
noncomputable def ga8 (x:V3):Option (b7×List b8):=let t1:=(lp (F5 (⟨x.x,x.y,x.z⟩:Z7)) (⟨0⟩:y9));(sl (Nat.beq t1.1 1) (some ((b false),[])) (sl (Nat.beq t1.1 2) (some ((b true),[])) none))
noncomputable def ga9 (x:V3):Bool:=C9 (one r1B) (ga8 x)
noncomputable def ha0 (x:V3):Bool:=okO (one r1B) (ga8 x)
noncomputable def La4:Sum:=Q5 (B0 tV) (fun x=>.guard (ha0 x) (.ret ((one r1B).enc (ga9 x),[])))
theorem ib2:g8 prog G 129 La4:=ya9 (bd Bf7 Pb9) (one r1B) (o:=ga8) fun x=>sa8 (.s .p (.s (.s .p (.b (.u za1.ls))) .p)) [za1.pr] (by kernel_rfl) (.cons Kb1 .nil) (by kernel_rfl)
noncomputable def Vc4:List (Nat×Sum):=[(183,Oa7)]
theorem Ec9:i7 prog G Vc4:=⟨lb5,trivial⟩
noncomputable def Ca1 (x:V3) (y:V3):Int:=let t1:=(R6 x.x);let t2:=(R6 x.y);let t3:=(R6 x.z);(W ((W ((W (t1*y.x))+(W (t2*y.y))))+(W (t3*y.z))))
noncomputable def Tb2:Sum:=Z9 (B0 tV) (B0 tV) (fun x y=>.ret ((one r1I).enc (Ca1 x y),[]))
theorem Vc5:g8 prog G 131 Tb2:=ra7 (bd Bf9 Ec9) fun x y=>p5 (by kernel_rfl)
noncomputable def id6:List (Nat×Sum):=[(140,ob0),(138,Ja0)]
theorem Vc6:i7 prog G id6:=⟨Ib2,Va6,trivial⟩
noncomputable def La5 (x:Pln) (y:Int):Option (b7×List b8):=let t1:=(Aa2 x);let t2:=(J4 4194304 [y]);let t3:=(J4 2097152 [(W (x.b+y))]);(sl (Aa3 x) (sl (!t1) (some ((.tup [(.agg [(i 0),(i 0),(i 0),(i 0)]),(b false)]),[])) (sl (J5 4194304 [y]) (sl (!t2) (some ((.tup [(.agg [(i 0),(i 0),(i 0),(i 0)]),(b false)]),[])) (sl (J5 2097152 [(W (x.b+y))]) (sl (!t3) (some ((.tup [(.agg [(i 0),(i 0),(i 0),(i 0)]),(b false)]),[])) (some ((.tup [(.agg [(i x.n.x),(i x.n.y),(i x.n.z),(i (W (x.b+y)))]),(b true)]),[]))) none)) none)) none)
noncomputable def ma1 (x:Pln) (y:Int):Pln×Bool:=C9 (two r1P r1B) (La5 x y)
noncomputable def ma2 (x:Pln) (y:Int):Bool:=okO (two r1P r1B) (La5 x y)
noncomputable def Ab1:Sum:=Z9 (B0 tP) cI (fun x y=>.guard (ma2 x y) (.ret ((two r1P r1B).enc (ma1 x y),[])))
theorem Tb3:g8 prog G 130 Ab1:=Ia3 (bd Bf8 Vc6) (two r1P r1B) (o:=La5) fun x y=>p5 (by kernel_rfl)
noncomputable def sc7:List (Nat×Sum):=[(131,Tb2)]
theorem ic1:i7 prog G sc7:=⟨Vc5,trivial⟩
noncomputable def oa9 (x:V3) (y:Pln):Int:=let t1:=(Ca1 y.n x);t1
noncomputable def Xa4:Sum:=Z9 (B0 tV) (B0 tP) (fun x y=>.ret ((one r1I).enc (oa9 x y),[]))
theorem ub3:g8 prog G 75 Xa4:=ra7 (bd b75 ic1) fun x y=>p5 (by kernel_rfl)
noncomputable def Fc0:List (Nat×Sum):=[(75,Xa4)]
theorem sc8:i7 prog G Fc0:=⟨ub3,trivial⟩
noncomputable def La6 (x:V3) (y:Pln):Int:=let t1:=(oa9 x y);(W (0 - t1))
noncomputable def Kb2:Sum:=Z9 (B0 tV) (B0 tP) (fun x y=>.ret ((one r1I).enc (La6 x y),[]))
theorem Fc1:g8 prog G 77 Kb2:=ra7 (bd b77 sc8) fun x y=>p5 (by kernel_rfl)
structure Ra6 where
 O8:Int
 O9:Int
 P0:Int
 Ua6:List Pln
 Na1:Int
 Na2:Int
 Na3:Int
noncomputable def Kb3:List (Nat×Sum):=[(129,La4),(75,Xa4),(130,Ab1)]
theorem Fc2:i7 prog G Kb3:=⟨ib2,ub3,Tb3,trivial⟩
structure Q1 where
 Na1:Int
 Na2:Int
 Na3:Int
 Z2:List Pln
 n7:Int
structure n8 where
 ph:Nat
 ja1:Int
 ns8:Nat
 eh0:List (List b7)
noncomputable def ic2 (p:Q1) (s:n8):St:=⟨(.unk::(.unk::((.fn 100075 [(i p.Na1),(i p.Na2),(i p.Na3)])::(ra 5 ((.v (.slice none 0 0))::(ra 7 ((eL tP p.Z2)::((i p.n7)::((i s.ja1)::(ra 19 [])))))))))),[]⟩
noncomputable def ic3 (p:Q1) (s:n8):St:=⟨(.unk::(.unk::((.fn 100075 [(i p.Na1),(i p.Na2),(i p.Na3)])::(ra 5 ((.sl 0 0 s.ns8 0)::(ra 7 ((eL tP p.Z2)::((i p.n7)::((i s.ja1)::(ra 19 [])))))))))),[⟨73,4,s.eh0,true,false,0⟩]⟩
noncomputable def sc9 (p:Q1) (s:n8):St:=(sel (Nat.beq s.ph 1) (ic3 p s) (ic2 p s))
noncomputable def O4 {α:Type} (k:n8→α) (e:Nat→α) (z:α) (p:Q1) (s:n8):α:=let t1:=(oa9 (⟨p.Na1,p.Na2,p.Na3⟩:V3) (gL tP p.Z2 s.ja1.toNat));let t2:=(ma1 (gL tP p.Z2 s.ja1.toNat) t1);(sl (decide (s.ja1 < p.n7)) (sl (inB s.ja1 (List.length p.Z2)) (sl (ma2 (gL tP p.Z2 s.ja1.toNat) t1) (sl (!t2.2) (e 1) (k ⟨1,(W (s.ja1+1)),1,[[(i t2.1.n.x),(i t2.1.n.y),(i t2.1.n.z),(i t2.1.b)]]⟩)) z) z) (e 2))
noncomputable def O5 {α:Type} (k:n8→α) (e:Nat→α) (z:α) (p:Q1) (s:n8):α:=let t1:=(oa9 (⟨p.Na1,p.Na2,p.Na3⟩:V3) (gL tP p.Z2 s.ja1.toNat));let t2:=(ma1 (gL tP p.Z2 s.ja1.toNat) t1);(sl (decide (s.ja1 < p.n7)) (sl (inB s.ja1 (List.length p.Z2)) (sl (ma2 (gL tP p.Z2 s.ja1.toNat) t1) (sl (!t2.2) (e 1) (sl (Nat.beq s.ns8 (len s.eh0)&&Nat.ble ((s.ns8+1)*32) room) (k ⟨1,(W (s.ja1+1)),(s.ns8+1),(app s.eh0 [[(i t2.1.n.x),(i t2.1.n.y),(i t2.1.n.z),(i t2.1.b)]])⟩) z)) z) z) (e 3))
noncomputable def ya3 (p:Q1) (s:n8):Stp n8:=(sel (Nat.beq s.ph 1) (O5 .next .exit .fail p s) (O4 .next .exit .fail p s))
noncomputable def Xa5:Lo Q1 n8:=⟨En Kb3,0,ff8,[1,1,1,0,1,4,4],[2,8,16,17,18],.p,[⟨((.s (.o .unk))::((.s (.o .unk))::((.fn 100075 [(.o (.int .i64)),(.o (.int .i64)),(.o (.int .i64))])::(ru2 5 ((.s (.o .nil))::(ru2 7 ((.s (.c 4 (nL tP)))::((.s (.o (.int .i64)))::((.s (.o (.int .i64)))::(ru2 19 [])))))))))),[],fun a H=>(⟨(toI (slT (cellsOf (slT a 2)) 0)),(toI (slT (cellsOf (slT a 2)) 1)),(toI (slT (cellsOf (slT a 2)) 2)),(rL tP (slT a 16)),(toI (slT a 17))⟩,⟨0,(toI (slT a 18)),0,[]⟩)⟩,⟨((.s (.o .unk))::((.s (.o .unk))::((.fn 100075 [(.o (.int .i64)),(.o (.int .i64)),(.o (.int .i64))])::(ru2 5 ((.s (.o (.sl 0 0 (some 0) none)))::(ru2 7 ((.s (.c 4 (nL tP)))::((.s (.o (.int .i64)))::((.s (.o (.int .i64)))::(ru2 19 [])))))))))),[⟨73,4,true,none⟩],fun a H=>(⟨(toI (slT (cellsOf (slT a 2)) 0)),(toI (slT (cellsOf (slT a 2)) 1)),(toI (slT (cellsOf (slT a 2)) 2)),(rL tP (slT a 16)),(toI (slT a 17))⟩,⟨1,(toI (slT a 18)),(slN (slT a 8)),(elT H 0)⟩)⟩],ya3,[(none,fun p s=>⟨[(.tup [(.v (.slice none 0 0)),(b false)])],[]⟩),(some 0,fun p s=>⟨(.unk::(.unk::((.fn 100075 [(i p.Na1),(i p.Na2),(i p.Na3)])::(ra 5 ((.v (.slice none 0 0))::(ra 7 ((eL tP p.Z2)::((i p.n7)::((i s.ja1)::((b (decide (s.ja1 < p.n7)))::(ra 18 []))))))))))),[]⟩),(some 0,fun p s=>⟨(.unk::(.unk::((.fn 100075 [(i p.Na1),(i p.Na2),(i p.Na3)])::(ra 5 ((.sl 0 0 s.ns8 0)::(ra 7 ((eL tP p.Z2)::((i p.n7)::((i s.ja1)::((b (decide (s.ja1 < p.n7)))::(ra 18 []))))))))))),[⟨73,4,s.eh0,true,false,0⟩]⟩)],sc9⟩
theorem tc0:Xa5.Ok:=Lo.ok [] (by kernel_rfl) .nil rfl (.cons (fun a H=>by kernel_rfl) (.cons (fun a H=>by kernel_rfl) .nil)) fun p s=>(.sel (Nat.beq s.ph 1) (.of @O5 (fun F _ _ _ _ _=>by unfold O5;(repeat' apply k9 (f:=F))<;>rfl) (by kernel_rfl)) (.of @O4 (fun F _ _ _ _ _=>by unfold O4;(repeat' apply k9 (f:=F))<;>rfl) (by kernel_rfl)))
structure Ra7 where
 alt:Nat
 bs1:Bool
 ns0:Nat
 eh0:List (List b7)
noncomputable def qa6 {α:Type} (kk:Ra7→α) (x:Ra6):α:=let t1:=(ga9 (⟨x.O8,x.O9,x.P0⟩:V3));let t2:=(lp (ya3 (⟨x.Na1,x.Na2,x.Na3,(rt tP x.Ua6),(↑(List.length x.Ua6):Int)⟩:Q1)) (⟨0,0,0,[]⟩:n8));(sl (ha0 (⟨x.O8,x.O9,x.P0⟩:V3)) (sl (!t1) (kk ⟨1,false,0,[]⟩) (sl ((cnE tP x.Ua6)&&true) (sl (Nat.beq t2.1 1) (kk ⟨1,false,0,[]⟩) (sl (Nat.beq t2.1 2) (kk ⟨1,true,0,[]⟩) (sl (Nat.beq t2.1 3) (kk ⟨2,false,t2.2.ns8,t2.2.eh0⟩) (kk ⟨0,false,0,[]⟩)))) (kk ⟨0,false,0,[]⟩))) (kk ⟨0,false,0,[]⟩))
noncomputable def qb2 (x:Ra6):Ra7:=qa6 (fun r=>r) x
noncomputable def ib3 (x:Ra6) (r:Ra7):DT (b7×List b8):=(.ite (Nat.beq r.alt 1) (.ret ((.tup [(.v (.slice none 0 0)),(b r.bs1)]),[])) (.ite (Nat.beq r.alt 2) (.ret ((.tup [(.sl 0 0 r.ns0 0),(b true)]),[⟨73,4,r.eh0,true,false,0⟩])) .fail))
theorem id7 {α β:Type} (F:α→β) (kk:Ra7→α) (x:Ra6):F (qa6 kk x)=qa6 (fun r=>F (kk r)) x:=by unfold qa6;(repeat' apply k9 (f:=F))<;>rfl
noncomputable def Tb4:Sum:=nb6 ⟨[(.agg [(.o (.int .i64)),(.o (.int .i64)),(.o (.int .i64))]),(.s (.c 4 (nL tP))),(.fn 100075 [(.o (.int .i64)),(.o (.int .i64)),(.o (.int .i64))])],[],fun a H=>(⟨(toI (slT (cellsOf (slT a 0)) 0)),(toI (slT (cellsOf (slT a 0)) 1)),(toI (slT (cellsOf (slT a 0)) 2)),(rL tP (slT a 1)),(toI (slT (cellsOf (slT a 2)) 0)),(toI (slT (cellsOf (slT a 2)) 1)),(toI (slT (cellsOf (slT a 2)) 2))⟩,())⟩ (fun x=>ib3 x (qb2 x))
theorem Vc7:g8 prog G 74 Tb4:=V5 (enc:=fun x=>⟨[(.agg [(i x.O8),(i x.O9),(i x.P0)]),(eL tP x.Ua6),(.fn 100075 [(i x.Na1),(i x.Na2),(i x.Na3)])],[]⟩) (fun a H=>by kernel_rfl) (bd b74 Fc2) fun x=>sa8 (.s .p (.s .p (.s .p (.s (.s .p (.b (.u Xa5.ls))) .p)))) [Xa5.pr] (by kernel_rfl) (.cons tc0 .nil) (Eq.trans (b:=qa6 (fun r=>(ib3 x r).run) x) (by kernel_rfl) (id7 (fun r=>(ib3 x r).run) (fun r=>r) x).symm)
noncomputable def Od3:List (Nat×Sum):=[(74,Tb4)]
theorem zd4:i7 prog G Od3:=⟨Vc7,trivial⟩
noncomputable def ib4 (x:List Pln) (y:V3):Option (b7×List b8):=let t1:=(qb2 ⟨y.x,y.y,y.z,(rt tP x),y.x,y.y,y.z⟩);(sl ((cnE tP x)&&true) (sl (Nat.beq t1.alt 1) (some ((.tup [(.v (.slice none 0 0)),(b t1.bs1)]),[])) (sl (Nat.beq t1.alt 2) (some ((.tup [(.sl 0 0 t1.ns0 0),(b true)]),[⟨73,4,t1.eh0,true,false,0⟩])) none)) none)
noncomputable def Fa2 (x:List Pln) (y:V3):List Pln×Bool:=C9 (two (r1L tP) r1B) (ib4 x y)
noncomputable def Fa3 (x:List Pln) (y:V3):Bool:=okO (two (r1L tP) r1B) (ib4 x y)
noncomputable def Yb7:Sum:=Z9 (fa0 tP) (B0 tV) (fun x y=>.guard (Fa3 x y) (.ret ((two (r1L tP) r1B).enc (Fa2 x y),[])))
theorem yc3:g8 prog G 19 Yb7:=Ia3 (bd b19 zd4) (two (r1L tP) r1B) (o:=ib4) fun x y=>p5 (by kernel_rfl)
structure Ra8 where
 O8:Int
 O9:Int
 P0:Int
 Ua6:List Pln
 Na1:Int
 Na2:Int
 Na3:Int
noncomputable def Kb4:List (Nat×Sum):=[(129,La4),(77,Kb2),(130,Ab1)]
theorem Fc3:i7 prog G Kb4:=⟨ib2,Fc1,Tb3,trivial⟩
structure Q3 where
 Na1:Int
 Na2:Int
 Na3:Int
 Z2:List Pln
 n7:Int
structure n9 where
 ph:Nat
 ja1:Int
 ns8:Nat
 eh0:List (List b7)
noncomputable def ic4 (p:Q3) (s:n9):St:=⟨(.unk::(.unk::((.fn 100077 [(i p.Na1),(i p.Na2),(i p.Na3)])::(ra 5 ((.v (.slice none 0 0))::(ra 7 ((eL tP p.Z2)::((i p.n7)::((i s.ja1)::(ra 19 [])))))))))),[]⟩
noncomputable def ic5 (p:Q3) (s:n9):St:=⟨(.unk::(.unk::((.fn 100077 [(i p.Na1),(i p.Na2),(i p.Na3)])::(ra 5 ((.sl 0 0 s.ns8 0)::(ra 7 ((eL tP p.Z2)::((i p.n7)::((i s.ja1)::(ra 19 [])))))))))),[⟨73,4,s.eh0,true,false,0⟩]⟩
noncomputable def tc1 (p:Q3) (s:n9):St:=(sel (Nat.beq s.ph 1) (ic5 p s) (ic4 p s))
noncomputable def O6 {α:Type} (k:n9→α) (e:Nat→α) (z:α) (p:Q3) (s:n9):α:=let t1:=(La6 (⟨p.Na1,p.Na2,p.Na3⟩:V3) (gL tP p.Z2 s.ja1.toNat));let t2:=(ma1 (gL tP p.Z2 s.ja1.toNat) t1);(sl (decide (s.ja1 < p.n7)) (sl (inB s.ja1 (List.length p.Z2)) (sl (ma2 (gL tP p.Z2 s.ja1.toNat) t1) (sl (!t2.2) (e 1) (k ⟨1,(W (s.ja1+1)),1,[[(i t2.1.n.x),(i t2.1.n.y),(i t2.1.n.z),(i t2.1.b)]]⟩)) z) z) (e 2))
noncomputable def O7 {α:Type} (k:n9→α) (e:Nat→α) (z:α) (p:Q3) (s:n9):α:=let t1:=(La6 (⟨p.Na1,p.Na2,p.Na3⟩:V3) (gL tP p.Z2 s.ja1.toNat));let t2:=(ma1 (gL tP p.Z2 s.ja1.toNat) t1);(sl (decide (s.ja1 < p.n7)) (sl (inB s.ja1 (List.length p.Z2)) (sl (ma2 (gL tP p.Z2 s.ja1.toNat) t1) (sl (!t2.2) (e 1) (sl (Nat.beq s.ns8 (len s.eh0)&&Nat.ble ((s.ns8+1)*32) room) (k ⟨1,(W (s.ja1+1)),(s.ns8+1),(app s.eh0 [[(i t2.1.n.x),(i t2.1.n.y),(i t2.1.n.z),(i t2.1.b)]])⟩) z)) z) z) (e 3))
noncomputable def ya4 (p:Q3) (s:n9):Stp n9:=(sel (Nat.beq s.ph 1) (O7 .next .exit .fail p s) (O6 .next .exit .fail p s))
noncomputable def Xa6:Lo Q3 n9:=⟨En Kb4,0,ff8,[1,1,1,0,1,4,4],[2,8,16,17,18],.p,[⟨((.s (.o .unk))::((.s (.o .unk))::((.fn 100077 [(.o (.int .i64)),(.o (.int .i64)),(.o (.int .i64))])::(ru2 5 ((.s (.o .nil))::(ru2 7 ((.s (.c 4 (nL tP)))::((.s (.o (.int .i64)))::((.s (.o (.int .i64)))::(ru2 19 [])))))))))),[],fun a H=>(⟨(toI (slT (cellsOf (slT a 2)) 0)),(toI (slT (cellsOf (slT a 2)) 1)),(toI (slT (cellsOf (slT a 2)) 2)),(rL tP (slT a 16)),(toI (slT a 17))⟩,⟨0,(toI (slT a 18)),0,[]⟩)⟩,⟨((.s (.o .unk))::((.s (.o .unk))::((.fn 100077 [(.o (.int .i64)),(.o (.int .i64)),(.o (.int .i64))])::(ru2 5 ((.s (.o (.sl 0 0 (some 0) none)))::(ru2 7 ((.s (.c 4 (nL tP)))::((.s (.o (.int .i64)))::((.s (.o (.int .i64)))::(ru2 19 [])))))))))),[⟨73,4,true,none⟩],fun a H=>(⟨(toI (slT (cellsOf (slT a 2)) 0)),(toI (slT (cellsOf (slT a 2)) 1)),(toI (slT (cellsOf (slT a 2)) 2)),(rL tP (slT a 16)),(toI (slT a 17))⟩,⟨1,(toI (slT a 18)),(slN (slT a 8)),(elT H 0)⟩)⟩],ya4,[(none,fun p s=>⟨[(.tup [(.v (.slice none 0 0)),(b false)])],[]⟩),(some 0,fun p s=>⟨(.unk::(.unk::((.fn 100077 [(i p.Na1),(i p.Na2),(i p.Na3)])::(ra 5 ((.v (.slice none 0 0))::(ra 7 ((eL tP p.Z2)::((i p.n7)::((i s.ja1)::((b (decide (s.ja1 < p.n7)))::(ra 18 []))))))))))),[]⟩),(some 0,fun p s=>⟨(.unk::(.unk::((.fn 100077 [(i p.Na1),(i p.Na2),(i p.Na3)])::(ra 5 ((.sl 0 0 s.ns8 0)::(ra 7 ((eL tP p.Z2)::((i p.n7)::((i s.ja1)::((b (decide (s.ja1 < p.n7)))::(ra 18 []))))))))))),[⟨73,4,s.eh0,true,false,0⟩]⟩)],tc1⟩
theorem tc2:Xa6.Ok:=Lo.ok [] (by kernel_rfl) .nil rfl (.cons (fun a H=>by kernel_rfl) (.cons (fun a H=>by kernel_rfl) .nil)) fun p s=>(.sel (Nat.beq s.ph 1) (.of @O7 (fun F _ _ _ _ _=>by unfold O7;(repeat' apply k9 (f:=F))<;>rfl) (by kernel_rfl)) (.of @O6 (fun F _ _ _ _ _=>by unfold O6;(repeat' apply k9 (f:=F))<;>rfl) (by kernel_rfl)))
structure Ra9 where
 alt:Nat
 bs1:Bool
 ns0:Nat
 eh0:List (List b7)
noncomputable def qa7 {α:Type} (kk:Ra9→α) (x:Ra8):α:=let t1:=(ga9 (⟨x.O8,x.O9,x.P0⟩:V3));let t2:=(lp (ya4 (⟨x.Na1,x.Na2,x.Na3,(rt tP x.Ua6),(↑(List.length x.Ua6):Int)⟩:Q3)) (⟨0,0,0,[]⟩:n9));(sl (ha0 (⟨x.O8,x.O9,x.P0⟩:V3)) (sl (!t1) (kk ⟨1,false,0,[]⟩) (sl ((cnE tP x.Ua6)&&true) (sl (Nat.beq t2.1 1) (kk ⟨1,false,0,[]⟩) (sl (Nat.beq t2.1 2) (kk ⟨1,true,0,[]⟩) (sl (Nat.beq t2.1 3) (kk ⟨2,false,t2.2.ns8,t2.2.eh0⟩) (kk ⟨0,false,0,[]⟩)))) (kk ⟨0,false,0,[]⟩))) (kk ⟨0,false,0,[]⟩))
noncomputable def qb3 (x:Ra8):Ra9:=qa7 (fun r=>r) x
noncomputable def ib5 (x:Ra8) (r:Ra9):DT (b7×List b8):=(.ite (Nat.beq r.alt 1) (.ret ((.tup [(.v (.slice none 0 0)),(b r.bs1)]),[])) (.ite (Nat.beq r.alt 2) (.ret ((.tup [(.sl 0 0 r.ns0 0),(b true)]),[⟨73,4,r.eh0,true,false,0⟩])) .fail))
theorem id8 {α β:Type} (F:α→β) (kk:Ra9→α) (x:Ra8):F (qa7 kk x)=qa7 (fun r=>F (kk r)) x:=by unfold qa7;(repeat' apply k9 (f:=F))<;>rfl
noncomputable def Tb5:Sum:=nb6 ⟨[(.agg [(.o (.int .i64)),(.o (.int .i64)),(.o (.int .i64))]),(.s (.c 4 (nL tP))),(.fn 100077 [(.o (.int .i64)),(.o (.int .i64)),(.o (.int .i64))])],[],fun a H=>(⟨(toI (slT (cellsOf (slT a 0)) 0)),(toI (slT (cellsOf (slT a 0)) 1)),(toI (slT (cellsOf (slT a 0)) 2)),(rL tP (slT a 1)),(toI (slT (cellsOf (slT a 2)) 0)),(toI (slT (cellsOf (slT a 2)) 1)),(toI (slT (cellsOf (slT a 2)) 2))⟩,())⟩ (fun x=>ib5 x (qb3 x))
theorem Vc8:g8 prog G 74 Tb5:=V5 (enc:=fun x=>⟨[(.agg [(i x.O8),(i x.O9),(i x.P0)]),(eL tP x.Ua6),(.fn 100077 [(i x.Na1),(i x.Na2),(i x.Na3)])],[]⟩) (fun a H=>by kernel_rfl) (bd b74 Fc3) fun x=>sa8 (.s .p (.s .p (.s .p (.s (.s .p (.b (.u Xa6.ls))) .p)))) [Xa6.pr] (by kernel_rfl) (.cons tc2 .nil) (Eq.trans (b:=qa7 (fun r=>(ib5 x r).run) x) (by kernel_rfl) (id8 (fun r=>(ib5 x r).run) (fun r=>r) x).symm)
noncomputable def id9:List (Nat×Sum):=[(74,Tb5)]
theorem Vc9:i7 prog G id9:=⟨Vc8,trivial⟩
noncomputable def La7 (x:List Pln) (y:V3):Option (b7×List b8):=let t1:=(qb3 ⟨y.x,y.y,y.z,(rt tP x),y.x,y.y,y.z⟩);(sl ((cnE tP x)&&true) (sl (Nat.beq t1.alt 1) (some ((.tup [(.v (.slice none 0 0)),(b t1.bs1)]),[])) (sl (Nat.beq t1.alt 2) (some ((.tup [(.sl 0 0 t1.ns0 0),(b true)]),[⟨73,4,t1.eh0,true,false,0⟩])) none)) none)
noncomputable def ma3 (x:List Pln) (y:V3):List Pln×Bool:=C9 (two (r1L tP) r1B) (La7 x y)
noncomputable def ma4 (x:List Pln) (y:V3):Bool:=okO (two (r1L tP) r1B) (La7 x y)
noncomputable def Ab2:Sum:=Z9 (fa0 tP) (B0 tV) (fun x y=>.guard (ma4 x y) (.ret ((two (r1L tP) r1B).enc (ma3 x y),[])))
theorem Tb6:g8 prog G 21 Ab2:=Ia3 (bd b21 Vc9) (two (r1L tP) r1B) (o:=La7) fun x y=>p5 (by kernel_rfl)
end Go.Ev.Ce
end
