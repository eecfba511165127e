/- Own work: a part of the proof. -/
import Derived.Test.YtlccibobknidjaaGreatEvJ4
import Derived.Test.YtlccibobknidjaaGreatEvDH
import Derived.Test.YtlccibobknidjaaGreatEvDS
import Derived.Test.YtlccibobknidjaaGreatEvSp3
import Derived.ChangeStays
import Derived.ChangeSame
import Derived.OpenShut
import Derived.RowKit
set_option linter.unusedVariables false
set_option linter.unusedSimpArgs false
set_option linter.unnecessarySimpa false
set_option linter.unusedSectionVars false
section
namespace Go.Ev.Ce
open Go Go.Ev Go.Ev.L Go.Proofs
set_option maxRecDepth 100000
structure Xa4 where
 va0:Int
 va1:Int
 va2:Int
 pb4:Int
 e8:Int
 c7:Int
 f0:Int
noncomputable def Qc6:List (Nat×Sum):=[(129,Za0)]
theorem Ic7:i4 prog G Qc6:=⟨bb6,trivial⟩
structure Xa5 where
 bs0:Bool
noncomputable def xa5 {α:Type} (kk:Xa5→α) (x:Xa4):α:=let t1:=(G5 (⟨x.e8,x.c7,x.f0⟩:V3) (⟨x.va0,x.va1,x.va2⟩:V3));(kk ⟨(t1 != 0)⟩)
noncomputable def tb4 (x:Xa4):Xa5:=xa5 (fun r=>r) x
noncomputable def kb1 (x:Xa4) (r:Xa5):DT (b7×List b8):=.ret ((b r.bs0),[⟨0,3,[[(i x.e8),(i x.c7),(i x.f0)]],true,false,0⟩])
theorem Zc1 {α β:Type} (F:α→β) (kk:Xa5→α) (x:Xa4):F (xa5 kk x)=xa5 (fun r=>F (kk r)) x:=by unfold xa5;(repeat' apply j5 (f:=F))<;>rfl
noncomputable def dc2:Sum:=za8 ⟨[(.agg [(.o (.int .i64)),(.o (.int .i64)),(.o (.int .i64)),(.o (.int .i64))]),(.s (.o (.ptr 0 0 0 0)))],[⟨0,3,true,(some [[(.o (.int .i64)),(.o (.int .i64)),(.o (.int .i64))]])⟩],fun a H=>(⟨(toI (slT (cellsOf (slT a 0)) 0)),(toI (slT (cellsOf (slT a 0)) 1)),(toI (slT (cellsOf (slT a 0)) 2)),(toI (slT (cellsOf (slT a 0)) 3)),(toI (slT (rwT (elT H 0) 0) 0)),(toI (slT (rwT (elT H 0) 0) 1)),(toI (slT (rwT (elT H 0) 0) 2))⟩,())⟩ (fun x=>kb1 x (tb4 x))
theorem Qc7:g8 prog G 197 dc2:=w7 (enc:=fun x=>⟨[(.agg [(i x.va0),(i x.va1),(i x.va2),(i x.pb4)]),(.ptr 0 0 0 0)],[⟨0,3,[[(i x.e8),(i x.c7),(i x.f0)]],true,false,0⟩]⟩) (fun a H=>by kernel_rfl) (bd If9 Ic7) fun x=>q8 (Eq.trans (b:=xa5 (fun r=>(kb1 x r).run) x) (by kernel_rfl) (Zc1 (fun r=>(kb1 x r).run) (fun r=>r) x).symm)
structure ca7 where
 l0:List Pln
 e8:Int
 c7:Int
 f0:Int
noncomputable def Pa1:List (Nat×Sum):=[(197,dc2)]
theorem yb3:i4 prog G Pa1:=⟨Qc7,trivial⟩
structure N1 where
 l0:List Pln
 is7:Int
 e8:Int
 c7:Int
 f0:Int
structure o8 where
 is8:Int
noncomputable def tb5 (p:N1) (s:o8):St:=⟨((eL tP p.l0)::((.fn 197 [(.ptr 0 0 0 0)])::(ra 5 ((i p.is7)::((i s.is8)::(ra 10 [])))))),[⟨0,3,[[(i p.e8),(i p.c7),(i p.f0)]],true,false,0⟩]⟩
noncomputable def H7 {α:Type} (k:o8→α) (e:Nat→α) (z:α) (p:N1) (s:o8):α:=let t1:=(tb4 ⟨(gL tP p.l0 s.is8.toNat).n.x,(gL tP p.l0 s.is8.toNat).n.y,(gL tP p.l0 s.is8.toNat).n.z,(gL tP p.l0 s.is8.toNat).b,p.e8,p.c7,p.f0⟩);(sl (decide (s.is8 < p.is7)) (sl (inB s.is8 (List.length p.l0)) (sl t1.bs0 (e 1) (k ⟨(W (s.is8+1))⟩)) z) (e 2))
noncomputable def K7 (p:N1) (s:o8):Stp o8:=H7 .next .exit .fail p s
noncomputable def qa3:Lo N1 o8:=⟨En Pa1,1,zd7,[1,0,1,4,4],[0,1,7,8],.p,[⟨((.s (.c 4 (nL tP)))::((.fn 197 [(.o (.ptr 0 0 0 0))])::(ru2 5 ((.s (.o (.int .i64)))::((.s (.o (.int .i64)))::(ru2 10 [])))))),[⟨0,3,true,(some [[(.o (.int .i64)),(.o (.int .i64)),(.o (.int .i64))]])⟩],fun a H=>(⟨(rL tP (slT a 0)),(toI (slT a 7)),(toI (slT (rwT (elT H 0) 0) 0)),(toI (slT (rwT (elT H 0) 0) 1)),(toI (slT (rwT (elT H 0) 0) 2))⟩,⟨(toI (slT a 8))⟩)⟩],K7,[(none,fun p s=>⟨[(i s.is8)],[⟨0,3,[[(i p.e8),(i p.c7),(i p.f0)]],true,false,0⟩]⟩),(some 0,fun p s=>⟨((eL tP p.l0)::((.fn 197 [(.ptr 0 0 0 0)])::(ra 5 ((i p.is7)::((i s.is8)::((b (decide (s.is8 < p.is7)))::(ra 9 []))))))),[⟨0,3,[[(i p.e8),(i p.c7),(i p.f0)]],true,false,0⟩]⟩)],tb5⟩
theorem tb6:qa3.Ok:=Lo.ok [] (by kernel_rfl) .nil rfl (.cons (fun a H=>by kernel_rfl) .nil) fun p s=>(.of @H7 (fun F _ _ _ _ _=>by unfold H7;(repeat' apply j5 (f:=F))<;>rfl) (by kernel_rfl))
structure ca8 where
 alt:Nat
 is0:Int
noncomputable def I9 {α:Type} (kk:ca8→α) (x:ca7):α:=let t1:=(lp (K7 (⟨(rt tP x.l0),(↑(List.length x.l0):Int),x.e8,x.c7,x.f0⟩:N1)) (⟨0⟩:o8));(sl ((cnE tP x.l0)&&true) (sl (Nat.beq t1.1 1) (kk ⟨1,t1.2.is8⟩) (sl (Nat.beq t1.1 2) (kk ⟨1,(-1)⟩) (kk ⟨0,0⟩))) (kk ⟨0,0⟩))
noncomputable def ca9 (x:ca7):ca8:=I9 (fun r=>r) x
noncomputable def ua2 (x:ca7) (r:ca8):DT (b7×List b8):=(.ite (Nat.beq r.alt 1) (.ret ((i r.is0),[⟨0,3,[[(i x.e8),(i x.c7),(i x.f0)]],true,false,0⟩])) .fail)
theorem Jb4 {α β:Type} (F:α→β) (kk:ca8→α) (x:ca7):F (I9 kk x)=I9 (fun r=>F (kk r)) x:=by unfold I9;(repeat' apply j5 (f:=F))<;>rfl
noncomputable def Sa0:Sum:=za8 ⟨[(.s (.c 4 (nL tP))),(.fn 197 [(.o (.ptr 0 0 0 0))])],[⟨0,3,true,(some [[(.o (.int .i64)),(.o (.int .i64)),(.o (.int .i64))]])⟩],fun a H=>(⟨(rL tP (slT a 0)),(toI (slT (rwT (elT H 0) 0) 0)),(toI (slT (rwT (elT H 0) 0) 1)),(toI (slT (rwT (elT H 0) 0) 2))⟩,())⟩ (fun x=>ua2 x (ca9 x))
theorem Fb6:g8 prog G 163 Sa0:=w7 (enc:=fun x=>⟨[(eL tP x.l0),(.fn 197 [(.ptr 0 0 0 0)])],[⟨0,3,[[(i x.e8),(i x.c7),(i x.f0)]],true,false,0⟩]⟩) (fun a H=>by kernel_rfl) (bd De9 yb3) fun x=>Ma1 (.s .p (.s (.s .p (.b (.u qa3.ls))) .p)) [qa3.pr] (by kernel_rfl) (.cons tb6 .nil) (Eq.trans (b:=I9 (fun r=>(ua2 x r).run) x) (by kernel_rfl) (Jb4 (fun r=>(ua2 x r).run) (fun r=>r) x).symm)
structure V2 where
 l0:List Pln
 e8:Int
 c7:Int
 f0:Int
noncomputable def pb2:List (Nat×Sum):=[(163,Sa0)]
theorem kb2:i4 prog G pb2:=⟨Fb6,trivial⟩
structure V4 where
 alt:Nat
 bs0:Bool
noncomputable def D0 {α:Type} (kk:V4→α) (x:V2):α:=let t1:=(ca9 ⟨(rt tP x.l0),x.e8,x.c7,x.f0⟩);(sl ((cnE tP x.l0)&&true) (sl (Nat.beq t1.alt 1) (kk ⟨1,(decide (t1.is0≥0))⟩) (kk ⟨0,false⟩)) (kk ⟨0,false⟩))
noncomputable def V5 (x:V2):V4:=D0 (fun r=>r) x
noncomputable def ia1 (x:V2) (r:V4):DT (b7×List b8):=(.ite (Nat.beq r.alt 1) (.ret ((b r.bs0),[⟨0,3,[[(i x.e8),(i x.c7),(i x.f0)]],true,false,0⟩])) .fail)
theorem tb7 {α β:Type} (F:α→β) (kk:V4→α) (x:V2):F (D0 kk x)=D0 (fun r=>F (kk r)) x:=by unfold D0;(repeat' apply j5 (f:=F))<;>rfl
noncomputable def Ia7:Sum:=za8 ⟨[(.s (.c 4 (nL tP))),(.fn 197 [(.o (.ptr 0 0 0 0))])],[⟨0,3,true,(some [[(.o (.int .i64)),(.o (.int .i64)),(.o (.int .i64))]])⟩],fun a H=>(⟨(rL tP (slT a 0)),(toI (slT (rwT (elT H 0) 0) 0)),(toI (slT (rwT (elT H 0) 0) 1)),(toI (slT (rwT (elT H 0) 0) 2))⟩,())⟩ (fun x=>ia1 x (V5 x))
theorem pb3:g8 prog G 83 Ia7:=w7 (enc:=fun x=>⟨[(eL tP x.l0),(.fn 197 [(.ptr 0 0 0 0)])],[⟨0,3,[[(i x.e8),(i x.c7),(i x.f0)]],true,false,0⟩]⟩) (fun a H=>by kernel_rfl) (bd b83 kb2) fun x=>q8 (Eq.trans (b:=D0 (fun r=>(ia1 x r).run) x) (by kernel_rfl) (tb7 (fun r=>(ia1 x r).run) (fun r=>r) x).symm)
noncomputable def Fb7:List (Nat×Sum):=[(142,lb1),(83,Ia7)]
theorem Zc2:i4 prog G Fb7:=⟨Ab8,pb3,trivial⟩
structure Ia8 where
 l0:List Pln
 Ub6:List Pln
 is9:Int
 o9:Int
 rf2:Nat
 he6:Nat→List b7
 bf9:Int
 e8:Int
 c7:Int
 f0:Int
 d9:Int
structure aa6 where
 nc6:Int
noncomputable def Qc8 (p:Ia8) (s:aa6):St:=⟨((eL tP p.l0)::(ra 3 ((.ptr 0 0 0 0)::(ra 3 ((eL tP p.Ub6)::((i p.is9)::((i p.o9)::(ra 6 ((.tree 4 p.rf2 p.he6)::((i p.bf9)::((i s.nc6)::(ra 18 [])))))))))))),[⟨0,4,[[(i p.e8),(i p.c7),(i p.f0),(i p.d9)]],true,false,0⟩]⟩
noncomputable def za3 {α:Type} (k:aa6→α) (e:Nat→α) (z:α) (p:Ia8) (s:aa6):α:=let t1:=(D4 (⟨p.e8,p.c7,p.f0⟩:V3) (⟨(toI (hdA (p.he6 s.nc6.toNat))),(toI (hdA (tlA (p.he6 s.nc6.toNat)))),(toI (hdA (tlA (tlA (p.he6 s.nc6.toNat)))))⟩:V3));let t2:=(V5 ⟨(rt tP p.l0),t1.x,t1.y,t1.z⟩);(sl (decide (s.nc6 < p.bf9)) (sl (inB s.nc6 p.rf2) (sl ((Nat.ble 4 (len (p.he6 s.nc6.toNat)))&&(ia5 [(CK.int .i64),(CK.int .i64),(CK.int .i64),(CK.int .i64)] (p.he6 s.nc6.toNat))) (sl (!((t1.x==0)&&((t1.y==0)&&((t1.z==0)&&true)))) (sl ((cnE tP p.l0)&&true) (sl (Nat.beq t2.alt 1) (sl t2.bs0 (e 1) (k ⟨(W (s.nc6+1))⟩)) z) z) (k ⟨(W (s.nc6+1))⟩)) z) z) (e 2))
noncomputable def ra5 (p:Ia8) (s:aa6):Stp aa6:=za3 .next .exit .fail p s
noncomputable def tb8:Lo Ia8 aa6:=⟨En Fb7,0,De3,[1,0,1,4,4,1,1,0,4,1,1,4,4],[0,4,8,9,10,17,18,19],.p,[⟨((.s (.c 4 (nL tP)))::(ru2 3 ((.s (.o (.ptr 0 0 0 0)))::(ru2 3 ((.s (.c 4 (nL tP)))::((.s (.o (.int .i64)))::((.s (.o (.int .i64)))::(ru2 6 ((.s (.o (.tree 4)))::((.s (.o (.int .i64)))::((.s (.o (.int .i64)))::(ru2 18 [])))))))))))),[⟨0,4,true,(some [[(.o (.int .i64)),(.o (.int .i64)),(.o (.int .i64)),(.o (.int .i64))]])⟩],fun a H=>(⟨(rL tP (slT a 0)),(rL tP (slT a 8)),(toI (slT a 9)),(toI (slT a 10)),(toN (slT a 17)),(toG (slT a 17)),(toI (slT a 18)),(toI (slT (rwT (elT H 0) 0) 0)),(toI (slT (rwT (elT H 0) 0) 1)),(toI (slT (rwT (elT H 0) 0) 2)),(toI (slT (rwT (elT H 0) 0) 3))⟩,⟨(toI (slT a 19))⟩)⟩],ra5,[(none,fun p s=>⟨[(b true)],[]⟩),(some 2,fun p s=>⟨((eL tP p.l0)::(ra 3 ((.ptr 0 0 0 0)::(ra 3 ((eL tP p.Ub6)::((i p.is9)::((i p.o9)::(ra 6 ((.tree 4 p.rf2 p.he6)::((i p.bf9)::((i s.nc6)::((b (decide (s.nc6 < p.bf9)))::(ra 17 []))))))))))))),[⟨0,4,[[(i p.e8),(i p.c7),(i p.f0),(i p.d9)]],true,false,0⟩]⟩)],Qc8⟩
theorem Qc9:tb8.Ok:=Lo.ok [] (by kernel_rfl) .nil rfl (.cons (fun a H=>by kernel_rfl) .nil) fun p s=>(.of @za3 (fun F _ _ _ _ _=>by unfold za3;(repeat' apply j5 (f:=F))<;>rfl) (by kernel_rfl))
structure Ia9 where
 is9:Int
structure aa7 where
 l0:List Pln
 Ub6:List Pln
 o9:Int
noncomputable def Rc0 (p:Ia9) (s:aa7):St:=⟨((eL tP s.l0)::(ra 7 ((eL tP s.Ub6)::((i p.is9)::((i s.o9)::(ra 27 [])))))),[]⟩
noncomputable def za4 {α:Type} (k:aa7→α) (e:Nat→α) (z:α) (p:Ia9) (s:aa7):α:=let t1:=(lp (ra5 (⟨(rt tP s.l0),(rt tP s.Ub6),p.is9,s.o9,(s.o9.toNat - 0),(fun k=>(fun k=>(tP).row (gL tP s.l0 k)) (0+k)),(↑(s.o9.toNat - 0):Int),(gL tP s.Ub6 s.o9.toNat).n.x,(gL tP s.Ub6 s.o9.toNat).n.y,(gL tP s.Ub6 s.o9.toNat).n.z,(gL tP s.Ub6 s.o9.toNat).b⟩:Ia8)) (⟨0⟩:aa6));(sl (decide (s.o9 < p.is9)) (sl (inB s.o9 (List.length s.Ub6)) (sl (inB s.o9 ((List.length s.l0)+1)) (sl ((cnE tP s.l0)&&((cnE tP s.Ub6)&&true)) (sl (Nat.beq t1.1 1) (e 1) (sl (Nat.beq t1.1 2) (k ⟨(rt tP s.l0),(rt tP s.Ub6),(W (s.o9+1))⟩) z)) z) z) z) (e 2))
noncomputable def ra6 (p:Ia9) (s:aa7):Stp aa7:=za4 .next .exit .fail p s
noncomputable def tb9:Lo Ia9 aa7:=⟨En Fb7,0,De3,[1,0,1,4,4],[0,8,9,10],(.s .p (.s .p (.s (.b (.s .p (.s .p (.b (.u tb8.ls))))) .p))),[⟨((.s (.c 4 (nL tP)))::(ru2 7 ((.s (.c 4 (nL tP)))::((.s (.o (.int .i64)))::((.s (.o (.int .i64)))::(ru2 27 [])))))),[],fun a H=>(⟨(toI (slT a 9))⟩,⟨(rL tP (slT a 0)),(rL tP (slT a 8)),(toI (slT a 10))⟩)⟩],ra6,[(none,fun p s=>⟨[(b true)],[]⟩),(some 0,fun p s=>⟨((eL tP s.l0)::(ra 7 ((eL tP s.Ub6)::((i p.is9)::((i s.o9)::((b (decide (s.o9 < p.is9)))::(ra 26 []))))))),[]⟩)],Rc0⟩
theorem Rc1:tb9.Ok:=Lo.ok [tb8.pr] (by kernel_rfl) (.cons Qc9 .nil) rfl (.cons (fun a H=>by kernel_rfl) .nil) fun p s=>(.of @za4 (fun F _ _ _ _ _=>by unfold za4;(repeat' apply j5 (f:=F))<;>rfl) (by kernel_rfl))
noncomputable def Va6 (x:List Pln):Option (b7×List b8):=let t1:=(lp (ra6 (⟨(↑(List.length x):Int)⟩:Ia9)) (⟨(rt tP x),(rt tP x),0⟩:aa7));(sl ((cnE tP x)&&((cnE tP x)&&true)) (sl (Nat.beq t1.1 1) (some ((b true),[])) (sl (Nat.beq t1.1 2) (some ((b false),[])) none)) none)
noncomputable def Ja8 (x:List Pln):Bool:=aa3 (one r1B) (Va6 x)
noncomputable def Ja9 (x:List Pln):Bool:=okO (one r1B) (Va6 x)
noncomputable def vc3:Sum:=S5 (Fa1 tP) (fun x=>.guard (Ja9 x) (.ret ((one r1B).enc (Ja8 x),[])))
theorem od8:g8 prog G 134 vc3:=Pa9 (bd Gf4 Zc2) (one r1B) (o:=Va6) fun x=>Ma1 (.s .p (.s (.s .p (.b (.u tb9.ls))) .p)) [tb9.pr] (by kernel_rfl) (.cons Rc1 .nil) (by kernel_rfl)
structure Qa7 where
 va0:Int
 va1:Int
 va2:Int
 d7:List Pln
noncomputable def Mb2:List (Nat×Sum):=[(132,wb8),(134,vc3)]
theorem zc3:i4 prog G Mb2:=⟨Pb9,od8,trivial⟩
structure O9 where
 gb6:List Pln
 is8:Int
 d7:List Pln
 J4:Int
 J5:Int
 J6:Int
structure n8 where
 ph:Nat
 is9:Int
 ns4:Nat
 eh2:List (List b7)
noncomputable def mc6 (p:O9) (s:n8):St:=⟨(.unk::(.unk::((.ptr 1 0 0 0)::(.unk::((.v (.slice none 0 0))::(.unk::(.unk::((eL tP p.gb6)::((i p.is8)::((i s.is9)::(ra 15 []))))))))))),[⟨0,1,[[(eL tP p.d7)]],true,false,0⟩,⟨0,3,[[(i p.J4),(i p.J5),(i p.J6)]],true,false,0⟩]⟩
noncomputable def mc7 (p:O9) (s:n8):St:=⟨(.unk::(.unk::((.ptr 1 0 0 0)::(.unk::((.sl 2 0 s.ns4 0)::(.unk::(.unk::((eL tP p.gb6)::((i p.is8)::((i s.is9)::(ra 15 []))))))))))),[⟨0,1,[[(eL tP p.d7)]],true,false,0⟩,⟨0,3,[[(i p.J4),(i p.J5),(i p.J6)]],true,false,0⟩,⟨50,4,s.eh2,true,false,0⟩]⟩
noncomputable def sc8 (p:O9) (s:n8):St:=(sel (Nat.beq s.ph 1) (mc7 p s) (mc6 p s))
noncomputable def P0 {α:Type} (k:n8→α) (e:Nat→α) (z:α) (p:O9) (s:n8):α:=let t1:=(Ga4 (gL tP p.gb6 s.is9.toNat) (⟨p.J4,p.J5,p.J6⟩:V3));(sl (decide (s.is9 < p.is8)) (sl (inB s.is9 (List.length p.gb6)) (sl (Ga5 (gL tP p.gb6 s.is9.toNat) (⟨p.J4,p.J5,p.J6⟩:V3)) (sl (t1==0) (k ⟨1,(W (s.is9+1)),1,[[(i (gL tP p.gb6 s.is9.toNat).n.x),(i (gL tP p.gb6 s.is9.toNat).n.y),(i (gL tP p.gb6 s.is9.toNat).n.z),(i (gL tP p.gb6 s.is9.toNat).b)]]⟩) (k ⟨0,(W (s.is9+1)),0,[]⟩)) z) z) (e 1))
noncomputable def P1 {α:Type} (k:n8→α) (e:Nat→α) (z:α) (p:O9) (s:n8):α:=let t1:=(Ga4 (gL tP p.gb6 s.is9.toNat) (⟨p.J4,p.J5,p.J6⟩:V3));(sl (decide (s.is9 < p.is8)) (sl (inB s.is9 (List.length p.gb6)) (sl (Ga5 (gL tP p.gb6 s.is9.toNat) (⟨p.J4,p.J5,p.J6⟩:V3)) (sl (t1==0) (sl (Nat.beq s.ns4 (len s.eh2)&&Nat.ble ((s.ns4+1)*32) room) (k ⟨1,(W (s.is9+1)),(s.ns4+1),(app s.eh2 [[(i (gL tP p.gb6 s.is9.toNat).n.x),(i (gL tP p.gb6 s.is9.toNat).n.y),(i (gL tP p.gb6 s.is9.toNat).n.z),(i (gL tP p.gb6 s.is9.toNat).b)]])⟩) z) (k ⟨1,(W (s.is9+1)),s.ns4,s.eh2⟩)) z) z) (e 2))
noncomputable def Ba9 (p:O9) (s:n8):Stp n8:=(sel (Nat.beq s.ph 1) (P1 .next .exit .fail p s) (P0 .next .exit .fail p s))
noncomputable def Ya5:Lo O9 n8:=⟨En Mb2,1,df1,[1,1,0,1,4,4],[2,4,7,8,9],.p,[⟨((.s (.o .unk))::((.s (.o .unk))::((.s (.o (.ptr 1 0 0 0)))::((.s (.o .unk))::((.s (.o .nil))::((.s (.o .unk))::((.s (.o .unk))::((.s (.c 4 (nL tP)))::((.s (.o (.int .i64)))::((.s (.o (.int .i64)))::(ru2 15 []))))))))))),[⟨0,1,true,(some [[(.c 4 (nL tP))]])⟩,⟨0,3,true,(some [[(.o (.int .i64)),(.o (.int .i64)),(.o (.int .i64))]])⟩],fun a H=>(⟨(rL tP (slT a 7)),(toI (slT a 8)),(rL tP (slT (rwT (elT H 0) 0) 0)),(toI (slT (rwT (elT H 1) 0) 0)),(toI (slT (rwT (elT H 1) 0) 1)),(toI (slT (rwT (elT H 1) 0) 2))⟩,⟨0,(toI (slT a 9)),0,[]⟩)⟩,⟨((.s (.o .unk))::((.s (.o .unk))::((.s (.o (.ptr 1 0 0 0)))::((.s (.o .unk))::((.s (.o (.sl 2 0 (some 0) none)))::((.s (.o .unk))::((.s (.o .unk))::((.s (.c 4 (nL tP)))::((.s (.o (.int .i64)))::((.s (.o (.int .i64)))::(ru2 15 []))))))))))),[⟨0,1,true,(some [[(.c 4 (nL tP))]])⟩,⟨0,3,true,(some [[(.o (.int .i64)),(.o (.int .i64)),(.o (.int .i64))]])⟩,⟨50,4,true,none⟩],fun a H=>(⟨(rL tP (slT a 7)),(toI (slT a 8)),(rL tP (slT (rwT (elT H 0) 0) 0)),(toI (slT (rwT (elT H 1) 0) 0)),(toI (slT (rwT (elT H 1) 0) 1)),(toI (slT (rwT (elT H 1) 0) 2))⟩,⟨1,(toI (slT a 9)),(slN (slT a 4)),(elT H 2)⟩)⟩],Ba9,[(some 0,fun p s=>⟨(.unk::(.unk::((.ptr 1 0 0 0)::(.unk::((.v (.slice none 0 0))::(.unk::(.unk::((eL tP p.gb6)::((i p.is8)::((i s.is9)::((b (decide (s.is9 < p.is8)))::(ra 14 [])))))))))))),[⟨0,1,[[(eL tP p.d7)]],true,false,0⟩,⟨0,3,[[(i p.J4),(i p.J5),(i p.J6)]],true,false,0⟩]⟩),(some 0,fun p s=>⟨(.unk::(.unk::((.ptr 1 0 0 0)::(.unk::((.sl 2 0 s.ns4 0)::(.unk::(.unk::((eL tP p.gb6)::((i p.is8)::((i s.is9)::((b (decide (s.is9 < p.is8)))::(ra 14 [])))))))))))),[⟨0,1,[[(eL tP p.d7)]],true,false,0⟩,⟨0,3,[[(i p.J4),(i p.J5),(i p.J6)]],true,false,0⟩,⟨50,4,s.eh2,true,false,0⟩]⟩)],sc8⟩
theorem sc9:Ya5.Ok:=Lo.ok [] (by kernel_rfl) .nil rfl (.cons (fun a H=>by kernel_rfl) (.cons (fun a H=>by kernel_rfl) .nil)) fun p s=>(.sel (Nat.beq s.ph 1) (.of @P1 (fun F _ _ _ _ _=>by unfold P1;(repeat' apply j5 (f:=F))<;>rfl) (by kernel_rfl)) (.of @P0 (fun F _ _ _ _ _=>by unfold P0;(repeat' apply j5 (f:=F))<;>rfl) (by kernel_rfl)))
structure Qa8 where
 alt:Nat
 bs0:Bool
 d7:List Pln
noncomputable def ra7 {α:Type} (kk:Qa8→α) (x:Qa7):α:=let t1:=(lp (Ba9 (⟨(rt tP x.d7),(↑(List.length x.d7):Int),(rt tP x.d7),x.va0,x.va1,x.va2⟩:O9)) (⟨0,0,0,[]⟩:n8));let t2:=(Ja8 []);let t3:=(Ja8 (slR tP t1.2.eh2 0 t1.2.ns4));(sl ((cnE tP x.d7)&&((cnE tP x.d7)&&true)) (sl (Nat.beq t1.1 1) (sl (Ja9 []) (kk ⟨1,(!t2),(rt tP x.d7)⟩) (kk ⟨0,false,[]⟩)) (sl (Nat.beq t1.1 2) (sl (okS tP t1.2.eh2 0 t1.2.ns4) (sl (Ja9 (slR tP t1.2.eh2 0 t1.2.ns4)) (kk ⟨1,(!t3),(rt tP x.d7)⟩) (kk ⟨0,false,[]⟩)) (kk ⟨0,false,[]⟩)) (kk ⟨0,false,[]⟩))) (kk ⟨0,false,[]⟩))
noncomputable def fa0 (x:Qa7):Qa8:=ra7 (fun r=>r) x
noncomputable def fb7 (x:Qa7) (r:Qa8):DT (b7×List b8):=(.ite (Nat.beq r.alt 1) (.ret ((b r.bs0),[⟨0,1,[[(eL tP r.d7)]],true,false,0⟩])) .fail)
theorem Rc2 {α β:Type} (F:α→β) (kk:Qa8→α) (x:Qa7):F (ra7 kk x)=ra7 (fun r=>F (kk r)) x:=by unfold ra7;(repeat' apply j5 (f:=F))<;>rfl
noncomputable def kb3:Sum:=za8 ⟨[(.agg [(.o (.int .i64)),(.o (.int .i64)),(.o (.int .i64))]),(.s (.o (.ptr 0 0 0 0)))],[⟨0,1,true,(some [[(.c 4 (nL tP))]])⟩],fun a H=>(⟨(toI (slT (cellsOf (slT a 0)) 0)),(toI (slT (cellsOf (slT a 0)) 1)),(toI (slT (cellsOf (slT a 0)) 2)),(rL tP (slT (rwT (elT H 0) 0) 0))⟩,())⟩ (fun x=>fb7 x (fa0 x))
theorem Mb3:g8 prog G 133 kb3:=w7 (enc:=fun x=>⟨[(.agg [(i x.va0),(i x.va1),(i x.va2)]),(.ptr 0 0 0 0)],[⟨0,1,[[(eL tP x.d7)]],true,false,0⟩]⟩) (fun a H=>by kernel_rfl) (bd Gf3 zc3) fun x=>Ma1 (.s .p (.s .p (.s (.s .p (.b (.u Ya5.ls))) .p))) [Ya5.pr] (by kernel_rfl) (.cons sc9 .nil) (Eq.trans (b:=ra7 (fun r=>(fb7 x r).run) x) (by kernel_rfl) (Rc2 (fun r=>(fb7 x r).run) (fun r=>r) x).symm)
structure ka4 where
 ns0:Nat
 eh0:List (List b7)
 n5:List Pln
noncomputable def Va7:List (Nat×Sum):=[(133,kb3)]
theorem Jb5:i4 prog G Va7:=⟨Mb3,trivial⟩
structure R7 where
 ns0:Nat
 is7:Int
 eh0:List (List b7)
structure r8 where
 is8:Int
 n5:List Pln
noncomputable def Fb8 (p:R7) (s:r8):St:=⟨((.sl 0 0 p.ns0 0)::((.fn 133 [(.ptr 1 0 0 0)])::(ra 5 ((i p.is7)::((i s.is8)::(ra 10 [])))))),[⟨36,3,p.eh0,true,false,0⟩,⟨0,1,[[(eL tP s.n5)]],true,false,0⟩]⟩
noncomputable def N2 {α:Type} (k:r8→α) (e:Nat→α) (z:α) (p:R7) (s:r8):α:=let t1:=(fa0 ⟨(rdR tV p.eh0 (0+s.is8.toNat)).x,(rdR tV p.eh0 (0+s.is8.toNat)).y,(rdR tV p.eh0 (0+s.is8.toNat)).z,(rt tP s.n5)⟩);(sl (decide (s.is8 < p.is7)) (sl (inB s.is8 p.ns0) (sl (ldR tV p.eh0 (0+s.is8.toNat)) (sl ((cnE tP s.n5)&&true) (sl (Nat.beq t1.alt 1) (sl t1.bs0 (e 1) (k ⟨(W (s.is8+1)),t1.d7⟩)) z) z) z) z) (e 2))
noncomputable def P4 (p:R7) (s:r8):Stp r8:=N2 .next .exit .fail p s
noncomputable def wa5:Lo R7 r8:=⟨En Va7,2,Sd5,[1,0,1,4,4],[0,1,7,8],.p,[⟨((.s (.o (.sl 0 0 (some 0) none)))::((.fn 133 [(.o (.ptr 1 0 0 0))])::(ru2 5 ((.s (.o (.int .i64)))::((.s (.o (.int .i64)))::(ru2 10 [])))))),[⟨36,3,true,none⟩,⟨0,1,true,(some [[(.c 4 (nL tP))]])⟩],fun a H=>(⟨(slN (slT a 0)),(toI (slT a 7)),(elT H 0)⟩,⟨(toI (slT a 8)),(rL tP (slT (rwT (elT H 1) 0) 0))⟩)⟩],P4,[(none,fun p s=>let t1:=(fa0 ⟨(rdR tV p.eh0 (0+s.is8.toNat)).x,(rdR tV p.eh0 (0+s.is8.toNat)).y,(rdR tV p.eh0 (0+s.is8.toNat)).z,(rt tP s.n5)⟩);⟨[(i s.is8)],[⟨36,3,p.eh0,true,false,0⟩,⟨0,1,[[(eL tP t1.d7)]],true,false,0⟩]⟩),(some 0,fun p s=>⟨((.sl 0 0 p.ns0 0)::((.fn 133 [(.ptr 1 0 0 0)])::(ra 5 ((i p.is7)::((i s.is8)::((b (decide (s.is8 < p.is7)))::(ra 9 []))))))),[⟨36,3,p.eh0,true,false,0⟩,⟨0,1,[[(eL tP s.n5)]],true,false,0⟩]⟩)],Fb8⟩
theorem Fb9:wa5.Ok:=Lo.ok [] (by kernel_rfl) .nil rfl (.cons (fun a H=>by kernel_rfl) .nil) fun p s=>(.of @N2 (fun F _ _ _ _ _=>by unfold N2;(repeat' apply j5 (f:=F))<;>rfl) (by kernel_rfl))
structure ka5 where
 alt:Nat
 is0:Int
 n5:List Pln
noncomputable def O0 {α:Type} (kk:ka5→α) (x:ka4):α:=let t1:=(lp (P4 (⟨x.ns0,(↑x.ns0:Int),x.eh0⟩:R7)) (⟨0,(rt tP x.n5)⟩:r8));let t2:=(fa0 ⟨(rdR tV x.eh0 (0+t1.2.is8.toNat)).x,(rdR tV x.eh0 (0+t1.2.is8.toNat)).y,(rdR tV x.eh0 (0+t1.2.is8.toNat)).z,(rt tP t1.2.n5)⟩);(sl ((cnE tP x.n5)&&true) (sl (Nat.beq t1.1 1) (kk ⟨1,t1.2.is8,t2.d7⟩) (sl (Nat.beq t1.1 2) (kk ⟨1,(-1),t1.2.n5⟩) (kk ⟨0,0,[]⟩))) (kk ⟨0,0,[]⟩))
noncomputable def ka6 (x:ka4):ka5:=O0 (fun r=>r) x
noncomputable def Ba0 (x:ka4) (r:ka5):DT (b7×List b8):=(.ite (Nat.beq r.alt 1) (.ret ((i r.is0),[⟨36,3,x.eh0,true,false,0⟩,⟨0,1,[[(eL tP r.n5)]],true,false,0⟩])) .fail)
theorem Ub3 {α β:Type} (F:α→β) (kk:ka5→α) (x:ka4):F (O0 kk x)=O0 (fun r=>F (kk r)) x:=by unfold O0;(repeat' apply j5 (f:=F))<;>rfl
noncomputable def ab0:Sum:=za8 ⟨[(.s (.o (.sl 0 0 (some 0) none))),(.fn 133 [(.o (.ptr 1 0 0 0))])],[⟨36,3,true,none⟩,⟨0,1,true,(some [[(.c 4 (nL tP))]])⟩],fun a H=>(⟨(slN (slT a 0)),(elT H 0),(rL tP (slT (rwT (elT H 1) 0) 0))⟩,())⟩ (fun x=>Ba0 x (ka6 x))
theorem Qb7:g8 prog G 198 ab0:=w7 (enc:=fun x=>⟨[(.sl 0 0 x.ns0 0),(.fn 133 [(.ptr 1 0 0 0)])],[⟨36,3,x.eh0,true,false,0⟩,⟨0,1,[[(eL tP x.n5)]],true,false,0⟩]⟩) (fun a H=>by kernel_rfl) (bd Ue2 Jb5) fun x=>Ma1 (.s .p (.s (.s .p (.b (.u wa5.ls))) .p)) [wa5.pr] (by kernel_rfl) (.cons Fb9 .nil) (Eq.trans (b:=O0 (fun r=>(Ba0 x r).run) x) (by kernel_rfl) (Ub3 (fun r=>(Ba0 x r).run) (fun r=>r) x).symm)
structure ka7 where
 ns0:Nat
 eh0:List (List b7)
 n5:List Pln
noncomputable def Va8:List (Nat×Sum):=[(198,ab0),(133,kb3)]
theorem Jb6:i4 prog G Va8:=⟨Qb7,Mb3,trivial⟩
structure R8 where
 ns0:Nat
structure y8 where
 is5:Int
 is6:Int
 eh0:List (List b7)
 n5:List Pln
noncomputable def Gb0 (p:R8) (s:y8):St:=⟨((.sl 0 0 p.ns0 0)::((.fn 133 [(.ptr 1 0 0 0)])::(ra 3 ((i s.is5)::((i s.is6)::(ra 35 [])))))),[⟨36,3,s.eh0,true,false,0⟩,⟨0,1,[[(eL tP s.n5)]],true,false,0⟩]⟩
noncomputable def N4 {α:Type} (k:y8→α) (e:Nat→α) (z:α) (p:R8) (s:y8):α:=let t1:=(fa0 ⟨(rdR tV s.eh0 (0+s.is6.toNat)).x,(rdR tV s.eh0 (0+s.is6.toNat)).y,(rdR tV s.eh0 (0+s.is6.toNat)).z,(rt tP s.n5)⟩);(sl (decide (s.is6 < (↑p.ns0:Int))) (sl (inB s.is6 p.ns0) (sl (ldR tV s.eh0 (0+s.is6.toNat)) (sl ((cnE tP s.n5)&&true) (sl (Nat.beq t1.alt 1) (sl (!t1.bs0) (sl (inB s.is5 p.ns0) (sl ((Nat.blt (0+s.is5.toNat) (len s.eh0))&&(Nat.ble (0+3) (len (j6 s.eh0 (0+s.is5.toNat))))) (k ⟨(W (s.is5+1)),(W (s.is6+1)),(setAt s.eh0 (0+s.is5.toNat) (S7 (j6 s.eh0 (0+s.is5.toNat)) 0 [(i (rdR tV s.eh0 (0+s.is6.toNat)).x),(i (rdR tV s.eh0 (0+s.is6.toNat)).y),(i (rdR tV s.eh0 (0+s.is6.toNat)).z)])),t1.d7⟩) z) z) (k ⟨s.is5,(W (s.is6+1)),s.eh0,t1.d7⟩)) z) z) z) z) (e 1))
noncomputable def F7 (p:R8) (s:y8):Stp y8:=N4 .next .exit .fail p s
noncomputable def wa6:Lo R8 y8:=⟨En Va8,2,df2,[1,1,1,0,1,4,4],[0,1,5,6],.p,[⟨((.s (.o (.sl 0 0 (some 0) none)))::((.fn 133 [(.o (.ptr 1 0 0 0))])::(ru2 3 ((.s (.o (.int .i64)))::((.s (.o (.int .i64)))::(ru2 35 [])))))),[⟨36,3,true,none⟩,⟨0,1,true,(some [[(.c 4 (nL tP))]])⟩],fun a H=>(⟨(slN (slT a 0))⟩,⟨(toI (slT a 5)),(toI (slT a 6)),(elT H 0),(rL tP (slT (rwT (elT H 1) 0) 0))⟩)⟩],F7,[(some 0,fun p s=>⟨((.sl 0 0 p.ns0 0)::((.fn 133 [(.ptr 1 0 0 0)])::(ra 3 ((i s.is5)::((i s.is6)::(ra 9 ((i s.is6)::((.sl 0 0 p.ns0 0)::((i (↑p.ns0:Int))::((b (decide (s.is6 < (↑p.ns0:Int))))::(ra 22 []))))))))))),[⟨36,3,s.eh0,true,false,0⟩,⟨0,1,[[(eL tP s.n5)]],true,false,0⟩]⟩)],Gb0⟩
theorem Gb1:wa6.Ok:=Lo.ok [] (by kernel_rfl) .nil rfl (.cons (fun a H=>by kernel_rfl) .nil) fun p s=>(.of @N4 (fun F _ _ _ _ _=>by unfold N4;(repeat' apply j5 (f:=F))<;>rfl) (by kernel_rfl))
structure ka8 where
 alt:Nat
 ns0:Nat
 eh0:List (List b7)
 n5:List Pln
noncomputable def O1 {α:Type} (kk:ka8→α) (x:ka7):α:=let t1:=(ka6 ⟨x.ns0,x.eh0,(rt tP x.n5)⟩);let t2:=(lp (F7 (⟨x.ns0⟩:R8)) (⟨t1.is0,(W (t1.is0+1)),x.eh0,(rt tP t1.n5)⟩:y8));(sl ((cnE tP x.n5)&&true) (sl (Nat.beq t1.alt 1) (sl (t1.is0==(-1)) (kk ⟨1,x.ns0,x.eh0,t1.n5⟩) (sl ((cnE tP t1.n5)&&true) (sl (Nat.beq t2.1 1) (sl (inB t2.2.is5 (x.ns0+1)) (sl (inB t2.2.is5 (x.ns0+1)) (kk ⟨1,(t2.2.is5.toNat - 0),(app (J7 t2.2.eh0 (0+t2.2.is5.toNat)) (app (List.replicate (x.ns0 - t2.2.is5.toNat) [(i 0),(i 0),(i 0)]) (g9 t2.2.eh0 ((0+t2.2.is5.toNat)+(x.ns0 - t2.2.is5.toNat))))),t2.2.n5⟩) (kk ⟨0,0,[],[]⟩)) (kk ⟨0,0,[],[]⟩)) (kk ⟨0,0,[],[]⟩)) (kk ⟨0,0,[],[]⟩))) (kk ⟨0,0,[],[]⟩)) (kk ⟨0,0,[],[]⟩))
noncomputable def ka9 (x:ka7):ka8:=O1 (fun r=>r) x
noncomputable def Ba1 (x:ka7) (r:ka8):DT (b7×List b8):=(.ite (Nat.beq r.alt 1) (.ret ((.sl 0 0 r.ns0 0),[⟨36,3,r.eh0,true,false,0⟩,⟨0,1,[[(eL tP r.n5)]],true,false,0⟩])) .fail)
theorem Ub4 {α β:Type} (F:α→β) (kk:ka8→α) (x:ka7):F (O1 kk x)=O1 (fun r=>F (kk r)) x:=by unfold O1;(repeat' apply j5 (f:=F))<;>rfl
noncomputable def ab1:Sum:=za8 ⟨[(.s (.o (.sl 0 0 (some 0) none))),(.fn 133 [(.o (.ptr 1 0 0 0))])],[⟨36,3,true,none⟩,⟨0,1,true,(some [[(.c 4 (nL tP))]])⟩],fun a H=>(⟨(slN (slT a 0)),(elT H 0),(rL tP (slT (rwT (elT H 1) 0) 0))⟩,())⟩ (fun x=>Ba1 x (ka9 x))
theorem Qb8:g8 prog G 135 ab1:=w7 (enc:=fun x=>⟨[(.sl 0 0 x.ns0 0),(.fn 133 [(.ptr 1 0 0 0)])],[⟨36,3,x.eh0,true,false,0⟩,⟨0,1,[[(eL tP x.n5)]],true,false,0⟩]⟩) (fun a H=>by kernel_rfl) (bd Gf5 Jb6) fun x=>Ma1 (.s .p (.s .p (.s .p (.s (.s .p (.b (.u wa6.ls))) .p)))) [wa6.pr] (by kernel_rfl) (.cons Gb1 .nil) (Eq.trans (b:=O1 (fun r=>(Ba1 x r).run) x) (by kernel_rfl) (Ub4 (fun r=>(Ba1 x r).run) (fun r=>r) x).symm)
noncomputable def Ic8:List (Nat×Sum):=[(199,Ya4),(200,Ka7),(202,Pa0)]
theorem zc4:i4 prog G Ic8:=⟨ub3,fb5,gb5,trivial⟩
structure Qa9 where
 alt:Nat
 ns0:Nat
 eh0:List (List b7)
noncomputable def ra8 {α:Type} (kk:Qa9→α) (x:V3×List V3):α:=let t1:=(ua1 (hC tV (fun k=>(tV).row (gL tV (x.1::x.2) k)),tC tV (List.length x.2) (fun k=>(tV).row (gL tV (x.1::x.2) k))));let t2:=(W8 ⟨t1.ns0,(app (bL tV (dc0 (slR tV t1.eh0 0 t1.ns0))) (g9 t1.eh0 t1.ns0))⟩);(sl (okL tV (List.length x.2+1) (fun k=>(tV).row (gL tV (x.1::x.2) k))) (sl (Nat.beq t1.alt 1) (sl (Bool.and (Nat.ble t1.ns0 room) (Bool.and (Nat.ble t1.ns0 (len t1.eh0)) (okS tV t1.eh0 0 t1.ns0))) (sl (Nat.beq t2.alt 1) (kk ⟨1,t2.ns0,t2.eh0⟩) (kk ⟨0,0,[]⟩)) (kk ⟨0,0,[]⟩)) (kk ⟨0,0,[]⟩)) (kk ⟨0,0,[]⟩))
noncomputable def Ra0 (x:V3×List V3):Qa9:=ra8 (fun r=>r) x
noncomputable def fb8 (r:Qa9):DT (b7×List b8):=(.ite (Nat.beq r.alt 1) (.ret ((.sl 0 0 r.ns0 0),[⟨36,3,r.eh0,true,false,0⟩])) .fail)
theorem Rc3 {α β:Type} (F:α→β) (kk:Qa9→α) (x:V3×List V3):F (ra8 kk x)=ra8 (fun r=>F (kk r)) x:=by unfold ra8;(repeat' apply j5 (f:=F))<;>rfl
noncomputable def Ub5:Sum:=S5 (qd1 tV) (fun x=>fb8 (Ra0 x))
theorem Ic9:g8 prog G 136 Ub5:=lb0 (bd yf3 zc4) fun x=>q8 (Eq.trans (b:=ra8 (fun r=>(fb8 r).run) x) (by kernel_rfl) (Rc3 (fun r=>(fb8 r).run) (fun r=>r) x).symm)
noncomputable def Zc3:List (Nat×Sum):=[(80,bc3),(136,Ub5),(135,ab1)]
theorem Rc4:i4 prog G Zc3:=⟨vc1,Ic9,Qb8,trivial⟩
noncomputable def Pa2 (x:V3×List V3):Option (b7×List b8):=let t1:=(yb1 (hC tV (fun k=>(tV).row (gL tV (x.1::x.2) k)),tC tV (List.length x.2) (fun k=>(tV).row (gL tV (x.1::x.2) k))));let t2:=(Ra0 (hC tV (fun k=>(tV).row (gL tV (x.1::x.2) k)),tC tV (List.length x.2) (fun k=>(tV).row (gL tV (x.1::x.2) k))));let t3:=(ka9 ⟨t2.ns0,t2.eh0,(rt tP t1.1)⟩);(sl (okL tV (List.length x.2+1) (fun k=>(tV).row (gL tV (x.1::x.2) k))) (sl (yb2 (hC tV (fun k=>(tV).row (gL tV (x.1::x.2) k)),tC tV (List.length x.2) (fun k=>(tV).row (gL tV (x.1::x.2) k)))) (sl (t1.2 != 0) (some ((.tup [(.v (.slice none 0 0)),(i t1.2)]),[])) (sl (okL tV (List.length x.2+1) (fun k=>(tV).row (gL tV (x.1::x.2) k))) (sl (Nat.beq t2.alt 1) (sl ((cnE tP t1.1)&&true) (sl (Nat.beq t3.alt 1) (some ((.tup [(.sl 0 0 t3.ns0 0),(i 0)]),[⟨36,3,t3.eh0,true,false,0⟩])) none) none) none) none)) none) none)
noncomputable def Gb2 (x:V3×List V3):List V3×Int:=aa3 (two (r1L tV) r1I) (Pa2 x)
noncomputable def Gb3 (x:V3×List V3):Bool:=okO (two (r1L tV) r1I) (Pa2 x)
noncomputable def mc8:Sum:=S5 (qd1 tV) (fun x=>.guard (Gb3 x) (.ret ((two (r1L tV) r1I).enc (Gb2 x),[])))
theorem Zc4:g8 prog G 55 mc8:=Pa9 (bd b55 Rc4) (two (r1L tV) r1I) (o:=Pa2) fun x=>q8 (by kernel_rfl)
end Go.Ev.Ce
end
namespace Go.Ev.Ce
open Go Go.Ev Go.Ev.L Go.Proofs
theorem ge5 {F:List Pln} (h:∀ p∈F,okp p=true) {k:Nat} (hk:k < F.length):Bd (gL tP F k):=Yb3 (h _ (Ab1 tP hk))
theorem af2 {n:V3} {r:Pln} (hn:Sm 42467328 n.x∧Sm 42467328 n.y∧Sm 42467328 n.z) (hr:Bd r):G5 n r.n=dot n r.n:=by
 obtain⟨⟨a1,a2⟩,⟨a3,a4⟩,a5,a6⟩:=hn
 have r1:=mb a1 a2 hr.x1 hr.x2;have r2:=mb a3 a4 hr.y1 hr.y2;have r3:=mb a5 a6 hr.z1 hr.z2
 unfold G5
 simp only[Nb3,ic4]
 rw[na5 (by omega) (by omega)]
 rfl
theorem af3 (l : List Pln) (n : V3) (hn : Sm 42467328 n.x ∧ Sm 42467328 n.y ∧ Sm 42467328 n.z) (hF : ∀ p ∈ l, okp p = true) (hl : l.length ≤ 1000000000) :
  ca9 ⟨l,n.x,n.y,n.z⟩=⟨1,if l.any (fun r=>dot n r.n != 0) then ((l.findIdx (fun r=>dot n r.n != 0):Nat):Int) else -1⟩:=by
 have h:=Fa2 (step:=K7 ⟨l,(l.length:Int),n.x,n.y,n.z⟩) (mk:=fun j=>(⟨(j:Int)⟩:o8)) (c:=fun r=>dot n r.n != 0) (u:=1) (fin:=2) tP l hl
  (fun j hj=>by
   have e:=af2 hn (ge5 hF hj)
   simp only[K7,H7,Int.toNat_natCast,tb4,xa5,e,q7 hj (show l.length≤4611686018427387904 by omega)]
   rw[btD (m0 hj),bt (f8 hj)])
  (by simp only[K7,H7];rw[bfD (A7 (Nat.lt_irrefl _))]) 0 (Nat.zero_le _)
 rw[List.drop_zero] at h
 unfold ca9 I9
 simp only[l6,j9]
 rw[show (⟨0⟩:o8)=⟨((0:Nat):Int)⟩ from rfl,h]
 split
 ·simp only[Nat.zero_add];rfl
 ·rfl
theorem af4 (l : List Pln) (n : V3) (hn : Sm 42467328 n.x ∧ Sm 42467328 n.y ∧ Sm 42467328 n.z) (hF : ∀ p ∈ l, okp p = true) (hl : l.length ≤ 1000000000) :
  V5 ⟨l,n.x,n.y,n.z⟩=⟨1,l.any fun r=>dot n r.n != 0⟩:=by
 unfold V5 D0
 simp only[l6,j9,af3 l n hn hF hl]
 split
 ·rename_i h
  rw[h,show decide (((l.findIdx (fun r=>dot n r.n != 0):Nat):Int)≥0)=true from decide_eq_true (by omega)];rfl
 ·rename_i h
  rw[Bool.not_eq_true] at h
  rw[h];rfl
noncomputable def ve6 (l:List Pln) (a c:Nat):Bool:=l.any fun r=>dot (c9 (gL tP l a).n (gL tP l c).n) r.n != 0
noncomputable def vtx (l:List Pln):Bool:=(List.range l.length).any fun a=>(List.range a).any (ve6 l a)
theorem ve7 {p q:Pln} (hp:Bd p) (hq:Bd q):D4 p.n q.n=c9 p.n q.n∧Sm 42467328 (c9 p.n q.n).x∧Sm 42467328 (c9 p.n q.n).y∧Sm 42467328 (c9 p.n q.n).z:=by
 obtain⟨k1,k2,k3⟩:=kc4 hp.n hq.n
 refine⟨?_,k1,k2,k3⟩
 rw[Ec7,jb0 (k1.mono (by omega)),jb0 (k2.mono (by omega)),jb0 (k3.mono (by omega))]
theorem ge6 (l : List Pln) (hF : ∀ p ∈ l, okp p = true) (hl : l.length ≤ 1000000) (a : Nat) (ha : a < l.length) (x9 x10 : Int) :
  ∃ j,lp (ra5 ⟨l,l,x9,x10,a,(fun k=>(fun k=>tP.row (gL tP l k)) (0+k)),(a:Int),(gL tP l a).n.x,(gL tP l a).n.y,(gL tP l a).n.z,(gL tP l a).b⟩) ⟨0⟩=(if (List.range a).any (ve6 l a) then 1 else 2,⟨((j:Nat):Int)⟩) :=
 Oc5 (step:=ra5 ⟨l,l,x9,x10,a,(fun k=>(fun k=>tP.row (gL tP l k)) (0+k)),(a:Int),(gL tP l a).n.x,(gL tP l a).n.y,(gL tP l a).n.z,(gL tP l a).b⟩) (mk:=fun j=>(⟨(j:Int)⟩:aa6)) a (ve6 l a) 1 2 (by omega)
  (fun j hj=>by
   obtain⟨e,k1,k2,k3⟩:=ve7 (ge5 hF ha) (ge5 hF (show j < l.length by omega))
   have rr:(⟨toI (hdA (tP.row (gL tP l j))),toI (hdA (tlA (tP.row (gL tP l j)))),toI (hdA (tlA (tlA (tP.row (gL tP l j)))))⟩:V3)=(gL tP l j).n:=rfl
   have e':D4 ⟨(gL tP l a).n.x,(gL tP l a).n.y,(gL tP l a).n.z⟩ (gL tP l j).n=c9 (gL tP l a).n (gL tP l j).n:=e
   simp only[ra5,za3,Int.toNat_natCast,Nat.zero_add,rr,e',jd7,l6,j9,af4 l _ ⟨k1,k2,k3⟩ hF (show l.length≤1000000000 by omega),q7 hj (show a≤4611686018427387904 by omega)]
   rw[btD (m0 hj),bt (f8 hj)]
   unfold ve6
   cases hz:((c9 (gL tP l a).n (gL tP l j).n).x==0&&((c9 (gL tP l a).n (gL tP l j).n).y==0&&((c9 (gL tP l a).n (gL tP l j).n).z==0&&true))) with
   | false=>rfl
   | true =>
    simp only[Bool.and_true,Bool.and_eq_true,beq_iff_eq] at hz
    have:(l.any fun r=>dot (c9 (gL tP l a).n (gL tP l j).n) r.n != 0)=false:=by
     rw[List.any_eq_false]
     intro r _
     have:dot (c9 (gL tP l a).n (gL tP l j).n) r.n=0:=by unfold dot;rw[hz.1,hz.2.1,hz.2.2];simp only[Int.zero_mul,Int.add_zero]
     rw[this]
     decide
    rw[this]
    rfl)
  (by simp only[ra5,za3];rw[bfD (A7 (Nat.lt_irrefl _))])
theorem Cd4 (l:List Pln) (hF:∀ p∈l,okp p=true) (hl:l.length≤1000000):Va6 l=some (b (vtx l),[]):=by
 obtain⟨j,h⟩:=Oc5 (step:=ra6 ⟨(l.length:Int)⟩) (mk:=fun j=>(⟨l,l,(j:Int)⟩:aa7)) l.length (fun a=>(List.range a).any (ve6 l a)) 1 2 (by omega)
  (fun j hj=>by
   obtain⟨j',h1⟩:=ge6 l hF hl j hj (l.length:Int) (j:Int)
   simp only[ra6,za4,l6,j9,Int.toNat_natCast,Nat.sub_zero,q7 hj (show l.length≤4611686018427387904 by omega)]
   rw[btD (m0 hj),bt (f8 hj),bt (f8 (show j < l.length+1 by omega)),h1]
   cases (List.range j).any (ve6 l j)<;>rfl)
  (by simp only[ra6,za4];rw[bfD (A7 (Nat.lt_irrefl _))])
 have h:lp (ra6 ⟨(l.length:Int)⟩) ⟨l,l,0⟩=(if vtx l then 1 else 2,⟨l,l,((j:Nat):Int)⟩):=h
 unfold Va6
 simp only[l6,j9]
 rw[h]
 cases vtx l<;>rfl
theorem Yd5 (l:List Pln) (hF:∀ p∈l,okp p=true) (hl:l.length≤1000000):Ja8 l=vtx l:=by unfold Ja8;rw[Cd4 l hF hl];rfl
theorem Yd6 (l:List Pln) (hF:∀ p∈l,okp p=true) (hl:l.length≤1000000):Ja9 l=true:=by unfold Ja9;rw[Cd4 l hF hl];rfl
theorem af5 (l:List Pln):vtx l=true↔∃ p q s,p∈l∧q∈l∧s∈l∧mw p q s≠0:=by
 unfold vtx
 rw[List.any_eq_true]
 constructor
 ·rintro⟨a,ha,h⟩
  obtain⟨c,hc,h⟩:=List.any_eq_true.1 h
  rw[List.mem_range] at ha hc
  obtain⟨r,hr,h⟩:=List.any_eq_true.1 h
  have h:dot (c9 (gL tP l a).n (gL tP l c).n) r.n≠0:=bne_iff_ne.1 h
  exact⟨_,_,r,Ab1 tP ha,Ab1 tP (show c < l.length by omega),hr,fun e=>h (by rw[← e];simp only[mw,dot,c9];grind)⟩
 ·rintro⟨p,q,s,hp,hq,hs,hw⟩
  obtain⟨i',hi,rfl⟩:=List.mem_iff_getElem.1 hp
  obtain⟨j',hj,rfl⟩:=List.mem_iff_getElem.1 hq
  have hne:i'≠j':=fun e=>hw (by subst e;simp only[mw,dot,c9];grind)
  rw[← gb0 tP hi,← gb0 tP hj] at hw
  rcases Nat.lt_or_gt_of_ne hne with h | h
  ·refine⟨j',List.mem_range.2 hj,List.any_eq_true.2 ⟨i',List.mem_range.2 h,List.any_eq_true.2 ⟨s,hs,?_⟩⟩⟩
   have:dot (c9 (gL tP l j').n (gL tP l i').n) s.n≠0:=fun e=>hw (by
    rw[show mw (gL tP l i') (gL tP l j') s=-dot (c9 (gL tP l j').n (gL tP l i').n) s.n from by simp only[mw,dot,c9];grind,e]
    rfl)
   exact bne_iff_ne.2 this
  ·refine⟨i',List.mem_range.2 hi,List.any_eq_true.2 ⟨j',List.mem_range.2 h,List.any_eq_true.2 ⟨s,hs,?_⟩⟩⟩
   have:dot (c9 (gL tP l i').n (gL tP l j').n) s.n≠0:=fun e=>hw (by rw[← e];simp only[mw,dot,c9];grind)
   exact bne_iff_ne.2 this
structure OkF (F:List Pln):Prop where
 l:F.length≤1000000
 v:∀ p∈F,okp p=true
noncomputable def own (F:List Pln) (v:V3):List Pln:=F.filter fun p=>wa1 p v==0
noncomputable def kv (F:List Pln) (v:V3):Bool:=vtx (own F v)
theorem ve8 (F:List Pln) (v:V3) (hF:F.length≤1000000):∃ j,lp (Ba9 ⟨F,(F.length:Int),F,v.x,v.y,v.z⟩) ⟨0,0,0,[]⟩=(phP (own F v)+1,⟨phP (own F v),((j:Nat):Int),(own F v).length,bL tP (own F v)⟩):=by
 have key:=ya6 (step:=Ba9 ⟨F,(F.length:Int),F,v.x,v.y,v.z⟩) (mk:=fun j (o:List Pln)=>(⟨phP o,(j:Int),o.length,bL tP o⟩:n8)) F.length (fun j o=>j≤F.length∧o=(F.take j).filter fun p=>wa1 p v==0) (fun t s=>t=phP (own F v)+1∧∃ j:Nat,s=⟨phP (own F v),(j:Int),(own F v).length,bL tP (own F v)⟩) (by omega)
  (fun j o hj hi=>by
   obtain⟨_,hi⟩:=hi
   have hlen:o.length≤1000000:=by
    rw[hi]
    have h1:=List.length_filter_le (fun p=>wa1 p v==0) (F.take j)
    have h2:=List.length_take_le j F
    omega
   have hn:=q7 hj (show F.length≤4611686018427387904 by omega)
   have hb:=f8 hj
   have hT:(F.take (j+1)).filter (fun p=>wa1 p v==0)=o++(if (wa1 (gL tP F j) v==0)=true then [gL tP F j] else []):=by
    rw[Zb7 tP hj,List.filter_append,← hi,List.filter_cons,List.filter_nil]
   have hnext : ∀ {s : n8} {o' : List Pln}, o' = (F.take (j + 1)).filter (fun p => wa1 p v == 0) → s = ⟨phP o', ((j + 1 : Nat) : Int), o'.length, bL tP o'⟩ → Nx (.next s) (fun t => t = phP (own F v) + 1 ∧ ∃ j' : Nat, (⟨phP o, (j : Int), o.length, bL tP o⟩ : n8) = ⟨phP (own F v), (j' : Int), (own F v).length, bL tP (own F v)⟩)
     (fun s=>∃ o',s=(⟨phP o',((j+1:Nat):Int),o'.length,bL tP o'⟩:n8)∧(j+1≤F.length∧o'=(F.take (j+1)).filter fun p=>wa1 p v==0)):=fun {s o'} ho' hs=>.nx ⟨o',hs,by omega,ho'⟩
   clear hi
   cases o with
   | nil =>
    show Nx (P0 Stp.next Stp.exit Stp.fail _ _) _ _
    simp only[P0,Int.toNat_natCast,bd1,bd2,hn,hb]
    rw[btD (m0 hj)]
    cases hs:wa1 (gL tP F j) v==0 with
    | true=>exact hnext (o':=[gL tP F j]) (by rw[hT,hs];rfl) rfl
    | false=>exact hnext (o':=[]) (by rw[hT,hs];rfl) rfl
   | cons q o =>
    have rr:(Nat.beq (q::o).length (len (bL tP (q::o)))&&Nat.ble (((q::o).length+1)*32) room)=true:=Qc5 rfl (by omega)
    have ap:∀ (O:List Pln) (p:Pln),app (bL tP O) [[i p.n.x,i p.n.y,i p.n.z,i p.b]]=bL tP (O++[p]):=fun O p=>Ma0 tP O [p]
    show Nx (P1 Stp.next Stp.exit Stp.fail _ _) _ _
    simp only[P1,Int.toNat_natCast,bd1,bd2,hn,hb,rr,ap]
    rw[btD (m0 hj)]
    cases hs:wa1 (gL tP F j) v==0 with
    | true=>exact hnext (o':=q::o++[gL tP F j]) (by rw[hT,hs];rfl) (by rw[List.length_append];rfl)
    | false=>exact hnext (o':=q::o) (by rw[hT,hs,if_neg (by simp),List.append_nil]) rfl)
  (fun j o hj hi=>by
   obtain⟨h1,hi⟩:=hi
   have e:j=F.length:=by omega
   subst e
   have hO:o=own F v:=by rw[hi,List.take_length];rfl
   rw[← hO]
   cases o with
   | nil =>
    refine⟨1,?_,rfl,F.length,rfl⟩
    show P0 Stp.next Stp.exit Stp.fail _ _=_
    simp only[P0]
    rw[bfD (A7 (Nat.lt_irrefl _))]
   | cons q o =>
    refine⟨2,?_,rfl,F.length,rfl⟩
    show P1 Stp.next Stp.exit Stp.fail _ _=_
    simp only[P1]
    rw[bfD (A7 (Nat.lt_irrefl _))]) 0 [] ⟨Nat.zero_le _,by simp⟩
 obtain⟨t,s,h1,rfl,j,rfl⟩:=key
 exact⟨j,h1⟩
theorem Ld5 (v:V3) (F:List Pln) (hF:OkF F):fa0 ⟨v.x,v.y,v.z,F⟩=⟨1,!kv F v,F⟩:=by
 obtain⟨j,h⟩:=ve8 F v hF.l
 have hv:∀ p∈own F v,okp p=true:=fun p hp=>hF.v p (List.mem_filter.1 hp).1
 have hl:(own F v).length≤1000000:=Nat.le_trans (List.length_filter_le _ _) hF.l
 unfold fa0 ra7 kv
 simp only[l6,j9]
 rw[h]
 cases ho:own F v with
 | nil =>
  have e:Ja8 []=vtx []:=Yd5 [] (fun p hp=>by cases hp) (by simp)
  have e':Ja9 []=true:=Yd6 [] (fun p hp=>by cases hp) (by simp)
  rw[e,e']
  rfl
 | cons q o =>
  rw[ho] at hv hl
  simp only[ic2,wc9,Yd5 _ hv hl,Yd6 _ hv hl]
  rfl
theorem gf7 {α:Type} {l:List α} {n:Nat} {c:α→Bool} (h:(l.take n).any c=true):(l.take n).findIdx c < (l.take n).length:=by
 rw[List.any_eq_true] at h
 obtain⟨p,hp,hc⟩:=h
 exact List.findIdx_lt_length_of_exists ⟨p,hp,hc⟩
theorem af6 (l:List V3) (n:Nat) (X:List Pln) (hn:n≤l.length) (hl:l.length≤1000000000) (hX:OkF X):ka6 ⟨n,bL tV l,X⟩=⟨1,if (l.take n).any (fun p=>!kv X p) then (((l.take n).findIdx (fun p=>!kv X p):Nat):Int) else -1,X⟩:=by
 have hlen:(l.take n).length=n:=by rw[List.length_take];omega
 have h:=Fa2 (step:=P4 ⟨n,(n:Int),bL tV l⟩) (mk:=fun j=>(⟨(j:Int),X⟩:r8)) (c:=fun p=>!kv X p) (u:=1) (fin:=2) tV (l.take n) (by omega)
  (fun j hj=>by
   rw[hlen] at hj
   have hj':j < l.length:=by omega
   simp only[P4,N2,Int.toNat_natCast,l6,j9,Ld1 hj',od2 hj',Ld5 _ _ hX,Yd1 tV l hj,q7 hj (show n≤4611686018427387904 by omega)]
   rw[btD (m0 hj),bt (f8 hj)]
   rfl)
  (by rw[hlen];simp only[P4,N2];rw[bfD (A7 (Nat.lt_irrefl _))]) 0 (Nat.zero_le _)
 rw[List.drop_zero,hlen] at h
 unfold ka6 O0
 simp only[l6,j9]
 rw[show (⟨0,X⟩:r8)=⟨((0:Nat):Int),X⟩ from rfl,h]
 cases ha:(l.take n).any fun p=>!kv X p with
 | false=>rfl
 | true =>
  have hf:=gf7 ha
  rw[hlen] at hf
  simp only[if_true,Nat.zero_add,Int.toNat_natCast,od2 (show (l.take n).findIdx (fun p=>!kv X p) < l.length by omega),Ld5 _ _ hX,l6]
  rfl
structure af7 (l:List V3) (n:Nat) (f:V3→Bool) (cur:List V3) (m j:Nat):Prop where
 len:cur.length=l.length
 t:cur.take m=(l.take j).filter f
 d:cur.drop j=l.drop j
 le:m≤j
 lm:m≤n
theorem Ld6 (l : List V3) (n : Nat) (hnl : n ≤ l.length) (X : List Pln) (hl : l.length ≤ 1000000000) (hX : OkF X) (m j : Nat) (cur : List V3) (hd : af7 l n (kv X) cur m j) (hjn : j ≤ n) :
  ∃ t s,lp (F7 ⟨n⟩) ⟨(m:Int),(j:Int),bL tV cur,X⟩=(t,s)∧(t=1∧∃ m' cur',s=⟨((m':Nat):Int),((n:Nat):Int),bL tV cur',X⟩∧af7 l n (kv X) cur' m' n):=by
 refine ya6 (step:=F7 ⟨n⟩) (mk:=fun j (x:Nat×List V3)=>(⟨(x.1:Int),(j:Int),bL tV x.2,X⟩:y8)) n (fun j x=>af7 l n (kv X) x.2 x.1 j∧j≤n) (fun t s=>t=1∧∃ m' cur',s=⟨((m':Nat):Int),((n:Nat):Int),bL tV cur',X⟩∧af7 l n (kv X) cur' m' n) (by omega) (fun j x hj hx=>?_) (fun j x hj hx=>?_) j (m,cur) ⟨hd,hjn⟩
 ·obtain⟨m,cur⟩:=x
  obtain⟨⟨h1,h2,h3,h4,h5⟩,_⟩:=hx
  simp only at h1 h2 h3 h4 h5
  have hjc:j < cur.length:=by omega
  have hmc:m < cur.length:=by omega
  have hg:gL tV cur j=gL tV l j:=yb9 tV h3
  have hWm:W ((m:Int)+1)=((m+1:Nat):Int):=by rw[na5 (by omega) (by omega)];omega
  have hb:Nat.blt m cur.length=true:=by rw[Nat.blt_eq];exact hmc
  have hrow:j6 (bL tV cur) m=tV.row (gL tV cur m):=Q3 tV hmc
  have sp:∀ (v:V3) (x1 x2 x3:Int),S7 (tV.row v) 0 [i x1,i x2,i x3]=tV.row ⟨x1,x2,x3⟩:=fun _ _ _ _=>rfl
  have rl:∀ v:V3,Nat.ble (0+3) (len (tV.row v))=true:=fun _=>rfl
  simp only[F7,N4,Int.toNat_natCast,l6,j9,Ld1 hjc,od2 hjc,Ld5 _ _ hX,q7 hj (show n≤4611686018427387904 by omega),hWm]
  rw[btD (m0 hj),bt (f8 hj)]
  simp only[Nat.zero_add,hrow,na4,hb,sp,Ta3,f8 (show m < n by omega),hg]
  have ht:=Zb7 tV (show j < l.length by omega)
  have hd1:cur.drop (j+1)=l.drop (j+1):=wb3 h3 1
  cases hk:kv X (gL tV l j) with
  | true =>
   refine .nx ⟨(m+1,cur.set m (gL tV l j)),rfl,⟨by rw[List.length_set];exact h1,?_,?_,by omega,by show m+1≤n;omega⟩,by omega⟩
   ·show (cur.set m (gL tV l j)).take (m+1)=_
    rw[ht,List.filter_append,List.take_succ_eq_append_getElem (by rw[List.length_set];exact hmc),List.getElem_set_self,List.take_set_of_le (Nat.le_refl _),h2,List.filter_cons,hk,if_pos rfl,List.filter_nil]
   ·show (cur.set m (gL tV l j)).drop (j+1)=_
    rw[List.drop_set_of_lt (by omega),hd1]
  | false =>
   refine .nx ⟨(m,cur),rfl,⟨h1,?_,hd1,by omega,h5⟩,by omega⟩
   show cur.take m=_
   rw[ht,List.filter_append,h2,List.filter_cons,hk,if_neg (by simp),List.filter_nil,List.append_nil]
 ·obtain⟨m,cur⟩:=x
  obtain⟨hx,hjn⟩:=hx
  have e:j=n:=by omega
  subst e
  refine⟨1,?_,rfl,m,cur,rfl,hx⟩
  simp only[F7,N4]
  rw[bfD (by omega)]
theorem ge7 (l : List V3) (n : Nat) (hnl : n ≤ l.length) (X : List Pln) (hl : l.length ≤ 1000000000) (hX : OkF X) :
  ∃ m r,ka9 ⟨n,bL tV l,X⟩=⟨1,m,bL tV r,X⟩∧m≤r.length∧r.take m=(l.take n).filter (kv X):=by
 have hlen:(l.take n).length=n:=by rw[List.length_take];omega
 unfold ka9 O1
 simp only[l6,j9,af6 l n X hnl hl hX]
 cases ha:(l.take n).any fun p=>!kv X p with
 | false =>
  refine⟨n,l,rfl,hnl,?_⟩
  symm
  rw[List.filter_eq_self]
  intro p hp
  have:=List.any_eq_false.1 ha p hp
  simpa using this
 | true =>
  have hf:=gf7 ha
  have hk:kv X (gL tV (l.take n) ((l.take n).findIdx fun p=>!kv X p))=false:=by
   have:=List.findIdx_getElem (xs:=l.take n) (p:=fun p=>!kv X p) (w:=hf)
   rw[gb0 tV hf]
   simpa using this
  have ht:=Zb6 (fun p=>!kv X p) (l.take n)
  simp only[Bool.not_not] at ht
  generalize hF:(l.take n).findIdx (fun p=>!kv X p)=F at *
  rw[hlen] at hf
  rw[Yd1 tV l hf] at hk
  rw[List.take_take,Nat.min_eq_left (by omega)] at ht
  have hW:W ((F:Int)+1)=((F+1:Nat):Int):=q7 hf (by omega)
  have hne:((F:Int)==-1)=false:=by rw[beq_eq_false_iff_ne];omega
  obtain⟨t,s,e1,rfl,m,cur,e2,e3⟩:=Ld6 l n hnl X hl hX F (F+1) l ⟨rfl,by rw[Zb7 tV (show F < l.length by omega),List.filter_append,ht,List.filter_cons,hk,if_neg (by simp),List.filter_nil,List.append_nil],rfl,by omega,by omega⟩ (by omega)
  have hm:m≤n:=e3.lm
  have hin:inB (m:Int) (n+1)=true:=f8 (by omega)
  simp only[if_true,hW,hne,e1,e2,Int.toNat_natCast,hin,Nat.zero_add,Nat.sub_zero]
  refine⟨m,cur.take m++(List.replicate (n - m) ⟨0,0,0⟩++cur.drop (m+(n - m))),?_,?_,?_⟩
  ·rw[Xd6,Xd7,od3,Ma0,Ma0]
   rfl
  ·rw[List.length_append,List.length_append,List.length_take,List.length_replicate,e3.len];omega
  ·rw[List.take_append_of_le_length (by rw[List.length_take,e3.len];omega),List.take_take,Nat.min_self,e3.t]
noncomputable def Jc0 (F:List Pln) (l:List V3):List V3:=(dis l).filter (kv F)
theorem Ld7 (a:V3) (l:List V3) (hl:l.length≤1000000):∃ m r,Ra0 (a,l)=⟨1,m,bL tV r⟩∧m≤r.length∧r.take m=dis (a::l)∧r.length≤1000000000:=by
 obtain⟨m,r,k1,k2,k3,k4⟩:=Ic6 a l hl
 have hok:okL tV (l.length+1) (fun k=>tV.row (gL tV (a::l) k))=true:=hb9 tV (f:=fun k=>gL tV (a::l) k) fun _ _=>rfl
 have hr:=Xd9 (a::l) (by simp only[List.length_cons];omega) []
 rw[List.append_nil] at hr
 unfold Ra0 ra8
 simp only[yd5,yd6,Bd8 a l hl,hok,k1,w6,Nat.beq_refl,hr]
 exact⟨m,r,rfl,k2,k3,by omega⟩
end Go.Ev.Ce
namespace Go.Ev.Ce
open Go Go.Ev Go.Ev.L Go.Proofs Go.Sort
theorem ve9 (l:List V3) (a c k:Nat) (s:List Pln) (p:Pln):p∈vc2 l a c s k↔p∈s∨((J8 (gL tV l k) (gL tV l c) (gL tV l a)).2=true∧(p=(J8 (gL tV l k) (gL tV l c) (gL tV l a)).1∨p=ia3 (J8 (gL tV l k) (gL tV l c) (gL tV l a)).1)):=by
 unfold vc2
 generalize J8 (gL tV l k) (gL tV l c) (gL tV l a)=T
 cases h2:T.2 with
 | false=>simp
 | true=>simp only[if_true,Me5,true_and,or_assoc]
theorem qf2 (l:List V3) (p:Pln):p∈G0 l↔∃ a,a < l.length∧∃ c,c < a∧∃ k,k < c∧((J8 (gL tV l k) (gL tV l c) (gL tV l a)).2=true∧(p=(J8 (gL tV l k) (gL tV l c) (gL tV l a)).1∨p=ia3 (J8 (gL tV l k) (gL tV l c) (gL tV l a)).1)):=by
 have h:p∈G0 l↔p∈[]∨_:=Db9 (fun o a p=>Db9 (fun o c p=>Db9 (fun o k p=>ve9 l a c k o p) o p c) o p a) [] p l.length
 rw[h]
 simp only[List.not_mem_nil,false_or]
theorem Ld8 {f:List Pln→Nat→List Pln} (h:∀ o k,o.Nodup→(f o k).Nodup) {o:List Pln} (ho:o.Nodup):∀ n,((List.range n).foldl f o).Nodup
 | 0=>ho
 | n+1=>by rw[E7];exact h _ _ (Ld8 h ho n)
theorem Me7 (l:List V3):(G0 l).Nodup:=Ld8 (fun o a ho=>Ld8 (fun o c ho=>Ld8 (fun o k ho=>by
 show (vc2 l a c o k).Nodup
 unfold vc2
 split
 ·exact od6 (od6 ho)
 ·exact ho) ho c) ho a) List.nodup_nil l.length
theorem af8 {l:List V3} (hl:l.all inV=true) (p:Pln):p∈fil l (G0 l)↔Xc5 l p:=by
 have hin:=List.all_eq_true.1 hl
 have hb:(!bey l p)=hold p l:=rfl
 unfold fil
 rw[List.mem_filter,qf2,hb]
 constructor
 ·rintro⟨⟨a,ha,c,hc,k,hk,h1,h2⟩,h3⟩
  have ma:=gLm ha
  have mc:=gLm (show c < l.length by omega)
  have mk:=gLm (show k < l.length by omega)
  have ht:=(Ba8 h1).2
  rcases h2 with rfl | rfl
  ·exact Kd7 mk mc ma ht ((eb6 ht.ok hl).1 h3)
  ·exact md5 mk mc ma ht ((eb6 (mc0 ht.ok) hl).1 h3)
 ·intro h
  obtain⟨u,w,x,hu,hw,hx,h3,t1,t2,t3⟩:=h.on
  obtain⟨a,ha,c,hc,k,hk,hn,hall⟩:=Ye7 hu hw hx h3
  obtain⟨i1,i2,i3⟩:=hall (fun v=>inV v=true) (hin u hu) (hin w hw) (hin x hx)
  obtain⟨e1,e2,e3⟩:=hall (fun v=>dot p.n v=p.b) t1 t2 t3
  have h2:=Tb4 i3 i2 i1 (Le0 hn).2.2.1
  exact⟨⟨a,ha,c,hc,k,hk,h2,Hc6 (Ba8 h2).2 h.ok e3 e2 e1⟩,(eb6 h.ok hl).2 h.hd⟩
theorem Cd5 {l r:List V3} (h:∀ v,v∈r↔v∈l) {p:Pln} (hp:Xc5 l p):Xc5 r p:=by
 obtain⟨⟨hd,u,w,x,hu,hw,hx,e⟩,ok⟩:=hp
 exact⟨⟨fun v hv=>hd v ((h v).1 hv),u,w,x,(h u).2 hu,(h w).2 hw,(h x).2 hx,e⟩,ok⟩
theorem ge8 {l:List Pln} (h:l.Nodup):Va0 (Ra8 l):=by
 have h1:=Zb9 l
 have h2:(Ra8 l).Nodup:=(Zb8 l).nodup_iff.2 h
 have h3:=h1.and h2
 refine h3.imp fun {x y} ⟨k1,k2⟩=>?_
 rw[Za4] at k1
 have k1:¬ LtP y x:=by simpa using k1
 rcases Kd0 x y with h | h | h
 ·exact h
 ·exact absurd h k2
 ·exact absurd h k1
theorem af9 {l:List V3} (hl:l.all inV=true):(dis l).all inV=true:=List.all_eq_true.2 fun v hv=>List.all_eq_true.1 hl v ((qc9 l v).1 hv)
theorem Me8 {l:List V3} (hl:l.all inV=true):Ra8 (fil (dis l) (G0 (dis l)))=F0 l:=by
 refine Oc3 (ge8 ((Me7 (dis l)).filter _)) (Ke7 l) fun p=>?_
 rw[(Zb8 _).mem_iff,af8 (af9 hl),Lb7 hl]
 exact⟨Cd5 fun v=>(qc9 l v).symm,Cd5 (qc9 l)⟩
theorem Bf5 {l:List V3} (hl:l.all inV=true) (h4:Sol l):F0 l≠[]:=fun e=>by
 have h:=qc7 h4 (ne5 hl (c:=[]) fun p hp=>by rw[← Lb7 hl,e] at hp;exact hp) (x:=⟨100,0,0,1⟩) ⟨by show (0:Int) < 1;omega,fun p hp=>by cases hp⟩ (h:=⟨⟨1,0,0⟩,24⟩) fun v hv=>by
  obtain⟨⟨a1,a2⟩,_,_⟩:=(lb6 v).1 (List.all_eq_true.1 hl v hv)
  simp only[dot]
  omega
 simp only[rmZ] at h
 omega
theorem we0 {l:List V3} (h48:l.length≤48) (hl:l.all inV=true) (h4:Sol l):ge1 l=0:=by
 have hin:=List.all_eq_true.1 hl
 unfold ge1
 rw[if_neg (by omega),if_neg (by rw[← List.not_all_eq_any_not,hl];simp)]
 have h1:(ixs l.length).any (sp1 l)=true:=by
  obtain⟨a,c,k,v,ha,hc,hk,hv,hd⟩:=h4
  obtain⟨i',hi,j',hj,k',hk',hn,hall⟩:=Ye7 ha hc hk (md4 hd)
  obtain⟨i1,i2,i3⟩:=hall (fun v=>inV v=true) (hin _ ha) (hin _ hc) (hin _ hk)
  have ht:=Tb4 i3 i2 i1 (Le0 hn).2.2.1
  have mem:∀ {n m:Nat},m < n→((m:Nat):Int)∈ixs n:=fun {n m} h=>List.mem_map.2 ⟨m,List.mem_range.2 h,rfl⟩
  refine List.any_eq_true.2 ⟨_,mem hi,?_⟩
  unfold sp1
  rw[Int.toNat_natCast]
  refine List.any_eq_true.2 ⟨_,mem hj,?_⟩
  unfold sp2
  rw[Int.toNat_natCast]
  refine List.any_eq_true.2 ⟨gL tV l k',?_,ht⟩
  rw[← Yd1 tV l hk']
  exact Ab1 tV (by rw[List.length_take];omega)
 have h2:od4 l=false:=by
  unfold od4
  rw[if_pos h1]
  obtain⟨hi,k1⟩:=bd3 h1
  have k1:(ixs (iF l)).any (sp2 l (iF l))=true:=k1
  obtain⟨hj,k2⟩:=bd3 k1
  have k2:(l.take (jF l)).any (fun v=>(J8 v (gL tV l (jF l)) (gL tV l (iF l))).2)=true:=k2
  have hj:jF l < iF l:=hj
  have hi:iF l < l.length:=hi
  have hk:=oe3 k2
  have hk2:=List.findIdx_getElem (xs:=l.take (jF l)) (p:=fun v=>(J8 v (gL tV l (jF l)) (gL tV l (iF l))).2) (w:=hk)
  rw[← gb0 tV hk,Yd1 tV l (by rw[List.length_take] at hk;omega)] at hk2
  have hok:okp (plF l)=true:=(Ba8 hk2).2.ok
  obtain⟨v,hv,hne⟩:=h4.off (Hc4 hok) (plF l).b
  rw[Bool.not_eq_false',List.any_eq_true]
  refine⟨v,hv,?_⟩
  have:wa1 (plF l) v≠0:=fun e=>hne ((qc6 hok (hin v hv)).1 e)
  simpa using this
 rw[h2]
 rfl
theorem bf0 (l r:List Pln) (n:Nat) (hn:n=l.length):(two (r1L tP) r1I).rd (.tup [.sl 0 0 n 0,i 0],[⟨50,4,bL tP (l++r),true,false,0⟩])=some (l,0):=by
 subst hn
 have h:(r1L tP).rd [⟨50,4,bL tP (l++r),true,false,0⟩] (.sl 0 0 l.length 0)=some l:=by
  show Bool.rec (motive:=fun _=>Option (List Pln)) none (some (slR tP (bL tP (l++r)) 0 l.length)) (Bool.and true (okS tP (bL tP (l++r)) 0 l.length))=_
  rw[Vd6 _ _ (by rw[List.length_append];omega),Vd7 _ _ (by rw[List.length_append];omega),List.take_left']
  ·rfl
  ·rfl
 simp only[two,h]
 rfl
theorem Cd6 (a:V3) (l:List V3) (h48:(a::l).length≤48) (hl:(a::l).all inV=true) (h4:Sol (a::l)):Rd (two (r1L tP) r1I) (fb6 (a,l)) (fun r=>r=(F0 (a::l),0)):=by
 have hc:=we0 h48 hl h4
 have hdl:=oe0 (a::l)
 have hll:l.length≤1000000:=by simp only[List.length_cons] at h48;omega
 obtain⟨j,e⟩:=qf1 (dis (a::l)) (by omega)
 have hf:=Me8 hl
 have hne:fil (dis (a::l)) (G0 (dis (a::l)))≠[]:=fun e=>by
  rw[e] at hf
  have h0:Ra8 []=[]:=Oc4
  rw[h0] at hf
  exact Bf5 hl h4 hf.symm
 have hok:okL tV (l.length+1) (fun k=>tV.row (gL tV (a::l) k))=true:=hb9 tV (f:=fun k=>gL tV (a::l) k) fun _ _=>rfl
 have hlen:(fil (dis (a::l)) (G0 (dis (a::l)))).length≤1000000:=by
  have h1:=oe4 (dis (a::l)) (G0 (dis (a::l)))
  have h2:(G0 (dis (a::l))).length≤_:=ge4 (dis (a::l)) (by omega) _ (Nat.le_refl _)
  omega
 unfold fb6
 simp only[l6,sa1,j9,yd5,yd6,hok,Me3 (a::l) (by omega),Me2 (a::l) (by omega),hc,fe9 a l hll,ge0 a l hll,e]
 generalize fil (dis (a::l)) (G0 (dis (a::l)))=O at *
 cases O with
 | nil=>exact absurd rfl hne
 | cons q o =>
  have hr:(Bool.and (Nat.ble (q::o).length room) (Bool.and (Nat.ble (q::o).length (len (bL tP (q::o)))) (okS tP (bL tP (q::o)) 0 (q::o).length)))=true:=by
   rw[wc9,na4,Bool.and_eq_true,Bool.and_eq_true,Nat.ble_eq,Nat.ble_eq]
   refine⟨by unfold room;omega,Nat.le_refl _,rfl⟩
  simp only[phP,hr,ic2,ad8,Ma0,hf]
  exact⟨_,(F0 (a::l),0),rfl,bf0 _ _ _ (by rw[← hf,qc5]),rfl⟩
theorem Yd7 (a:V3) (l:List V3) (h48:(a::l).length≤48) (hl:(a::l).all inV=true) (h4:Sol (a::l)):yb1 (a,l)=(F0 (a::l),0):=(Cd6 a l h48 hl h4).p
theorem Yd8 (a:V3) (l:List V3) (h48:(a::l).length≤48) (hl:(a::l).all inV=true) (h4:Sol (a::l)):yb2 (a,l)=true:=(Cd6 a l h48 hl h4).g
theorem Uc3 (a:V3) (l:List V3) (h8:(a::l).length≤8) (hl:(a::l).all inV=true) (hf:nf0 (a::l)=true):Rd (two (r1L tV) r1I) (Pa2 (a,l)) (fun r=>r=(Jc0 (F0 (a::l)) (a::l),0)):=by
 have h4:=Kd5 hf
 have hll:l.length≤1000000:=by simp only[List.length_cons] at h8;omega
 have hF:OkF (F0 (a::l)):=⟨by have:=Ke9 hl hf h8;omega,fun p hp=>(Kd4 hp).ok⟩
 obtain⟨m,r,e1,e2,e3,e4⟩:=Ld7 a l hll
 obtain⟨m',r',k1,k2,k3⟩:=ge7 r m e2 (F0 (a::l)) e4 hF
 have hok:okL tV (l.length+1) (fun k=>tV.row (gL tV (a::l) k))=true:=hb9 tV (f:=fun k=>gL tV (a::l) k) fun _ _=>rfl
 unfold Pa2
 simp only[l6,sa1,j9,yd5,yd6,hok,Yd7 a l (by omega) hl h4,Yd8 a l (by omega) hl h4,e1,k1]
 refine⟨_,(r'.take m',0),rfl,?_,by rw[k3,e3];rfl⟩
 have h:(r1L tV).rd [⟨36,3,bL tV r',true,false,0⟩] (.sl 0 0 m' 0)=some (r'.take m'):=by
  show Bool.rec (motive:=fun _=>Option (List V3)) none (some (slR tV (bL tV r') 0 m')) (Bool.and true (okS tV (bL tV r') 0 m'))=_
  rw[Bd7 _ _ k2,Pc8 _ _ k2]
  rfl
 simp only[two,h]
 rfl
theorem ge9 (a:V3) (l:List V3) (h8:(a::l).length≤8) (hl:(a::l).all inV=true) (hf:nf0 (a::l)=true):Gb2 (a,l)=(Jc0 (F0 (a::l)) (a::l),0):=(Uc3 a l h8 hl hf).p
theorem he0 (a:V3) (l:List V3) (h8:(a::l).length≤8) (hl:(a::l).all inV=true) (hf:nf0 (a::l)=true):Gb3 (a,l)=true:=(Uc3 a l h8 hl hf).g
theorem Me9 {l:List V3} (hl:l.all inV=true) {v:V3} (hv:v∈l):kv (F0 l) v=true↔Spn (F0 l) v:=by
 have hin:=List.all_eq_true.1 hl
 have hs:∀ p∈F0 l,(wa1 p v==0)=true↔dot p.n v=p.b:=fun p hp=>by rw[beq_iff_eq];exact qc6 (Kd4 hp).ok (hin v hv)
 unfold kv own
 rw[af5]
 constructor
 ·rintro⟨p,q,s,hp,hq,hs',hw⟩
  rw[List.mem_filter] at hp hq hs'
  exact⟨p,q,s,hp.1,hq.1,hs'.1,hw,(hs p hp.1).1 hp.2,(hs q hq.1).1 hq.2,(hs s hs'.1).1 hs'.2⟩
 ·rintro⟨p,q,s,hp,hq,hs',hw,e1,e2,e3⟩
  exact⟨p,q,s,List.mem_filter.2 ⟨hp,(hs p hp).2 e1⟩,List.mem_filter.2 ⟨hq,(hs q hq).2 e2⟩,List.mem_filter.2 ⟨hs',(hs s hs').2 e3⟩,hw⟩
end Go.Ev.Ce
namespace Go.Ev.Ce
open Go Go.Ev Go.Ev.L Go.Proofs
structure B8 (v:V3):Prop where
 x:Sm 8 v.x
 y:Sm 8 v.y
 z:Sm 8 v.z
structure Mp (l:List V3):Prop where
 l4:4≤l.length
 l8:l.length≤8
 bd:∀ v∈l,Sm 11 v.x∧Sm 11 v.y∧Sm 11 v.z
 nf:nf0 l=true
theorem Mp.inV {l:List V3} (h:Mp l):l.all inV=true:=List.all_eq_true.2 fun v hv=>by
 obtain⟨h1,h2,h3⟩:=h.bd v hv
 exact (lb6 v).2 ⟨h1.mono (by omega),h2.mono (by omega),h3.mono (by omega)⟩
theorem Bf6 {l:List V3} (hl:l.all Ce.inV=true) (h4:Sol l):nf0 l=true:=by
 have hin:=List.all_eq_true.1 hl
 obtain⟨a,c,k,v,ha,hc,hk,hv,hd⟩:=h4
 obtain⟨i',hi,j',hj,k',hk',hn,hall⟩:=Ye7 ha hc hk (md4 hd)
 obtain⟨i1,i2,i3⟩:=hall (fun v=>Ce.inV v=true) (hin _ ha) (hin _ hc) (hin _ hk)
 have ht:=Tb4 i1 i2 i3 hn
 refine List.any_eq_true.2 ⟨i',List.mem_range.2 hi,List.any_eq_true.2 ⟨j',List.mem_range.2 hj,List.any_eq_true.2 ⟨k',List.mem_range.2 hk',?_⟩⟩⟩
 unfold nf ue6
 rw[ht,Bool.true_and,List.any_eq_true]
 have hok:=(Ba8 ht).2.ok
 obtain⟨w,hw,hne⟩:=Sol.off ⟨a,c,k,v,ha,hc,hk,hv,hd⟩ (Hc4 hok) (J8 (gL tV l i') (gL tV l j') (gL tV l k')).1.b
 refine⟨w,hw,?_⟩
 have:wa1 (J8 (gL tV l i') (gL tV l j') (gL tV l k')).1 w≠0:=fun e=>hne ((qc6 hok (hin w hw)).1 e)
 simpa using this
theorem Ne0 {l:List V3} (h4:4≤l.length) (h8:l.length≤8) (hb:∀ v∈l,B8 v) (hf:nf0 l=true):Mp l:=⟨h4,h8,fun v hv=>⟨(hb v hv).x.mono (by omega),(hb v hv).y.mono (by omega),(hb v hv).z.mono (by omega)⟩,hf⟩
theorem qf3 {l:List V3} (h4:4≤l.length) (h8:l.length≤8) (hb:∀ v∈l,B8 v):Mp (((l.set 1 ⟨W ((gL tV l 0).x - 3),(gL tV l 0).y,(gL tV l 0).z⟩).set 2 ⟨(gL tV l 0).x,W ((gL tV l 0).y - 2),(gL tV l 0).z⟩).set 3 ⟨(gL tV l 0).x,(gL tV l 0).y,W ((gL tV l 0).z - 1)⟩):=by
 match l,h4,h8,hb with
 | a::b::c::d::l,h4,h8,hb =>
  have ha:=hb a List.mem_cons_self
  have g0:gL tV (a::b::c::d::l) 0=a:=rfl
  rw[g0]
  obtain⟨x1,x2⟩:=ha.x;obtain⟨y1,y2⟩:=ha.y;obtain⟨z1,z2⟩:=ha.z
  rw[na5 (n:=a.x - 3) (by omega) (by omega),na5 (n:=a.y - 2) (by omega) (by omega),na5 (n:=a.z - 1) (by omega) (by omega)]
  show Mp (a::⟨a.x - 3,a.y,a.z⟩::⟨a.x,a.y - 2,a.z⟩::⟨a.x,a.y,a.z - 1⟩::l)
  have bd:∀ v∈(a::⟨a.x - 3,a.y,a.z⟩::⟨a.x,a.y - 2,a.z⟩::⟨a.x,a.y,a.z - 1⟩::l:List V3),Sm 11 v.x∧Sm 11 v.y∧Sm 11 v.z:=fun v hv=>by
   simp only[List.mem_cons] at hv
   unfold Sm
   rcases hv with rfl | rfl | rfl | rfl | hv
   ·omega
   ·simp only;omega
   ·simp only;omega
   ·simp only;omega
   ·have:=hb v (by simp[hv])
    obtain⟨⟨k1,k2⟩,⟨k3,k4⟩,k5,k6⟩:=this
    omega
  refine⟨by simp only[List.length_cons];omega,by simp only[List.length_cons] at h8 ⊢;omega,bd,Bf6 (List.all_eq_true.2 fun v hv=>?_) ?_⟩
  ·obtain⟨h1,h2,h3⟩:=bd v hv
   exact (lb6 v).2 ⟨h1.mono (by omega),h2.mono (by omega),h3.mono (by omega)⟩
  ·refine⟨a,⟨a.x - 3,a.y,a.z⟩,⟨a.x,a.y - 2,a.z⟩,⟨a.x,a.y,a.z - 1⟩,by simp,by simp,by simp,by simp,?_⟩
   have e:dot (N3 a ⟨a.x - 3,a.y,a.z⟩ ⟨a.x,a.y - 2,a.z⟩) (ia4 ⟨a.x,a.y,a.z - 1⟩ a)=-6:=by simp only[dot,N3,c9,ia4];grind
   rw[e];decide
theorem Ne1 (x : List Int) (N : Nat) (h4 : 4 ≤ N) (h8 : N ≤ 8) (j0 : Int) (hj0 : 0 ≤ j0 ∧ j0 ≤ 10) :
  ∃ idx out,lp (xa1 ⟨(N:Int)⟩) ⟨0,0,x,j0,0,[]⟩=(2,⟨1,(N:Int),x,idx,N,bL tV out⟩)∧out.length=N∧∀ v∈out,B8 v:=by
 have key:=ya6 (step:=xa1 ⟨(N:Int)⟩) (mk:=fun j (a:Int×List V3)=>(⟨phV a.2,(j:Int),x,a.1,a.2.length,bL tV a.2⟩:u9)) N
  (fun j a=>a.2.length=j∧0≤a.1∧a.1≤10+4*j∧j≤N∧∀ v∈a.2,B8 v) (fun t s=>t=2∧∃ idx out,s=⟨1,(N:Int),x,idx,N,bL tV out⟩∧out.length=N∧∀ v∈out,B8 v) (by omega) (fun j a hj ha=>?_) (fun j a hj ha=>?_) 0 (j0,[]) ⟨rfl,hj0.1,by omega,by omega,fun v hv=>by cases hv⟩
 ·obtain⟨t,s,e1,rfl,idx,out,e2,e3⟩:=key
  exact⟨idx,out,by rw[← e2];exact e1,e3.1,e3.2⟩
 ·obtain⟨at0,out⟩:=a
  obtain⟨ho,ha1,ha2,_,hB⟩:=ha
  simp only at ho ha1 ha2 hB
  have hn:=q7 hj (show N≤4611686018427387904 by omega)
  obtain⟨v1,j1,d1,p1,q1,c1,b1⟩:=lb5 17 x at0 ha1 (by omega) (by omega) (by omega)
  obtain⟨v2,j2,d2,p2,q2,c2,b2⟩:=lb5 17 x j1 (by omega) (by omega) (by omega) (by omega)
  obtain⟨v3,j3,d3,p3,q3,c3,b3⟩:=lb5 17 x j2 (by omega) (by omega) (by omega) (by omega)
  obtain⟨v4,j4,d4,_,_,c4,b4⟩:=lb5 6 x j3 (by omega) (by omega) (by omega) (by omega)
  have s1:Sm 8 (W (v1 - 8)):=by unfold Sm;rw[na5 (by omega) (by omega)];omega
  have s2:Sm 8 (W (v2 - 8)):=by unfold Sm;rw[na5 (by omega) (by omega)];omega
  have s3:Sm 8 (W (v3 - 8)):=by unfold Sm;rw[na5 (by omega) (by omega)];omega
  have leaf : ∀ (E : Nat → Prop) (x1 x2 x3 : Int), Sm 8 x1 → Sm 8 x2 → Sm 8 x3 → Nx (.next (⟨1, ((j + 1 : Nat) : Int), x, j4, j + 1, bL tV (out ++ [⟨x1, x2, x3⟩])⟩ : u9)) E
    (fun s=>∃ a':Int×List V3,s=⟨phV a'.2,((j+1:Nat):Int),x,a'.1,a'.2.length,bL tV a'.2⟩∧a'.2.length=j+1∧0≤a'.1∧a'.1≤10+4*((j+1:Nat):Int)∧j+1≤N∧∀ v∈a'.2,B8 v):=fun E x1 x2 x3 k1 k2 k3=>by
   have hl:(out++[(⟨x1,x2,x3⟩:V3)]).length=j+1:=by simp[ho]
   exact .nx ⟨(j4,out++[⟨x1,x2,x3⟩]),by simp only[le9,hl],hl,by show 0≤j4;omega,by show j4≤_;omega,by omega,fun v hv=>by
    rcases List.mem_append.1 hv with h | h
    ·exact hB v h
    ·rw[List.mem_singleton.1 h];exact⟨k1,k2,k3⟩⟩
  cases out with
  | nil =>
   have hj0':j=0:=by simpa using ho.symm
   subst hj0'
   show Nx (ea2 Stp.next Stp.exit Stp.fail _ _) _ _
   simp only[ea2,l6,j9,d1,d2,d3,d4,hn]
   rw[btD (m0 hj)]
   have f1:decide (((0:Nat):Int) > 1)=false:=rfl
   have f2:decide (((0:Nat):Int) > 0)=false:=rfl
   have f3:decide (((0:Nat):Int) > 2)=false:=rfl
   have lf:∀ (E:Nat→Prop) (x1 x2 x3:Int),Sm 8 x1→Sm 8 x2→Sm 8 x3→Nx (.next (⟨1,((0+1:Nat):Int),x,j4,1,[[i x1,i x2,i x3]]⟩:u9)) E _:=leaf
   simp only[f1,f2,f3,Ab0,Nat.beq_refl,Bool.and_true,w6]
   refine Nx.sl (fun _=>?_) (fun _=>?_)<;>refine Nx.sl (fun _=>?_) (fun _=>?_)
   all_goals first
    | exact lf _ _ _ _ (by assumption) (by assumption) (by assumption)
    | (refine Nx.sl (fun _=>?_) (fun _=>?_)<;>exact lf _ _ _ _ (by assumption) (by assumption) (by assumption))
  | cons o os =>
   have h1:1≤j:=by simp only[List.length_cons] at ho;omega
   generalize hO:o::os=O at *
   have hph:phV O=1:=by subst hO;rfl
   have w1:W ((j:Int) - 1)=((j - 1:Nat):Int):=by rw[na5 (by omega) (by omega)];omega
   have i1:inB ((j - 1:Nat):Int) j=true:=f8 (by omega)
   have r1:=We3 (l:=O) (m:=j - 1) (by omega)
   have r1':=ff9 (l:=O) (m:=j - 1) (by omega)
   have rr:=gf0 ho (by omega)
   have gx:∀ m,m < O.length→Sm 8 (toI (hdA (g9 (j6 (bL tV O) (0+m)) 0)))∧Sm 8 (toI (hdA (tlA (g9 (j6 (bL tV O) (0+m)) 0))))∧Sm 8 (toI (hdA (tlA (tlA (g9 (j6 (bL tV O) (0+m)) 0)))))∧Sm 8 (toI (hdA (g9 (j6 (bL tV O) (0+m)) 2))):=fun m hm=>by
    rw[Nat.zero_add,Q3 tV hm]
    have:=hB _ (Ab1 tV hm)
    exact⟨this.x,this.y,this.z,this.z⟩
   have md:∀ {A C:Int},Sm 8 A→Sm 8 C→Sm 8 (W (Int.tdiv (W (A+C)) 2)):=fun {A C} ⟨h1,h2⟩ ⟨h3,h4⟩=>by
    unfold Sm
    rw[na5 (n:=A+C) (by omega) (by omega)]
    obtain⟨m1,m2,m3⟩:=kd5 (x:=A+C) (y:=2) (by omega)
    rw[na5 (by omega) (by omega)]
    omega
   obtain⟨gx1,gy1,gz1,gw1⟩:=gx (j - 1) (by omega)
   have f2:∀ {inst:Decidable ((j:Int) > 0)},@decide ((j:Int) > 0) inst=true:=decide_eq_true (by omega)
   show Nx (sel (Nat.beq (phV O) 1) (s6 Stp.next Stp.exit Stp.fail _ _) _) _ _
   rw[hph]
   show Nx (s6 Stp.next Stp.exit Stp.fail _ _) _ _
   by_cases h2:2≤j
   ·have w2:W ((j:Int) - 2)=((j - 2:Nat):Int):=by rw[na5 (by omega) (by omega)];omega
    have i2:inB ((j - 2:Nat):Int) j=true:=f8 (by omega)
    have r2:=We3 (l:=O) (m:=j - 2) (by omega)
    obtain⟨gx2,gy2,gz2,gw2⟩:=gx (j - 2) (by omega)
    have mx:=md gx1 gx2
    have my:=md gy1 gy2
    have mz:=md gz1 gz2
    simp only[s6,l6,j9,d1,d2,d3,d4,hn,ho,w1,w2,i1,i2,Int.toNat_natCast,r1,r1',r2,rr,Fc7]
    rw[btD (m0 hj)]
    simp only[Nat.beq_refl,Bool.and_true,w6]
    repeat' (first | exact leaf _ _ _ _ (by assumption) (by assumption) (by assumption) | refine Nx.sl (fun _=>?_) (fun _=>?_))
   ·have hj1:j=1:=by omega
    subst hj1
    simp only[s6,l6,j9,d1,d2,d3,d4,hn,ho,w1,i1,Int.toNat_natCast,r1,r1',rr,Fc7]
    have f1:decide (((1:Nat):Int) > 1)=false:=rfl
    rw[btD (m0 hj)]
    simp only[f1,Ab0,Nat.beq_refl,Bool.and_true,w6]
    repeat' (first | exact leaf _ _ _ _ (by assumption) (by assumption) (by assumption) | refine Nx.sl (fun _=>?_) (fun _=>?_))
 ·obtain⟨at0,out⟩:=a
  obtain⟨ho,ha1,ha2,hjN,hB⟩:=ha
  simp only at ho ha1 ha2 hB
  have hj':j=N:=by omega
  subst hj'
  cases out with
  | nil=>simp only[List.length_nil] at ho;omega
  | cons o os =>
   refine⟨2,?_,rfl,at0,o::os,by rw[ho];rfl,ho,hB⟩
   show s6 Stp.next Stp.exit Stp.fail _ _=_
   simp only[s6]
   rw[bfD (by omega)]
theorem we1 (x:List Int):Rd (one (r1L tV)) (Fa8 x) Mp:=by
 obtain⟨v,j,e1,a1,b1,c1,d1⟩:=lb5 5 x 0 (by omega) (by omega) (by omega) (by omega)
 have hN:W (4+v)=(((4+v).toNat:Nat):Int):=by rw[na5 (by omega) (by omega)];omega
 obtain⟨idx,out,e2,e3,hB⟩:=Ne1 x (4+v).toNat (by omega) (by omega) j (by omega)
 unfold Fa8
 simp only[l6,j9,e1,hN,e2]
 have h4:4≤(4+v).toNat:=by omega
 have h8:(4+v).toNat≤8:=by omega
 generalize (4+v).toNat=N at *
 have s1:lsL tV N (fun k=>j6 (bL tV out) (0+k))=out:=by rw[← e3];exact ic2 tV out
 have s2:okL tV N (fun k=>j6 (bL tV out) (0+k))=true:=by rw[← e3];exact wc9 tV out
 have gf:jb3 out=true:=Ge7 out (by omega)
 rw[s1,s2,gf,of1 out (by omega)]
 simp only[Nat.beq_refl,Bool.and_true,w6,show Nat.beq 2 1=false from rfl,Ab0]
 refine Rd.sl (fun _=>?_) fun hnf=>Id7 e3.symm rfl (Ne0 (by omega) (by omega) hB (by simpa using hnf))
 have i0:inB 0 N=true:=f8 (j:=0) (by omega)
 have i1:inB 1 N=true:=f8 (j:=1) (by omega)
 have i2:inB 2 N=true:=f8 (j:=2) (by omega)
 have i3:inB 3 N=true:=f8 (j:=3) (by omega)
 have sp:∀ (v:V3) (x1 x2 x3:Int),S7 (tV.row v) 0 [i x1,i x2,i x3]=tV.row ⟨x1,x2,x3⟩:=fun _ _ _ _=>rfl
 have rl:∀ v:V3,Nat.ble (0+3) (len (tV.row v))=true:=fun _=>rfl
 have ck:∀ v:V3,ia5 [(CK.int .i64),(CK.int .i64),(CK.int .i64)] (g9 (tV.row v) 0)=true:=fun _=>rfl
 have gr:∀ (l:List V3) (k:Nat),l.length=N→k < 4→j6 (bL tV l) k=tV.row (gL tV l k):=fun l k hl hk=>Q3 tV (by omega)
 have bl:∀ (l:List V3) (k:Nat),l.length=N→k < 4→Nat.blt k (len (bL tV l))=true:=fun l k hl hk=>by rw[na4,Nat.blt_eq];omega
 have ls:∀ (l:List V3) (k:Nat) (v:V3),l.length=N→(l.set k v).length=N:=fun l k v hl=>by rw[List.length_set];exact hl
 rw[gr out 0 e3 (by omega),gr out 1 e3 (by omega)]
 simp only[sp,Ta3]
 rw[gr _ 2 (ls out 1 _ e3) (by omega)]
 simp only[sp,Ta3]
 rw[gr _ 3 (ls _ 2 _ (ls out 1 _ e3)) (by omega)]
 simp only[sp,Ta3,rl,ck,i0,i1,i2,i3,bl out 0 e3 (by omega),bl out 1 e3 (by omega),bl _ 2 (ls out 1 _ e3) (by omega),bl _ 3 (ls _ 2 _ (ls out 1 _ e3)) (by omega),Bool.and_true,w6]
 exact Id7 (by simp only[List.length_set];omega) rfl (qf3 (by omega) (by omega) hB)
theorem Yd9 (x:List Int):Mp (pa1 x):=(we1 x).p
end Go.Ev.Ce
namespace Go.Ev.Ce
open Go Go.Ev Go.Ev.L Go.Proofs
noncomputable def ra3 (x:List Int):V3×List V3:=match pa1 x with
 | []=>(⟨0,0,0⟩,[])
 | a::l=>(a,l)
noncomputable def vc4:Sum:=S5 (Fa1 tI) fun x=>.guard (vb8 x) (.guard (Nat.ble 1 (List.length (pa1 x))) (.ret (eL tV ((ra3 x).1::(ra3 x).2),[])))
theorem Ne2 {α:Type} {c:Cod α} {k k':α→DT (b7×List b8)} (h:∀ a r,(k a).run=some r→(k' a).run=some r) {args:List b7} {blks:List b8} {r:b7×List b8} (hr:(S5 c k args blks).run=some r):(S5 c k' args blks).run=some r:=by
 unfold S5 at hr ⊢
 split at hr
 ·rename_i x
  cases hd:c.dec x with
  | none=>rw[hd] at hr;cases hr
  | some a =>
   rw[hd] at hr
   obtain⟨h1,h2⟩:=DT.run_guard_some (show (DT.guard (c.grd x) (k a)).run=some r from hr)
   show (DT.guard (c.grd x) (k' a)).run=some r
   rw[h1]
   exact h a r h2
 ·cases hr
theorem od9:g8 prog G 46 vc4:=fun args blks r out he=>td2 args blks r out (Ne2 (fun x r hr=>by
 obtain⟨h1,hr⟩:=DT.run_guard_some hr
 obtain⟨h2,hr⟩:=DT.run_guard_some hr
 rw[h1]
 have e:(ra3 x).1::(ra3 x).2=pa1 x:=by
  unfold ra3
  cases h:pa1 x with
  | nil=>rw[h] at h2;cases h2
  | cons a l=>rfl
 rw[e] at hr
 exact hr) he)
end Go.Ev.Ce
section
namespace Go.Ev.Ce
open Go Go.Ev Go.Ev.L Go.Proofs
set_option maxRecDepth 100000
noncomputable def Ga9:List (Nat×Sum):=[(13,lc8),(46,vc4),(80,bc3),(55,mc8),(18,qa8),(20,Fa0),(25,Hc1),(26,yc4),(28,yc5)]
theorem tc0:i4 prog G Ga9:=⟨Xc4,od9,vc1,Zc4,ta2,Fa6,ud5,Tc3,Tc4,trivial⟩
structure na0 where
 bs3:Bool
 Uc5:List Pln
 hf3:List V3
 Mb4:List Pt
 pd3:List V3
 cf0:Int
structure E4 where
 Zd4:Int
noncomputable def mc9 (p:na0) (s:E4):St:=⟨(ra 3 ((b p.bs3)::(.unk::((eL tP p.Uc5)::(.unk::((eL tV p.hf3)::(.unk::((eL tX p.Mb4)::(ra 45 ((eL tV p.pd3)::((i p.cf0)::((i s.Zd4)::(ra 37 []))))))))))))),[]⟩
noncomputable def da7 {α:Type} (k:E4→α) (e:Nat→α) (z:α) (p:na0) (s:E4):α:=let t1:=(jb4 (rt tP p.Uc5) (gL tV p.pd3 s.Zd4.toNat));(sl (decide (s.Zd4 < p.cf0)) (sl (inB s.Zd4 (List.length p.pd3)) (sl (okE tP p.Uc5) (sl (jb5 (rt tP p.Uc5) (gL tV p.pd3 s.Zd4.toNat)) (sl (!t1) (e 1) (k ⟨(W (s.Zd4+1))⟩)) z) z) z) (e 2))
noncomputable def P5 (p:na0) (s:E4):Stp E4:=da7 .next .exit .fail p s
noncomputable def Sa7:Lo na0 E4:=⟨En Ga9,0,Te9,[1,1,1,1,1,1,1,1,0,1,4,4],[3,5,7,9,55,56,57],.p,[⟨(ru2 3 ((.s (.o .bool))::((.s (.o .unk))::((.s (.c 4 (nL tP)))::((.s (.o .unk))::((.s (.c 3 (nL tV)))::((.s (.o .unk))::((.s (.c 4 (nL tX)))::(ru2 45 ((.s (.c 3 (nL tV)))::((.s (.o (.int .i64)))::((.s (.o (.int .i64)))::(ru2 37 []))))))))))))),[],fun a H=>(⟨(toB (slT a 3)),(rL tP (slT a 5)),(rL tV (slT a 7)),(rL tX (slT a 9)),(rL tV (slT a 55)),(toI (slT a 56))⟩,⟨(toI (slT a 57))⟩)⟩],P5,[(none,fun p s=>⟨[(b false)],[]⟩),(some 0,fun p s=>⟨(ra 3 ((b p.bs3)::(.unk::((eL tP p.Uc5)::(.unk::((eL tV p.hf3)::(.unk::((eL tX p.Mb4)::(ra 45 ((eL tV p.pd3)::((i p.cf0)::((i s.Zd4)::((b (decide (s.Zd4 < p.cf0)))::(ra 36 [])))))))))))))),[]⟩)],mc9⟩
theorem nc0:Sa7.Ok:=Lo.ok [] (by kernel_rfl) .nil rfl (.cons (fun a H=>by kernel_rfl) .nil) fun p s=>(.of @da7 (fun F _ _ _ _ _=>by unfold da7;(repeat' apply j5 (f:=F))<;>rfl) (by kernel_rfl))
structure na1 where
 bs3:Bool
 Mb4:List Pt
 ub1:List V3
 Zd5:Int
 Rc5:Int
 zc7:List Pt
 cf1:Int
 e8:Int
 c7:Int
 f0:Int
structure L3 where
 cf2:Bool
 pd4:Int
noncomputable def nc1 (p:na1) (s:L3):St:=⟨(ra 3 ((b p.bs3)::(ra 5 ((eL tX p.Mb4)::(ra 3 ((.ptr 0 0 0 0)::((b s.cf2)::(ra 51 ((eL tV p.ub1)::((i p.Zd5)::((i p.Rc5)::(ra 3 ((eL tX p.zc7)::((i p.cf1)::((i s.pd4)::(ra 20 [])))))))))))))))),[⟨0,3,[[(i p.e8),(i p.c7),(i p.f0)]],true,false,0⟩]⟩
noncomputable def da8 {α:Type} (k:L3→α) (e:Nat→α) (z:α) (p:na1) (s:L3):α:=(sl (decide (s.pd4 < p.cf1)) (sl (inB s.pd4 (List.length p.zc7)) (sl s.cf2 (k ⟨true,(W (s.pd4+1))⟩) (k ⟨(((gL tX p.zc7 s.pd4.toNat).px==p.e8)&&(((gL tX p.zc7 s.pd4.toNat).py==p.c7)&&(((gL tX p.zc7 s.pd4.toNat).pz==p.f0)&&(((gL tX p.zc7 s.pd4.toNat).pw==1)&&true)))),(W (s.pd4+1))⟩)) z) (e 1))
noncomputable def W9 (p:na1) (s:L3):Stp L3:=da8 .next .exit .fail p s
noncomputable def Sa8:Lo na1 L3:=⟨En Ga9,0,Te9,[1,1,1,1,1,1,1,1,1,0,1,4,4,1,1,0,4,1,1,0,1,4,4],[3,9,13,14,66,67,68,72,73,74],.p,[⟨(ru2 3 ((.s (.o .bool))::(ru2 5 ((.s (.c 4 (nL tX)))::(ru2 3 ((.s (.o (.ptr 0 0 0 0)))::((.s (.o .bool))::(ru2 51 ((.s (.c 3 (nL tV)))::((.s (.o (.int .i64)))::((.s (.o (.int .i64)))::(ru2 3 ((.s (.c 4 (nL tX)))::((.s (.o (.int .i64)))::((.s (.o (.int .i64)))::(ru2 20 [])))))))))))))))),[⟨0,3,true,(some [[(.o (.int .i64)),(.o (.int .i64)),(.o (.int .i64))]])⟩],fun a H=>(⟨(toB (slT a 3)),(rL tX (slT a 9)),(rL tV (slT a 66)),(toI (slT a 67)),(toI (slT a 68)),(rL tX (slT a 72)),(toI (slT a 73)),(toI (slT (rwT (elT H 0) 0) 0)),(toI (slT (rwT (elT H 0) 0) 1)),(toI (slT (rwT (elT H 0) 0) 2))⟩,⟨(toB (slT a 14)),(toI (slT a 74))⟩)⟩],W9,[(some 4,fun p s=>⟨(ra 3 ((b p.bs3)::(ra 5 ((eL tX p.Mb4)::(ra 3 ((.ptr 0 0 0 0)::((b s.cf2)::(ra 51 ((eL tV p.ub1)::((i p.Zd5)::((i p.Rc5)::(ra 3 ((eL tX p.zc7)::((i p.cf1)::((i s.pd4)::((b (decide (s.pd4 < p.cf1)))::(ra 19 []))))))))))))))))),[⟨0,3,[[(i p.e8),(i p.c7),(i p.f0)]],true,false,0⟩]⟩)],nc1⟩
theorem nc2:Sa8.Ok:=Lo.ok [] (by kernel_rfl) .nil rfl (.cons (fun a H=>by kernel_rfl) .nil) fun p s=>(.of @da8 (fun F _ _ _ _ _=>by unfold da8;(repeat' apply j5 (f:=F))<;>rfl) (by kernel_rfl))
structure na2 where
 bs3:Bool
 Zd5:Int
structure L4 where
 Mb4:List Pt
 ub1:List V3
 Rc5:Int
noncomputable def nc3 (p:na2) (s:L4):St:=⟨(ra 3 ((b p.bs3)::(ra 5 ((eL tX s.Mb4)::(ra 56 ((eL tV s.ub1)::((i p.Zd5)::((i s.Rc5)::(ra 26 []))))))))),[]⟩
noncomputable def da9 {α:Type} (k:L4→α) (e:Nat→α) (z:α) (p:na2) (s:L4):α:=let t1:=(lp (W9 (⟨p.bs3,(rt tX s.Mb4),(rt tV s.ub1),p.Zd5,s.Rc5,(rt tX s.Mb4),(↑(List.length s.Mb4):Int),(gL tV s.ub1 s.Rc5.toNat).x,(gL tV s.ub1 s.Rc5.toNat).y,(gL tV s.ub1 s.Rc5.toNat).z⟩:na1)) (⟨false,0⟩:L3));(sl (decide (s.Rc5 < p.Zd5)) (sl (inB s.Rc5 (List.length s.ub1)) (sl ((cnE tX s.Mb4)&&((cnE tV s.ub1)&&((cnE tX s.Mb4)&&true))) (sl (Nat.beq t1.1 1) (sl (!t1.2.cf2) (e 1) (k ⟨(rt tX s.Mb4),(rt tV s.ub1),(W (s.Rc5+1))⟩)) z) z) z) (e 2))
noncomputable def P6 (p:na2) (s:L4):Stp L4:=da9 .next .exit .fail p s
noncomputable def Sa9:Lo na2 L4:=⟨En Ga9,0,Te9,[1,1,1,1,1,1,1,1,1,0,1,4,4],[3,9,66,67,68],(.s .p (.s .p (.s (.b (.s .p (.s .p (.s (.s .p (.b (.u Sa8.ls))) .p)))) .p))),[⟨(ru2 3 ((.s (.o .bool))::(ru2 5 ((.s (.c 4 (nL tX)))::(ru2 56 ((.s (.c 3 (nL tV)))::((.s (.o (.int .i64)))::((.s (.o (.int .i64)))::(ru2 26 []))))))))),[],fun a H=>(⟨(toB (slT a 3)),(toI (slT a 67))⟩,⟨(rL tX (slT a 9)),(rL tV (slT a 66)),(toI (slT a 68))⟩)⟩],P6,[(none,fun p s=>⟨[(b false)],[]⟩),(some 2,fun p s=>⟨(ra 3 ((b p.bs3)::(ra 5 ((eL tX s.Mb4)::(ra 56 ((eL tV s.ub1)::((i p.Zd5)::((i s.Rc5)::((b (decide (s.Rc5 < p.Zd5)))::(ra 25 [])))))))))),[]⟩)],nc3⟩
theorem nc4:Sa9.Ok:=Lo.ok [Sa8.pr] (by kernel_rfl) (.cons nc2 .nil) rfl (.cons (fun a H=>by kernel_rfl) .nil) fun p s=>(.of @da9 (fun F _ _ _ _ _=>by unfold da9;(repeat' apply j5 (f:=F))<;>rfl) (by kernel_rfl))
noncomputable def za5 (x:List Int):Option (b7×List b8):=let t1:=eb1;let t2:=(ra3 (rt tI x));let t3:=(yb1 (hC tV (fun k=>(tV).row (gL tV (t2.1::t2.2) k)),tC tV (List.length t2.2) (fun k=>(tV).row (gL tV (t2.1::t2.2) k))));let t4:=(Gb2 (hC tV (fun k=>(tV).row (gL tV (t2.1::t2.2) k)),tC tV (List.length t2.2) (fun k=>(tV).row (gL tV (t2.1::t2.2) k))));let t5:=(T0 (rt tP t3.1));let t6:=(ga9 (rt tP t3.1));let t7:=(ac9 (rt tP t3.1));let t8:=(Cb3 (rt tP t7) (rt tP t3.1));let t9:=(lp (P5 (⟨t1,(rt tP t3.1),(rt tV t4.1),(rt tX t5),(rt tV (t2.1::t2.2)),(↑(List.length t2.2+1):Int)⟩:na0)) (⟨0⟩:E4));let t10:=(lp (P6 (⟨t1,(↑(List.length (rt tV t4.1)):Int)⟩:na2)) (⟨(rt tX (rt tX t5)),(rt tV (rt tV t4.1)),0⟩:L4));(sl eb2 (sl (okE tI x) (sl (vb8 (rt tI x)) (sl (Nat.ble 1 (List.length (pa1 (rt tI x)))) (sl (okL tV (List.length t2.2+1) (fun k=>(tV).row (gL tV (t2.1::t2.2) k))) (sl (yb2 (hC tV (fun k=>(tV).row (gL tV (t2.1::t2.2) k)),tC tV (List.length t2.2) (fun k=>(tV).row (gL tV (t2.1::t2.2) k)))) (sl (okL tV (List.length t2.2+1) (fun k=>(tV).row (gL tV (t2.1::t2.2) k))) (sl (Gb3 (hC tV (fun k=>(tV).row (gL tV (t2.1::t2.2) k)),tC tV (List.length t2.2) (fun k=>(tV).row (gL tV (t2.1::t2.2) k)))) (sl (t3.2 != 0) (some ((b false),[])) (sl (t4.2 != 0) (some ((b false),[])) (sl (okE tP t3.1) (sl (T1 (rt tP t3.1)) (sl ((↑(List.length t5):Int) != (↑(List.length t4.1):Int)) (some ((b false),[])) (sl (okE tP t3.1) (sl (ha0 (rt tP t3.1)) (sl (!t6) (some ((b false),[])) (sl (okE tP t3.1) (sl (bc0 (rt tP t3.1)) (sl (okE tP t7) (sl (okE tP t3.1) (sl (Cb4 (rt tP t7) (rt tP t3.1)) (sl (!t8) (some ((b false),[])) (sl ((cnE tP t3.1)&&((cnE tV t4.1)&&((cnE tX t5)&&((cnE tV (t2.1::t2.2))&&true)))) (sl (Nat.beq t9.1 1) (some ((b false),[])) (sl (Nat.beq t9.1 2) (sl ((cnE tX (rt tX t5))&&((cnE tV (rt tV t4.1))&&true)) (sl (Nat.beq t10.1 1) (some ((b false),[])) (sl (Nat.beq t10.1 2) (some ((b t1),[])) none)) none) none)) none)) none) none) none) none) none)) none) none)) none) none))) none) none) none) none) none) none) none) none)
noncomputable def La3 (x:List Int):Bool:=aa3 (one r1B) (za5 x)
noncomputable def La4 (x:List Int):Bool:=okO (one r1B) (za5 x)
noncomputable def Jc1:Sum:=S5 (Fa1 tI) (fun x=>.guard (La4 x) (.ret ((one r1B).enc (La3 x),[])))
theorem zc5:g8 prog G 12 Jc1:=Pa9 (bd b12 tc0) (one r1B) (o:=za5) fun x=>Ma1 (.s .p (.s .p (.s .p (.s .p (.s .p (.s .p (.s .p (.s .p (.s (.s .p (.b (.u Sa7.ls))) (.s (.s .p (.b (.u Sa9.ls))) .p)))))))))) [Sa7.pr,Sa9.pr] (by kernel_rfl) (.cons nc0 (.cons nc4 .nil)) (by kernel_rfl)
end Go.Ev.Ce
end
namespace Go.Ev.Ce
open Go Go.Ev Go.Ev.L Go.Proofs
theorem Bf7 {r:List Pln} {p q:Pln} {out:List Pt} {s:Pln} (h:out.Nodup):(Za2 r p q out s).Nodup:=by
 unfold Za2
 split
 ·rename_i hc
  simp only[Bool.and_eq_true,Bool.not_eq_true'] at hc
  rw[List.nodup_append]
  refine⟨h,by simp,fun a ha b hb e=>?_⟩
  rw[List.mem_singleton] at hb
  have h1:=hc.2.1
  unfold rc9 at h1
  have h2:=List.any_eq_false.1 h1 a ha
  rw[e,hb] at h2
  exact h2 (by simp[eqX])
 ·exact h
theorem gf8 {r:List Pln} {p q:Pln}:∀ {l:List Pln} {out:List Pt},out.Nodup→(Yb4 r p q l out).Nodup
 | [],_,h=>h
 | _::l,_,h=>gf8 (l:=l) (Bf7 h)
theorem gf9 {r:List Pln} {p:Pln}:∀ {l:List Pln} {out:List Pt},out.Nodup→(Hb9 r p l out).Nodup
 | [],_,h=>h
 | _::l,_,h=>gf9 (l:=l) (gf8 h)
theorem hf0 {r:List Pln}:∀ {l:List Pln} {out:List Pt},out.Nodup→(Mc9 r l out).Nodup
 | [],_,h=>h
 | _::l,_,h=>hf0 (l:=l) (gf9 h)
theorem Lf7 (r:List Pln):(cor r).Nodup:=hf0 List.nodup_nil
theorem bf1 {p q s:Pln} (h:(mpt p q s).2=true) (hw:0 < (mpt p q s).1.pw) {v:V3} (he:Eqv (mpt p q s).1 (ipt v)):(mpt p q s).1=ipt v:=by
 obtain⟨h0,k,hk,e1,e2,e3,e4⟩:=Ie9 h
 obtain⟨f1,f2,f3⟩:=he
 have f1:(mpt p q s).1.px*1=v.x*(mpt p q s).1.pw:=f1
 have f2:(mpt p q s).1.py*1=v.y*(mpt p q s).1.pw:=f2
 have f3:(mpt p q s).1.pz*1=v.z*(mpt p q s).1.pw:=f3
 have m1:(mv p q s).x=v.x*mw p q s:=by rw[← e1,← e4];grind
 have m2:(mv p q s).y=v.y*mw p q s:=by rw[← e2,← e4];grind
 have m3:(mv p q s).z=v.z*mw p q s:=by rw[← e3,← e4];grind
 have hg:gc (mv p q s) (mw p q s)=(mw p q s).natAbs:=by
  unfold gc
  rw[m1,m2,m3]
  simp only[Int.natAbs_mul]
  congr 1
  refine Nat.dvd_antisymm (Nat.dvd_trans (Nat.gcd_dvd_right _ _) (Nat.gcd_dvd_right _ _)) ?_
  exact Nat.dvd_gcd (Nat.dvd_gcd (Nat.dvd_mul_left _ _) (Nat.dvd_mul_left _ _)) (Nat.dvd_gcd (Nat.dvd_mul_left _ _) (Nat.dvd_refl _))
 have hpw:(mpt p q s).1.pw=1:=by
  have e:(mpt p q s).1.pw=if mw p q s < 0 then Int.tdiv (-(mw p q s)) (gc (mv p q s) (mw p q s)) else Int.tdiv (mw p q s) (gc (mv p q s) (mw p q s)):=by
   unfold mpt
   rw[if_neg h0]
   split<;>rfl
  rw[e,hg]
  split
  ·rename_i hlt
   rw[show ((mw p q s).natAbs:Int)=-mw p q s by omega]
   exact Int.tdiv_self (by omega)
  ·rename_i hge
   rw[show ((mw p q s).natAbs:Int)=mw p q s by omega]
   exact Int.tdiv_self h0
 rw[hpw] at f1 f2 f3
 cases hm:(mpt p q s).1 with
 | mk a c d w =>
  rw[hm] at f1 f2 f3 hpw
  simp only at f1 f2 f3 hpw
  unfold ipt
  rw[hpw,show a=v.x by omega,show c=v.y by omega,show d=v.z by omega]
theorem oe6 {r:List Pln} (hb:Bds r):∀ x∈cor r,∀ v,Eqv x (ipt v)→x=ipt v:=Id6 fun p hp q hq s hs h _ v he=>bf1 h (Hd8 (hb p hp) (hb q hq) (hb s hs) h).1 he
theorem Bf8 {l:List V3} (hl:l.all inV=true):∀ p∈ws,∀ v∈l,dot p.n v≤p.b:=fun p hp v hv=>by
 have:=Ke2 (List.all_eq_true.1 hl v hv) p hp
 simp only[rmZ,ipt,dot] at this ⊢
 omega
theorem Ld9 {l:List V3} (h:Mp l) (hg:Oc6 (F0 l)) (x:Pt):x∈pts (F0 l)↔∃ v∈Jc0 (F0 l) l,x=ipt v:=by
 have hl:=h.inV
 have h4:=Kd5 h.nf
 have hin:=List.all_eq_true.1 hl
 have hfacs:=ne5 hl fun p hp=>(Lb7 hl p).2 hp
 have hall:∀ p∈F0 l++ws,∀ v∈l,dot p.n v≤p.b:=fun p hp=>by
  rcases List.mem_append.1 hp with hp | hp
  ·exact ((Lb7 hl p).1 hp).hd
  ·exact Bf8 hl p hp
 rw[hg.pts]
 unfold Jc0
 constructor
 ·intro hx
  obtain⟨v,hv,he,hs⟩:=Ye5 h4 hfacs hall (Je2 hg.bds x hx)
  exact⟨v,List.mem_filter.2 ⟨(qc9 l v).2 hv,(Me9 hl hv).2 hs⟩,oe6 hg.bds x hx v he⟩
 ·rintro⟨v,hv,rfl⟩
  obtain⟨h1,h2⟩:=List.mem_filter.1 hv
  have hv:=(qc9 l v).1 h1
  obtain⟨p,q,s,hp,hq,hs,hw,e1,e2,e3⟩:=(Me9 hl hv).1 h2
  have hz:∀ a:Pln,rmZ a (ipt v)=a.b - dot a.n v:=fun a=>by simp only[rmZ,ipt,dot];omega
  have hcn:Cn (F0 l++ws) (ipt v):=⟨⟨by show (0:Int) < 1;omega,fun a ha=>by rw[hz];have:=hall a ha v hv;omega⟩,p,q,s,List.mem_append_left _ hp,List.mem_append_left _ hq,List.mem_append_left _ hs,hw,by rw[hz];omega,by rw[hz];omega,by rw[hz];omega⟩
  obtain⟨x,hx,he⟩:=fe3 hg.bds hcn
  have:=oe6 hg.bds x hx v he
  exact this ▸ hx
theorem Zd0 {l:List V3} (h:Mp l) (hg:Oc6 (F0 l)):(pts (F0 l)).length=(Jc0 (F0 l) l).length:=by
 have n1:(pts (F0 l)).Nodup:=by rw[hg.pts];exact Lf7 _
 have n2:(Jc0 (F0 l) l).Nodup:=(Bd6 l).filter _
 have n3:((Jc0 (F0 l) l).map ipt).Nodup:=List.Pairwise.map ipt (fun a c hne e=>hne (by
  unfold ipt at e
  simp only[Pt.mk.injEq] at e
  exact V3.ext' e.1 e.2.1 e.2.2.1)) n2
 have s1:=List.Nodup.length_le_of_subset n1 (l₂:=(Jc0 (F0 l) l).map ipt) fun x hx=>by
  obtain⟨v,hv,rfl⟩:=(Ld9 h hg x).1 hx
  exact List.mem_map.2 ⟨v,hv,rfl⟩
 have s2:=List.Nodup.length_le_of_subset n3 (l₂:=pts (F0 l)) fun x hx=>by
  obtain⟨v,hv,rfl⟩:=List.mem_map.1 hx
  exact (Ld9 h hg _).2 ⟨v,hv,rfl⟩
 rw[List.length_map] at s1 s2
 omega
theorem bf2 {l:List V3} (h:Mp l) (hg:Oc6 (F0 l)):lean (F0 l)=F0 l:=by
 have hl:=h.inV
 have h4:=Kd5 h.nf
 unfold lean
 rw[if_pos hg.ful]
 refine Oc3 (nf7 _) (Ke7 l) fun p=>?_
 rw[nf6,(Zb8 _).mem_iff,List.mem_filter]
 refine⟨fun h=>h.1,fun hp=>⟨hp,?_⟩⟩
 have hF:=(Lb7 hl p).1 hp
 obtain⟨u,w,x,hu,hw,hx,h3,t1,t2,t3⟩:=hF.on
 cases hk:keep (pts (F0 l)) p with
 | true=>rfl
 | false =>
  exfalso
  have hon:onc (pts (F0 l)) p≤2:=by
   unfold keep at hk
   rw[Bool.not_eq_false',decide_eq_true_eq] at hk
   omega
  rw[hg.pts] at hon
  have har:p∈F0 l++ws:=List.mem_append_left _ hp
  have hb:=hg.bds
  refine Bf2 (l:=l) (Je3 (F0 l)) hg.f hp (Hc4 hF.ok) (fun q hq=>((Lb7 hl q).1 hq).hd) (fun q hq v hv=>?_) hu hw hx t1 t2 t3 (fun q hq q1 q2 q3=>Ye9 hl h4 hF ((Lb7 hl q).1 hq) hu hw hx h3 t1 t2 t3 q1 q2 q3) ((cor (F0 l++ws)).filter fun x=>rm p x==0) ?_ ?_ ?_
  ·obtain⟨⟨a1,a2⟩,⟨a3,a4⟩,a5,a6⟩:=h.bd v hv
   simp only[ws,List.mem_cons,List.not_mem_nil,or_false] at hq
   rcases hq with rfl | rfl | rfl | rfl | rfl | rfl<;>simp only[dot]<;>omega
  ·rw[← List.countP_eq_length_filter];exact hon
  ·intro v hv
   obtain⟨h1,h2⟩:=List.mem_filter.1 hv
   have hx:=qc1 hb v h1
   rw[Wd3 (hb p har) hx] at h2
   exact⟨by simpa using h2,hx.w1⟩
  ·intro v hv h0
   obtain⟨x,hx,he⟩:=fe3 hb hv
   have hok:=qc1 hb x hx
   refine⟨x,List.mem_filter.2 ⟨hx,?_⟩,he⟩
   rw[Wd3 (hb p har) hok]
   have h1:=he.rm p
   rw[h0,Int.zero_mul] at h1
   have:=(Int.mul_eq_zero.1 h1).resolve_right (by have:=hv.w;omega)
   simpa using this
theorem qf4 {l:List V3} (h:Mp l) (hg:Oc6 (F0 l)) {v:V3} (hv:v∈l):has (F0 l) v=true:=by
 have hl:=h.inV
 have hin:=List.all_eq_true.1 hl v hv
 unfold has
 rw[hg.chk,hin,show (⟨v.x,v.y,v.z,1⟩:Pt)=ipt v from rfl,(Xe8 (fun p hp=>Yb3 (hg.v p hp)) (of2 hin)).2 fun p hp=>by
  have:=((Lb7 hl p).1 hp).hd v hv
  simp only[rmZ,ipt,dot] at this ⊢
  omega]
 rfl
theorem qf5 (bs:Bool) (c:List Pln) (E:List V3) (X:List Pt) (l:List V3) (hl:l.length≤8) (hc:c.length≤1000000) (hh:∀ v∈l,has c v=true):(lp (P5 ⟨bs,c,E,X,l,(l.length:Int)⟩) ⟨0⟩).1=2:=by
 have h:=fd9 (step:=P5 ⟨bs,c,E,X,l,(l.length:Int)⟩) (mk:=fun j=>(⟨(j:Int)⟩:E4)) (c:=fun v=>!has c v) (u:=1) (fin:=2) tV l (by omega)
  (fun j hj=>by
   simp only[P5,da7,Int.toNat_natCast,l6,sa1,gf1 (show c.length≤1000000000 by omega),gf2 (show c.length≤1000000000 by omega),q7 hj (show l.length≤4611686018427387904 by omega)]
   rw[btD (m0 hj),bt (f8 hj),w6,w6])
  (by simp only[P5,da7];rw[bfD (A7 (Nat.lt_irrefl _))]) 0 (Nat.zero_le _)
 rw[List.drop_zero] at h
 rw[show (⟨0⟩:E4)=⟨((0:Nat):Int)⟩ from rfl,h,if_neg]
 intro h'
 obtain⟨v,hv,hn⟩:=List.any_eq_true.1 h'
 rw[hh v hv] at hn
 cases hn
theorem qf6 (bs:Bool) (X:List Pt) (E:List V3) (n j:Int) (v:V3) (hX:X.length≤8000000):∃ k,lp (W9 ⟨bs,X,E,n,j,X,(X.length:Int),v.x,v.y,v.z⟩) ⟨false,0⟩=(1,⟨rc9 X (ipt v),k⟩):=by
 have h:=Cc9 (step:=W9 ⟨bs,X,E,n,j,X,(X.length:Int),v.x,v.y,v.z⟩) (mk:=fun j (a:Bool)=>(⟨a,(j:Int)⟩:L3)) (f:=fun a y=>a||eqX (ipt v) y) (fin:=1) tX X (fun _ _=>True) (by omega)
  (fun j a hj _=>by
   refine⟨?_,trivial⟩
   simp only[W9,da8,Int.toNat_natCast,q7 hj (show X.length≤4611686018427387904 by omega)]
   rw[btD (m0 hj),bt (f8 hj)]
   cases a<;>rfl)
  (fun a _=>by simp only[W9,da8];rw[bfD (A7 (Nat.lt_irrefl _))]) 0 (Nat.zero_le _) false trivial
 have h:=h.1
 rw[List.drop_zero] at h
 have e:∀ (l:List Pt) (a:Bool),l.foldl (fun a y=>a||eqX (ipt v) y) a=(a||rc9 l (ipt v)):=by
  intro l
  induction l with
  | nil=>intro a;show a=(a||false);rw[Bool.or_false]
  | cons y l ih =>
   intro a
   rw[List.foldl_cons,ih]
   unfold rc9
   rw[List.any_cons,Bool.or_assoc]
 rw[e,Bool.false_or] at h
 exact⟨_,h⟩
theorem qf7 (bs:Bool) (X:List Pt) (E:List V3) (hX:X.length≤8000000) (hE:E.length≤1000000) (hh:∀ v∈E,rc9 X (ipt v)=true):(lp (P6 ⟨bs,(E.length:Int)⟩) ⟨X,E,0⟩).1=2:=by
 obtain⟨j,h⟩:=Oc5 (step:=P6 ⟨bs,(E.length:Int)⟩) (mk:=fun j=>(⟨X,E,(j:Int)⟩:L4)) E.length (fun _=>false) 1 2 (by omega)
  (fun j hj=>by
   obtain⟨k,h1⟩:=qf6 bs X E (E.length:Int) (j:Int) (gL tV E j) hX
   simp only[P6,da9,l6,j9,Int.toNat_natCast,q7 hj (show E.length≤4611686018427387904 by omega)]
   rw[btD (m0 hj),bt (f8 hj),h1,hh _ (Ab1 tV hj)]
   rfl)
  (by simp only[P6,da9];rw[bfD (A7 (Nat.lt_irrefl _))])
 have h:lp (P6 ⟨bs,(E.length:Int)⟩) ⟨X,E,0⟩=_:=h
 rw[h]
 simp
theorem Zd1 (x:List Int):za5 x=some (b true,[]):=by
 have hmp:=Yd9 x
 have gp:=Ge8 x
 unfold za5
 have hne:∃ a l,pa1 x=a::l:=by
  cases h:pa1 x with
  | nil=>have:=hmp.l4;rw[h,List.length_nil] at this;omega
  | cons a l=>exact⟨a,l,rfl⟩
 obtain⟨a,l,hL⟩:=hne
 have hpc:ra3 x=(a,l):=by unfold ra3;rw[hL]
 rw[hL] at hmp
 have h8:=hmp.l8
 have hl:=hmp.inV
 have hf:=hmp.nf
 have h4:=Kd5 hf
 have hll:l.length≤1000000:=by simp only[List.length_cons] at h8;omega
 have ge1:Ke1 (a::l)=0:=by unfold Ke1;rw[if_neg (by omega),hl,if_pos rfl,if_pos hf]
 have hg:=ve1 ge1 h8
 have hcl:=hg.l
 have hok:okL tV (l.length+1) (fun k=>tV.row (gL tV (a::l) k))=true:=hb9 tV (f:=fun k=>gL tV (a::l) k) fun _ _=>rfl
 have elen:=Zd0 hmp hg
 have hX:=Fc3 (F0 (a::l))
 have hE:(Jc0 (F0 (a::l)) (a::l)).length≤1000000:=by
  have h1:=List.length_filter_le (kv (F0 (a::l))) (dis (a::l))
  have h2:=oe0 (a::l)
  unfold Jc0
  omega
 have e9:=qf5 true (F0 (a::l)) (Jc0 (F0 (a::l)) (a::l)) (pts (F0 (a::l))) (a::l) h8 (by omega) fun v hv=>qf4 hmp hg hv
 have e10:=qf7 true (pts (F0 (a::l))) (Jc0 (F0 (a::l)) (a::l)) hX hE fun v hv=>(Td0 _ _).2 ((Ld9 hmp hg _).2 ⟨v,hv,rfl⟩)
 have eA:ac9 (F0 (a::l))=F0 (a::l):=bf2 hmp hg
 have gA:bc0 (F0 (a::l))=true:=decide_eq_true (by omega)
 have e9:(lp (P5 ⟨true,F0 (a::l),Jc0 (F0 (a::l)) (a::l),pts (F0 (a::l)),a::l,((l.length+1:Nat):Int)⟩) ⟨0⟩).1=2:=e9
 have hlen:(((pts (F0 (a::l))).length:Int) != ((Jc0 (F0 (a::l)) (a::l)).length:Int))=false:=by rw[elen];simp
 simp only[l6,sa1,j9,yd5,yd6,He7,He8,gp,hpc,hL,hok,Yd7 a l (by omega) hl h4,Yd8 a l (by omega) hl h4,ge9 a l h8 hl hf,he0 a l h8 hl hf,
  ob4 (show (F0 (a::l)).length≤1000000000 by omega),ob5 (show (F0 (a::l)).length≤1000000000 by omega),kc7 (show (F0 (a::l)).length≤1000000000 by omega),kc8 (show (F0 (a::l)).length≤1000000000 by omega),hg.ful,eA,gA,Ge2 (F0 (a::l)) (by omega),Ge3 (F0 (a::l)) (by omega),e9,e10,hlen]
 rfl
theorem bf3 (x:List Int):La3 x=true:=by unfold La3;rw[Zd1];rfl
theorem bf4 (x:List Int):La4 x=true:=by unfold La4;rw[Zd1];rfl
end Go.Ev.Ce
namespace Go.Ev
open Go Go.ChangeShapes Go.RowKit
structure pd0 (w w':World):Prop where
 os:w'.os=w.os
 output:w'.output=w.output
 size:w.heap.size≤w'.heap.size
 block:∀ k,k < w.heap.size→w'.heap[k]?=w.heap[k]?
theorem pd0.kept {w w':World} (h:pd0 w w') (may:MemPlace→Prop):w.keptBut w' may:=by
 refine⟨h.os,h.output,fun i hi=>?_⟩
 rw[h.block i hi]
 cases w.heap[i]? with
 | none=>rfl
 | some o=>cases o<;>first | exact⟨rfl,rfl,rfl,fun _ _=>rfl⟩ | exact .inr ⟨rfl,rfl⟩ | rfl
theorem pd0.frozen {w w':World} (h:pd0 w w') (b off:Nat) (hb:b < w.heap.size):w'.frozen? ⟨b,off,none⟩=w.frozen? ⟨b,off,none⟩:=by
 simp only[World.frozen?,h.block b hb]
theorem pd0.cell {w w':World} (h:pd0 w w') (b off:Nat) (hb:b < w.heap.size):w'.cell? ⟨b,off,none⟩=w.cell? ⟨b,off,none⟩:=by
 simp only[World.cell?,h.block b hb]
theorem pd0.same {w w':World} (h:pd0 w w') (p:MemPlace) (hp:p.block < w.heap.size):w.sameAt w' p:=by
 cases p with
 | cell b off=>exact h.cell b off hp
 | map b=>exact h.block b hp
theorem nc5 {α β:Type} {f:α→Option β}:∀ {l:List α} {r:List β},l.mapM f=some r→r.length=l.length∧∀ (j:Nat) y,r[j]?=some y→∃ x,l[j]?=some x∧f x=some y
 | [],r,h=>by
  have:r=[]:=by simpa using h.symm
  subst this;simp
 | x::l,r,h=>by
  rw[List.mapM_cons] at h
  obtain⟨y,h1,h2⟩:=Option.bind_eq_some_iff.1 h
  obtain⟨r',h3,h4⟩:=Option.bind_eq_some_iff.1 h2
  have:r=y::r':=by simpa using h4.symm
  subst this
  obtain⟨g1,g2⟩:=nc5 h3
  refine⟨by simp[g1],fun j z hz=>?_⟩
  cases j with
  | zero=>simp at hz;subst hz;exact⟨x,rfl,h1⟩
  | succ j=>simpa using g2 j z (by simpa using hz)
section
variable {D:Type} {enc:TypeId×Value→D} {P:Program}
theorem vc5 {T : TypeId → Prop} (K : Kids P T) (hsz : ∀ {t e : TypeId}, T t → P.underlying t = some (.slice e) → 0 < P.cellsOf e) {w w' : World} {sp : Nat → Bool} (hs : pd0 w w') :
  ∀ {ts:List TypeId} {vs:List Value} {ds:List (DataW D)} {ps:List MemPlace},(∀ t∈ts,T t)→DataW.TrodAll enc P w 0 (fun _=>true) true ts vs ds ps→(∀ p∈ps,p.block < w.heap.size)→(∀ p∈ps,sp p.block=true)→DataW.TrodAll enc P w' 0 sp true ts vs ds ps
 | [],[],[],_,_,h,_,_=>h
 | t::ts,v::vs,d::ds,ps,ht,h,hlt,hsp=>by
  obtain⟨p,q,⟨fuel,h1⟩,h2,rfl⟩:=h
  refine⟨p,q,⟨fuel,?_⟩,vc5 K hsz hs (fun t h=>ht t (by simp[h])) h2 (fun x hx=>hlt x (by simp[hx])) (fun x hx=>hsp x (by simp[hx])),rfl⟩
  exact DataW.trod_stays K hsz (fun h=>by cases h) (ht t (by simp)) h1 (fun x hx=>hs.same x (hlt x (by simp at hx ⊢;exact .inl hx))) (fun x hx=>hsp x (by simp at hx ⊢;exact .inl hx))
 | [],_::_,_,_,_,h,_,_=>h.elim
 | [],[],_::_,_,_,h,_,_=>h.elim
 | _::_,[],_,_,_,h,_,_=>h.elim
 | _::_,_::_,[],_,_,h,_,_=>h.elim
theorem Ne3 {T : TypeId → Prop} (K : Kids P T) (hsz : ∀ {t e : TypeId}, T t → P.underlying t = some (.slice e) → 0 < P.cellsOf e) {f : Func} {s : ChangeSpec} {apart fresh handsOn again : Bool} {W W' : World} {args : Array Value} {ds gs : List (DataW D)} {before : List MemPlace} {tb : TypeId}
  (hT:∀ t∈f.params.toList,T t) (hW:DataW.Whole enc P f.params.toList s.vars apart W args.toList ds gs before) (hv:s.vars=[]) (hr:f.resultTypes=#[tb]) (hb:P.underlying tb=some .bool)
  (h1:(s.fn D ds).results=[.lit (.bool true)]) (h2:(s.fn D ds).args=ds) (h3:(s.fn D ds).vars=[]) (hs:pd0 W W') :
  s.post enc P f apart fresh handsOn again W args (.bool true) W':=by
 have hlt:=hW.lt
 obtain⟨pa,pv,hA,hV,hps,hz,hn⟩:=id hW
 rw[hv] at hV
 have hpv:gs=[]∧pv=[]:=by
  cases gs with
  | nil=>exact⟨rfl,hV⟩
  | cons=>exact hV.elim
 obtain⟨rfl,rfl⟩:=hpv
 rw[← List.append_nil ds] at h1 h3
 have h2:(s.fn D (ds++[])).args=ds:=by rw[List.append_nil];exact h2
 have hpa:before=pa:=by rw[hps];simp
 subst hpa
 have hagain:∀ sp:Nat→Bool,(∀ p∈before,sp p.block=true)→DataW.TrodAll enc P W' 0 sp true f.params.toList args.toList ds before:=fun sp h=>vc5 K hsz hs hT hA hlt h
 have hres:∀ (b:Nat) (sp:Nat→Bool) (hd:Bool),DataW.TrodAll enc P W' b sp hd f.resultTypes.toList ((Value.bool true).resultList f.resultTypes.size) [.lit (.bool true)] []:=fun b sp hd=>by
  rw[hr]
  exact⟨[],[],⟨1,by simp[DataW.trod,hb,Value.cells,Value.resultList]⟩,rfl,rfl⟩
 have hvars:∀ sp:Nat→Bool,DataW.TrodVars enc P W' sp s.vars ([]:List (DataW D)) []:=fun sp=>by rw[hv];exact rfl
 have hok:∀ (j:Nat) (t:TypeId) (r:Value),f.resultTypes[j]?=some t→((Value.bool true).resultList f.resultTypes.size)[j]?=some r→Value.okWide P W' .any 0 t r:=by
  rw[hr]
  intro j t r h4 h5
  cases j with
  | zero =>
   simp at h4
   subst h4
   have:r=.bool true:=by simpa [Value.resultList] using h5.symm
   subst this
   exact okWide_bool_mk hb _
  | succ j=>simp at h4
 have hag:DataW.TrodAll enc P W' 0 (fun _=>true) true (f.resultTypes.toList++f.params.toList) ((Value.bool true).resultList f.resultTypes.size++args.toList) (.lit (.bool true)::ds) before:=by
  have:=hagain (fun _=>true) (fun _ _=>rfl)
  rw[hr]
  exact⟨[],before,⟨1,by simp[DataW.trod,hb,Value.cells,Value.resultList]⟩,this,rfl⟩
 refine⟨ds,[],before,[],before,[],hW,?_,?_,?_,hs.kept _,fun _=>?_⟩
 ·rw[h1];exact hres _ _ _
 ·rw[h2];exact hagain _ fun p hp=>by simpa using hlt p hp
 ·rw[h3];exact hvars _
 ·refine⟨hok,.lit (.bool true)::ds,[],before,⟨before,[],hag,hvars _,by simp,?_,?_⟩,?_⟩
  ·intro b off hp
   rw[hs.frozen b off (hlt _ hp)]
   exact hz b off (by simpa using hp)
  ·intro ha;simpa using hn ha
  ·intro p hp _;exact hp
variable {w:World} {base:Nat} {spare:Nat→Bool} {held:Bool}
def he3 (w:World):Fz:=fun b o=>(w.cell? ⟨b,o,none⟩).isSome
theorem qf8 {fuel : Nat} {t : TypeId} {k : IntKind} {cs : List Value} {x : DataW D × List MemPlace} (ht : P.underlying t = some (.int k)) (h : DataW.trod enc P w base spare held fuel t cs = some x) :
  ∃ n,cs=[.int k n]∧(Lit.int k n).wf=true∧x.1=.lit (.int k n):=by
 cases fuel with
 | zero=>cases h
 | succ fuel =>
  match cs,h with
  | [],h=>simp[DataW.trod,ht] at h
  | [v],h =>
   cases v with
   | int k' n =>
    simp only[DataW.trod,ht] at h
    split at h
    ·rename_i hk
     obtain⟨rfl,hw⟩:=hk
     injection h with h;subst h
     exact⟨n,rfl,hw,rfl⟩
    ·cases h
   | _=>simp[DataW.trod,ht] at h
  | a::b::r,h=>simp[DataW.trod,ht] at h
theorem bf5 {fuel : Nat} {t : TypeId} {cs : List Value} {x : DataW D × List MemPlace} (ht : P.underlying t = some .bool) (h : DataW.trod enc P w base spare held fuel t cs = some x) :
  ∃ n,cs=[.bool n]∧x.1=.lit (.bool n):=by
 cases fuel with
 | zero=>cases h
 | succ fuel =>
  match cs,h with
  | [],h=>simp[DataW.trod,ht] at h
  | [v],h =>
   cases v with
   | bool n =>
    simp only[DataW.trod,ht] at h
    injection h with h;subst h
    exact⟨n,rfl,rfl⟩
   | _=>simp[DataW.trod,ht] at h
  | a::b::r,h=>simp[DataW.trod,ht] at h
theorem Ne4 {fuel : Nat} {t e : TypeId} {n : Nat} {cs : List Value} {x : DataW D × List MemPlace} (ht : P.underlying t = some (.array n e)) (h : DataW.trod enc P w base spare held fuel t cs = some x) :
  cs.length=P.cellsOf t∧∃ (fuel':Nat) (xs:List (DataW D×List MemPlace)),xs.length=n∧x.1=.agg (xs.map (·.1))∧∀ (j:Nat) y,xs[j]?=some y→DataW.trod enc P w base spare held fuel' e ((cs.drop (j*P.cellsOf e)).take (P.cellsOf e))=some y:=by
 cases fuel with
 | zero=>cases h
 | succ fuel =>
  unfold DataW.trod at h
  rw[ht] at h
  simp only at h
  split at h
  ·rename_i hl
   obtain⟨xs,h1,h2⟩:=Option.map_eq_some_iff.1 h
   have hx:=nc5 h1
   exact⟨hl,fuel,xs,by simpa using hx.1,by rw[← h2],fun j y hy=>by
    obtain⟨a,ha,hb⟩:=hx.2 j y hy
    have:j < n:=by
     have:=(List.getElem?_eq_some_iff.1 hy).1
     rw[hx.1] at this;simpa using this
    rw[List.getElem?_range this] at ha
    injection ha with ha
    subst ha
    exact hb⟩
  ·cases h
theorem we2 {fuel : Nat} {t : TypeId} {fs : Array Field} {cs : List Value} {x : DataW D × List MemPlace} (ht : P.underlying t = some (.struct fs)) (h : DataW.trod enc P w base spare held fuel t cs = some x) :
  cs.length=P.cellsOf t∧∃ (fuel':Nat) (xs:List (DataW D×List MemPlace)),xs.length=fs.size∧x.1=.agg (xs.map (·.1))∧∀ (j:Nat) f,fs[j]?=some f→∃ y,xs[j]?=some y∧DataW.trod enc P w base spare held fuel' f.type ((cs.drop f.offset).take (P.cellsOf f.type))=some y:=by
 cases fuel with
 | zero=>cases h
 | succ fuel =>
  unfold DataW.trod at h
  rw[ht] at h
  simp only at h
  split at h
  ·rename_i hl
   obtain⟨xs,h1,h2⟩:=Option.map_eq_some_iff.1 h
   have hx:=nc5 h1
   refine⟨hl,fuel,xs,by simpa using hx.1,by rw[← h2],fun j f hf=>?_⟩
   have hj:j < xs.length:=by
    rw[hx.1];simpa using (Array.getElem?_eq_some_iff.1 hf).1
   obtain⟨a,ha,hb⟩:=hx.2 j _ (List.getElem?_eq_getElem hj)
   have:a=f:=by
    have:fs.toList[j]?=some f:=by simpa using hf
    exact Option.some.inj (ha.symm.trans this)
   subst this
   exact⟨_,List.getElem?_eq_getElem hj,hb⟩
  ·cases h
theorem Ne5 {fuel : Nat} {t e : TypeId} {cs : List Value} {x : DataW D × List MemPlace} (ht : P.underlying t = some (.slice e)) (h : DataW.trod enc P w base spare held fuel t cs = some x) :
  cs=[.slice none 0 0]∨∃ (a:Addr) (n cap fuel':Nat),cs=[.slice (some a) n cap]∧n≤cap∧cap≤maxLen∧∀ j,j < n→∃ row y,w.cells? base (a.add (j*P.cellsOf e)) (P.cellsOf e)=some row∧DataW.trod enc P w base spare held fuel' e row=some y:=by
 cases fuel with
 | zero=>cases h
 | succ fuel =>
  match cs,h with
  | [],h=>simp[DataW.trod,ht] at h
  | [v],h =>
   cases v with
   | slice a len cap =>
    cases a with
    | none =>
     simp only[DataW.trod,ht] at h
     split at h<;>first | (rename_i e1;cases e1;done) | skip
     all_goals first | exact .inl rfl | (simp_all;done) | skip
    | some a =>
     refine .inr ?_
     simp only[DataW.trod,ht] at h
     split at h
     ·rename_i hc
      obtain⟨elems,h1,h2⟩:=Option.bind_eq_some_iff.1 h
      have hx:=nc5 h1
      refine⟨a,len,cap,fuel,rfl,hc.2.1,hc.2.2,fun j hj=>?_⟩
      have hj':j < elems.length:=by rw[hx.1];simpa using hj
      obtain⟨i,hi,hb⟩:=hx.2 j _ (List.getElem?_eq_getElem hj')
      rw[List.getElem?_range hj] at hi
      injection hi with hi
      subst hi
      obtain⟨row,r1,r2⟩:=Option.bind_eq_some_iff.1 hb
      exact⟨row,_,r1,r2⟩
     ·cases h
   | _=>simp[DataW.trod,ht] at h
  | a::b::r,h=>simp[DataW.trod,ht] at h
theorem oe7:∀ (d:Nat) (t:TypeId) (l:List (Nat×CK)),ma4 P d t=some l→∀ (fuel:Nat) (cs:List Value) (x:DataW D×List MemPlace),DataW.trod enc P w base spare held fuel t cs=some x→∀ p∈l,Pa6 cs.toArray p
 | 0,_,_,h,_,_,_,_=>by cases h
 | d+1,t,l,h,fuel,cs,x,hx=>by
  have hpart:∀ {off n:Nat} {e:TypeId} {l':List (Nat×CK)} {fuel':Nat} {y:DataW D×List MemPlace},fc6 off n (ma4 P d e)=some l'→DataW.trod enc P w base spare held fuel' e ((cs.drop off).take n)=some y→∀ p∈l',Pa6 cs.toArray p:=fun {off n e l' fuel' y} h1 h2 p hp=>by
   obtain⟨l2,g1,g2,rfl⟩:=Ya6 h1
   obtain⟨q,hq,rfl⟩:=List.mem_map.1 hp
   have:=oe7 d e l2 g1 fuel' _ y h2 q hq
   have hlt:=g2 q hq
   unfold Pa6 at this ⊢
   simp only[List.getElem?_toArray,List.getElem?_take,hlt,if_true,List.getElem?_drop] at this ⊢
   exact this
  have hcat:∀ {α:Type} (f:α→Option (List (Nat×CK))) (xs:List α) (l:List (Nat×CK)),za7 (xs.map f)=some l→∀ p∈l,∃ a∈xs,∃ l',f a=some l'∧p∈l':=fun {α} f xs=>by
   induction xs with
   | nil=>intro l h;simp only[List.map_nil,za7] at h;injection h with h;subst h;simp
   | cons a xs ih =>
    intro l h p hp
    simp only[List.map_cons,za7] at h
    cases h1:f a with
    | none=>simp[h1] at h
    | some l1 =>
    cases h2:za7 (xs.map f) with
    | none=>simp[h1,h2] at h
    | some l2 =>
    simp only[h1,h2] at h
    injection h with h;subst h
    rcases List.mem_append.1 hp with hp | hp
    ·exact⟨a,by simp,l1,h1,hp⟩
    ·obtain⟨b,hb,r⟩:=ih l2 h2 p hp
     exact⟨b,by simp[hb],r⟩
  unfold ma4 at h
  cases hu:P.underlying t with
  | none=>simp[hu] at h
  | some u =>
  cases u with
  | int k =>
   simp only[hu] at h;injection h with h;subst h
   obtain⟨n,rfl,_,_⟩:=qf8 hu hx
   intro p hp;simp at hp;subst hp;exact⟨n,rfl⟩
  | bool =>
   simp only[hu] at h;injection h with h;subst h
   obtain⟨n,rfl,_⟩:=bf5 hu hx
   intro p hp;simp at hp;subst hp;exact⟨n,rfl⟩
  | struct fs =>
   simp only[hu] at h
   split at h
   ·cases h
   obtain⟨_,fuel',xs,_,_,hxs⟩:=we2 hu hx
   intro p hp
   obtain⟨f,hf,l',h1,h2⟩:=hcat _ _ _ h p hp
   split at h1
   ·cases h1
   obtain⟨j,hj⟩:=List.getElem?_of_mem hf
   obtain⟨y,_,hy⟩:=hxs j f (by simpa using hj)
   have hc:P.cellsOf f.type=szT P f.type:=by
    unfold Program.cellsOf szT
    cases P.info? f.type<;>rfl
   rw[hc] at hy
   exact hpart h1 hy p h2
  | array n e =>
   simp only[hu] at h
   split at h
   case isFalse=>cases h
   obtain⟨_,fuel',xs,hn,_,hxs⟩:=Ne4 hu hx
   intro p hp
   obtain⟨j,hj,l',h1,h2⟩:=hcat _ _ _ h p hp
   have hj':j < xs.length:=by rw[hn];simpa using hj
   have hy:=hxs j _ (List.getElem?_eq_getElem hj')
   have hc:P.cellsOf e=szT P e:=by
    unfold Program.cellsOf szT
    cases P.info? e<;>rfl
   rw[hc] at hy
   exact hpart h1 hy p h2
  | _=>simp[hu] at h
def kb4 (k:IntKind) (es:Nat) (g:Nat→Int):List b7:=(List.range es).map fun c=>.v (.int k (g c))
def Xa7 (k:IntKind) (es:Nat):List (Nat×CK):=(List.range es).map fun c=>(c,.int k)
theorem bf6 {d : Nat} {t : TypeId} {k : IntKind} {es : Nat} (hf : ma4 P d t = some (Xa7 k es)) {fuel : Nat} {cs : List Value} {x : DataW D × List MemPlace} (hx : DataW.trod enc P w base spare held fuel t cs = some x) (hl : cs.length = es) :
  ∃ g:Nat→Int,∀ c,c < es→cs[c]?=some (.int k (g c)):=by
 have h:=oe7 d t _ hf fuel cs x hx
 have h':∀ c,∃ n:Int,c < es→cs[c]?=some (.int k n):=fun c=>by
  by_cases hc:c < es
  ·have:=h (c,.int k) (List.mem_map.2 ⟨c,by simpa using hc,rfl⟩)
   obtain⟨n,hn⟩:=this
   exact⟨n,fun _=>by simpa using hn⟩
  ·exact⟨0,fun h=>absurd h hc⟩
 exact⟨fun c=>Classical.choose (h' c),fun c hc=>Classical.choose_spec (h' c) hc⟩
theorem Ne6 {F:Fz} {w:World} (k:IntKind) (n:Int):la0 F w (.v (.int k n)) (.int k n):=.v _ rfl
theorem he4 {k:IntKind} {es:Nat} {g:Nat→Int} {c:Nat} {x:b7} (h:(kb4 k es g)[c]?=some x):c < es∧x=.v (.int k (g c)):=by
 unfold kb4 at h
 obtain⟨h1,h2⟩:=bb0 h
 exact⟨h1,h2.symm⟩
theorem vd8 {t e : TypeId} {k : IntKind} {es d : Nat} (ht : P.underlying t = some (.slice e)) (hf : ma4 P d e = some (Xa7 k es)) (hes : P.cellsOf e = es) (h0 : 0 < es) {fuel : Nat} {cs : List Value} {x : DataW D × List MemPlace} (hx : DataW.trod enc P w 0 spare held fuel t cs = some x) :
  ∃ (v:Value) (n:Nat) (g:Nat→Nat→Int),cs=[v]∧n≤maxLen∧la0 (he3 w) w (.tree es n fun j=>kb4 k es (g j)) v:=by
 rcases Ne5 ht hx with rfl | ⟨a,n,cap,fuel',rfl,hn,hc,hel⟩
 ·exact⟨_,0,fun _ _=>0,rfl,Nat.zero_le _,.nil _ _⟩
 ·rw[hes] at hel
  have hcell:∀ j,j < n→∃ g:Nat→Int,∀ c,c < es→w.cell? ((a.add (j*es)).add c)=some (.int k (g c)):=fun j hj=>by
   obtain⟨row,y,h1,h2⟩:=hel j hj
   unfold World.cells? at h1
   split at h1
   ·obtain⟨l1,l2⟩:=nc5 h1
    have hl:row.length=es:=by simpa using l1
    obtain⟨g,hg⟩:=bf6 hf h2 hl
    refine⟨g,fun c hc=>?_⟩
    obtain⟨i,hi,hi2⟩:=l2 c _ (hg c hc)
    rw[List.getElem?_range hc] at hi
    injection hi with hi
    subst hi
    exact hi2
   ·cases h1
  have hg:∀ j,∃ g:Nat→Int,j < n→∀ c,c < es→w.cell? ((a.add (j*es)).add c)=some (.int k (g c)):=fun j=>by
   by_cases hj:j < n
   ·obtain⟨g,hg⟩:=hcell j hj
    exact⟨g,fun _=>hg⟩
   ·exact⟨fun _=>0,fun h=>absurd h hj⟩
  obtain⟨g,hg⟩:=Classical.axiomOfChoice hg
  have hspot:0 < n→a.spot=none:=fun hn=>by
   have:=hg 0 hn 0 h0
   simpa [Addr.add] using World.cell?_spot this
  have hw:∀ j c,j < n→c < es→w.cell? ⟨a.block,a.off+(j*es+c),none⟩=some (.int k (g j c)):=fun j c hj hc=>by
   have:=hg j hj c hc
   rw[ga3 (hspot (by omega)),ga3 rfl] at this
   simpa [Nat.add_assoc] using this
  refine⟨_,n,g,rfl,Nat.le_trans hn hc,.tree es n _ a cap (fun j c=>.int k (g j c)) hspot hn (fun i hi=>by simp[kb4]) (fun i c hi hc=>?_) hw fun i c hi hc=>?_⟩
  ·unfold he3
   rw[hw i c hi hc]
   rfl
  ·have:=(he4 (List.getElem?_eq_getElem hc)).2
   rw[this]
   exact Ne6 _ _
theorem we3 (w:World):A9 (fun k=>w.heap.size≤k) (fun _=>⟨0,0,0⟩) [] (he3 w) w :=
 ⟨fun id b h=>by simp at h,fun id id' b b' h=>by simp at h,fun _ _ h=>h,fun _ h=>h⟩
theorem we4 {G : Nat → List Value} {f : FuncId} {S : Sum} (hS : g8 P G f S) {aargs : List b7} {args : List Value} (hrun : ∃ out, (S aargs []).run = some (b true, out)) (hl : aargs.length = args.length)
  (ha:∀ (i:Nat) x x',aargs[i]?=some x→args[i]?=some x'→ra4 (fun _=>⟨0,0,0⟩) [] (he3 w) w x x') (hG:∀ g (c:Nat) x,(G g)[c]?=some x→x.oneCell'=true∧w.cell? ⟨g,c,none⟩=some x) :
  Calls P f args.toArray w fun e w'=>e=.returned (.bool true)∧pd0 w w':=by
 obtain⟨out,hrun⟩:=hrun
 obtain⟨_,hc⟩:=hS aargs [] (b true) out hrun (fun k=>w.heap.size≤k) (fun _=>⟨0,0,0⟩) (he3 w) w args (we3 w) hl (fun i x x' h1 h2=>.val (ha i x x' h1 h2)) (fun g c x hx=>by
  obtain⟨h1,h2⟩:=hG g c x hx
  exact⟨h1,by unfold he3;rw[h2];rfl,h2⟩)
 refine hc.mono fun e w' ⟨r',he,ρ',F',hA,hH,hW⟩=>?_
 have:=ma5 hW
 subst this
 exact⟨he,hA.ext.os,hA.ext.output,hA.ext.size,fun k hk=>hA.ext.block k hk (by omega)⟩
theorem we5 {ρ : Rho} {H : List b8} {t e : TypeId} {k : IntKind} {es d : Nat} {v : Value} {dd : DataW D} {pp : List MemPlace} {bs : Nat} {r : Reach} (ht : P.underlying t = some (.slice e)) (hf : ma4 P d e = some (Xa7 k es)) (hes : P.cellsOf e = es) (h0 : 0 < es)
  (hok:Value.okWide P w r bs t v) (h:DataW.Trod enc P w 0 spare held t v dd pp):∃ (n:Nat) (g:Nat→Nat→Int),n≤maxLen∧ra4 ρ H (he3 w) w (.tree es n fun j=>kb4 k es (g j)) v:=by
 obtain⟨fuel,hx⟩:=h
 obtain⟨v',n,g,h1,h2,h3⟩:=vd8 ht hf hes h0 hx
 have hv:v.cells=#[v]:=by
  unfold Value.okWide at hok
  rw[ht] at hok
  cases v with
  | agg cs=>exfalso;simp[Cell.okWide,Cell.ok,ht] at hok
  | _=>rfl
 rw[hv] at h1
 have:v=v':=by simpa using h1
 subst this
 exact⟨n,g,h2,.cell (.mem h3)⟩
end
end Go.Ev
namespace Go.Ev.L
open Go Go.Ev
theorem Ne7 {α : Type} (t : Ty α) (n : Nat) (g : Nat → Nat → Int) (f : (Nat → Int) → α) (h : ∀ j, kb4 .i64 t.es (g j) = t.row (f (g j))) :
  ∃ l,(Fa1 t).dec (.tree t.es n fun j=>kb4 .i64 t.es (g j))=some l∧(Fa1 t).grd (.tree t.es n fun j=>kb4 .i64 t.es (g j))=true:=by
 refine⟨lsL t n fun j=>kb4 .i64 t.es (g j),?_,hb9 t (f:=fun k=>f (g k)) fun k _=>h k⟩
 show Bool.rec (motive:=fun _=>Option (List α)) none (some (lsL t n fun j=>kb4 .i64 t.es (g j))) (Nat.beq t.es t.es)=_
 rw[Nat.beq_refl]
end Go.Ev.L
namespace Go.Ev.L
open Go Go.Ev
def Rdg {α:Type} (c:Cod α) (x:b7) (a:α):Prop:=c.dec x=some a∧c.grd x=true
theorem Ne8 {α:Type} (t:Ty α) (n:Nat) (g:Nat→Nat→Int) (f:(Nat→Int)→α) (h:∀ j,kb4 .i64 t.es (g j)=t.row (f (g j))):∃ l,Rdg (Fa1 t) (.tree t.es n fun j=>kb4 .i64 t.es (g j)) l:=Ne7 t n g f h
theorem Ne9 (n:Nat) (g:Nat→Nat→Int):∃ l,Rdg (Fa1 tI) (.tree 1 n fun j=>kb4 .i64 1 (g j)) l:=Ne8 tI n g (fun g=>g 0) fun _=>rfl
section
variable {α β γ δ ε:Type} {c:Cod α} {d:Cod β} {e:Cod γ} {f:Cod δ} {c5:Cod ε} {x y z w v:b7} {a:α} {b':β} {g:γ} {j:δ} {m:ε} {r:b7×List b8}
theorem Lf8 {k:α→DT (b7×List b8)} (h1:Rdg c x a) (h:(k a).run=some r):(S5 c k [x] []).run=some r:=by
 unfold S5
 simp only[h1.1,h1.2]
 exact h
end
theorem qf9 {g p:Bool} (hg:g=true) (hp:p=true):(DT.guard g (.ret ((one r1B).enc p,([]:List b8)))).run=some (b true,([]:List b8)):=by subst hg;subst hp;rfl
end Go.Ev.L
