/- Own work: a part of the proof. -/
import Derived.Test.YtekgjjgbdcgldaaGreatEvODM
import Derived.Test.YtekgjjgbdcgldaaGreatEvSp3
set_option linter.unusedVariables false
set_option linter.unusedSimpArgs false
set_option linter.unnecessarySimpa false
set_option linter.unusedSectionVars false
section
namespace Go.Ev.Ce
open Go Go.Ev Go.Ev.L Go.Proofs
set_option maxRecDepth 100000
noncomputable def Ja2:List (Nat×Sum):=[(118,nb9),(92,qb6),(177,Ma7),(52,Qb8),(120,Fb7),(121,za5),(119,qa0)]
theorem Ac6:j9 prog G Ja2:=⟨Fb8,ac8,ib1,Kc7,Ac1,eb2,wa7,trivial⟩
structure O0 where
 is3:Int
 is4:Int
 is9:Int
 k8:Int
 S6:Int
 o0:Int
 wa0:Int
 b8:List V3
 e7:List V3
structure A8 where
 ph:Nat
 B4:Int
 eh4:List (List b7)
 w6:Nat
 eh5:List (List b7)
noncomputable def ac9 (p:O0) (s:A8):St:=⟨(.unk::((.ptr 0 0 0 0)::(.unk::((i p.is3)::((i p.is4)::(ra 4 ((i p.is9)::((i p.k8)::(ra 5 ((i p.S6)::((i p.o0)::(ra 5 ((i p.wa0)::((i s.B4)::(ra 35 ((i 0)::(.unk::((.ptr 1 0 0 0)::((.v (.slice none 0 0))::((i 0)::(.unk::((.ptr 2 0 0 0)::((.ptr 3 0 0 0)::(ra 28 [])))))))))))))))))))))))),[⟨0,1,[[(eL tV p.b8)]],true,false,0⟩,⟨0,1,[[(eL tV p.e7)]],true,false,0⟩,⟨0,0,[[(.ptr 4 0 0 0)]],true,false,0⟩,⟨0,0,[[(.v (.slice none 0 0))]],true,false,0⟩,⟨143,0,s.eh4,true,false,0⟩]⟩
noncomputable def bc0 (p:O0) (s:A8):St:=⟨(.unk::((.ptr 0 0 0 0)::(.unk::((i p.is3)::((i p.is4)::(ra 4 ((i p.is9)::((i p.k8)::(ra 5 ((i p.S6)::((i p.o0)::(ra 5 ((i p.wa0)::((i s.B4)::(ra 35 ((i 0)::(.unk::((.ptr 1 0 0 0)::((.v (.slice none 0 0))::((i 0)::(.unk::((.ptr 2 0 0 0)::((.ptr 3 0 0 0)::(ra 28 [])))))))))))))))))))))))),[⟨0,1,[[(eL tV p.b8)]],true,false,0⟩,⟨0,1,[[(eL tV p.e7)]],true,false,0⟩,⟨0,0,[[(.ptr 4 0 0 0)]],true,false,0⟩,⟨0,0,[[(.sl 5 0 s.w6 0)]],true,false,0⟩,⟨143,0,s.eh4,true,false,0⟩,⟨73,4,s.eh5,true,false,0⟩]⟩
noncomputable def mc3 (p:O0) (s:A8):St:=(sel (Nat.beq s.ph 1) (bc0 p s) (ac9 p s))
noncomputable def R7 {α:Type} (k:A8→α) (e:Nat→α) (z:α) (p:O0) (s:A8):α:=let t1:=(G9 (gL tV p.b8 s.B4.toNat) (gL tV p.b8 p.is4.toNat) (gL tV p.b8 p.is3.toNat));let t2:=(sa4 t1.1);let t3:=(aa4 (rt tV p.e7) t2);let t4:=(aa4 (rt tV p.e7) t1.1);(sl (decide (s.B4 < p.wa0)) (sl (inB s.B4 (List.length p.b8)) (sl (inB p.is4 (List.length p.b8)) (sl (inB p.is3 (List.length p.b8)) (sl (ea3 (gL tV p.b8 s.B4.toNat) (gL tV p.b8 p.is4.toNat) (gL tV p.b8 p.is3.toNat)) (sl t1.2 (sl t1.2 (sl (za2 4 [(0,(.int .i64)),(1,(.int .i64)),(2,(.int .i64)),(3,(.int .i64))] [(i t1.1.n.x),(i t1.1.n.y),(i t1.1.n.z),(i t1.1.b)] s.eh4) (sl (za2 4 [(0,(.int .i64)),(1,(.int .i64)),(2,(.int .i64)),(3,(.int .i64))] [(i t2.n.x),(i t2.n.y),(i t2.n.z),(i t2.b)] s.eh4) (k ⟨0,(W (s.B4+1)),s.eh4,0,[]⟩) (sl (okE tV p.e7) (sl (H5 (rt tV p.e7) t2) (sl (!t3) (k ⟨1,(W (s.B4+1)),(T3 [(0,(.int .i64)),(1,(.int .i64)),(2,(.int .i64)),(3,(.int .i64))] [(i t2.n.x),(i t2.n.y),(i t2.n.z),(i t2.b)] [(i t2.n.x),(i t2.n.y),(i t2.n.z),(i t2.b),(b true)] s.eh4),1,[[(i t2.n.x),(i t2.n.y),(i t2.n.z),(i t2.b)]]⟩) (k ⟨0,(W (s.B4+1)),(T3 [(0,(.int .i64)),(1,(.int .i64)),(2,(.int .i64)),(3,(.int .i64))] [(i t2.n.x),(i t2.n.y),(i t2.n.z),(i t2.b)] [(i t2.n.x),(i t2.n.y),(i t2.n.z),(i t2.b),(b true)] s.eh4),0,[]⟩)) z) z)) (sl (okE tV p.e7) (sl (H5 (rt tV p.e7) t1.1) (sl (!t4) (sl (za2 4 [(0,(.int .i64)),(1,(.int .i64)),(2,(.int .i64)),(3,(.int .i64))] [(i t2.n.x),(i t2.n.y),(i t2.n.z),(i t2.b)] (T3 [(0,(.int .i64)),(1,(.int .i64)),(2,(.int .i64)),(3,(.int .i64))] [(i t1.1.n.x),(i t1.1.n.y),(i t1.1.n.z),(i t1.1.b)] [(i t1.1.n.x),(i t1.1.n.y),(i t1.1.n.z),(i t1.1.b),(b true)] s.eh4)) (k ⟨1,(W (s.B4+1)),(T3 [(0,(.int .i64)),(1,(.int .i64)),(2,(.int .i64)),(3,(.int .i64))] [(i t1.1.n.x),(i t1.1.n.y),(i t1.1.n.z),(i t1.1.b)] [(i t1.1.n.x),(i t1.1.n.y),(i t1.1.n.z),(i t1.1.b),(b true)] s.eh4),1,[[(i t1.1.n.x),(i t1.1.n.y),(i t1.1.n.z),(i t1.1.b)]]⟩) (sl (okE tV p.e7) (sl (H5 (rt tV p.e7) t2) (sl (!t3) (k ⟨1,(W (s.B4+1)),(T3 [(0,(.int .i64)),(1,(.int .i64)),(2,(.int .i64)),(3,(.int .i64))] [(i t2.n.x),(i t2.n.y),(i t2.n.z),(i t2.b)] [(i t2.n.x),(i t2.n.y),(i t2.n.z),(i t2.b),(b true)] (T3 [(0,(.int .i64)),(1,(.int .i64)),(2,(.int .i64)),(3,(.int .i64))] [(i t1.1.n.x),(i t1.1.n.y),(i t1.1.n.z),(i t1.1.b)] [(i t1.1.n.x),(i t1.1.n.y),(i t1.1.n.z),(i t1.1.b),(b true)] s.eh4)),2,[[(i t1.1.n.x),(i t1.1.n.y),(i t1.1.n.z),(i t1.1.b)],[(i t2.n.x),(i t2.n.y),(i t2.n.z),(i t2.b)]]⟩) (k ⟨1,(W (s.B4+1)),(T3 [(0,(.int .i64)),(1,(.int .i64)),(2,(.int .i64)),(3,(.int .i64))] [(i t2.n.x),(i t2.n.y),(i t2.n.z),(i t2.b)] [(i t2.n.x),(i t2.n.y),(i t2.n.z),(i t2.b),(b true)] (T3 [(0,(.int .i64)),(1,(.int .i64)),(2,(.int .i64)),(3,(.int .i64))] [(i t1.1.n.x),(i t1.1.n.y),(i t1.1.n.z),(i t1.1.b)] [(i t1.1.n.x),(i t1.1.n.y),(i t1.1.n.z),(i t1.1.b),(b true)] s.eh4)),1,[[(i t1.1.n.x),(i t1.1.n.y),(i t1.1.n.z),(i t1.1.b)]]⟩)) z) z)) (sl (za2 4 [(0,(.int .i64)),(1,(.int .i64)),(2,(.int .i64)),(3,(.int .i64))] [(i t2.n.x),(i t2.n.y),(i t2.n.z),(i t2.b)] (T3 [(0,(.int .i64)),(1,(.int .i64)),(2,(.int .i64)),(3,(.int .i64))] [(i t1.1.n.x),(i t1.1.n.y),(i t1.1.n.z),(i t1.1.b)] [(i t1.1.n.x),(i t1.1.n.y),(i t1.1.n.z),(i t1.1.b),(b true)] s.eh4)) (k ⟨0,(W (s.B4+1)),(T3 [(0,(.int .i64)),(1,(.int .i64)),(2,(.int .i64)),(3,(.int .i64))] [(i t1.1.n.x),(i t1.1.n.y),(i t1.1.n.z),(i t1.1.b)] [(i t1.1.n.x),(i t1.1.n.y),(i t1.1.n.z),(i t1.1.b),(b true)] s.eh4),0,[]⟩) (sl (okE tV p.e7) (sl (H5 (rt tV p.e7) t2) (sl (!t3) (k ⟨1,(W (s.B4+1)),(T3 [(0,(.int .i64)),(1,(.int .i64)),(2,(.int .i64)),(3,(.int .i64))] [(i t2.n.x),(i t2.n.y),(i t2.n.z),(i t2.b)] [(i t2.n.x),(i t2.n.y),(i t2.n.z),(i t2.b),(b true)] (T3 [(0,(.int .i64)),(1,(.int .i64)),(2,(.int .i64)),(3,(.int .i64))] [(i t1.1.n.x),(i t1.1.n.y),(i t1.1.n.z),(i t1.1.b)] [(i t1.1.n.x),(i t1.1.n.y),(i t1.1.n.z),(i t1.1.b),(b true)] s.eh4)),1,[[(i t2.n.x),(i t2.n.y),(i t2.n.z),(i t2.b)]]⟩) (k ⟨0,(W (s.B4+1)),(T3 [(0,(.int .i64)),(1,(.int .i64)),(2,(.int .i64)),(3,(.int .i64))] [(i t2.n.x),(i t2.n.y),(i t2.n.z),(i t2.b)] [(i t2.n.x),(i t2.n.y),(i t2.n.z),(i t2.b),(b true)] (T3 [(0,(.int .i64)),(1,(.int .i64)),(2,(.int .i64)),(3,(.int .i64))] [(i t1.1.n.x),(i t1.1.n.y),(i t1.1.n.z),(i t1.1.b)] [(i t1.1.n.x),(i t1.1.n.y),(i t1.1.n.z),(i t1.1.b),(b true)] s.eh4)),0,[]⟩)) z) z))) z) z)) (k ⟨0,(W (s.B4+1)),s.eh4,0,[]⟩)) (sl t1.2 z (k ⟨0,(W (s.B4+1)),s.eh4,0,[]⟩))) z) z) z) z) (e 1))
noncomputable def R8 {α:Type} (k:A8→α) (e:Nat→α) (z:α) (p:O0) (s:A8):α:=let t1:=(G9 (gL tV p.b8 s.B4.toNat) (gL tV p.b8 p.is4.toNat) (gL tV p.b8 p.is3.toNat));let t2:=(sa4 t1.1);let t3:=(aa4 (rt tV p.e7) t2);let t4:=(aa4 (rt tV p.e7) t1.1);let a0:=(Nat.beq s.w6 (len s.eh5)&&Nat.ble ((s.w6+1)*32) room);(sl (decide (s.B4 < p.wa0)) (sl (inB s.B4 (List.length p.b8)) (sl (inB p.is4 (List.length p.b8)) (sl (inB p.is3 (List.length p.b8)) (sl (ea3 (gL tV p.b8 s.B4.toNat) (gL tV p.b8 p.is4.toNat) (gL tV p.b8 p.is3.toNat)) (sl t1.2 (sl t1.2 (sl (za2 4 [(0,(.int .i64)),(1,(.int .i64)),(2,(.int .i64)),(3,(.int .i64))] [(i t1.1.n.x),(i t1.1.n.y),(i t1.1.n.z),(i t1.1.b)] s.eh4) (sl (za2 4 [(0,(.int .i64)),(1,(.int .i64)),(2,(.int .i64)),(3,(.int .i64))] [(i t2.n.x),(i t2.n.y),(i t2.n.z),(i t2.b)] s.eh4) (k ⟨1,(W (s.B4+1)),s.eh4,s.w6,s.eh5⟩) (sl (okE tV p.e7) (sl (H5 (rt tV p.e7) t2) (sl (!t3) (sl a0 (k ⟨1,(W (s.B4+1)),(T3 [(0,(.int .i64)),(1,(.int .i64)),(2,(.int .i64)),(3,(.int .i64))] [(i t2.n.x),(i t2.n.y),(i t2.n.z),(i t2.b)] [(i t2.n.x),(i t2.n.y),(i t2.n.z),(i t2.b),(b true)] s.eh4),(s.w6+1),(app s.eh5 [[(i t2.n.x),(i t2.n.y),(i t2.n.z),(i t2.b)]])⟩) z) (k ⟨1,(W (s.B4+1)),(T3 [(0,(.int .i64)),(1,(.int .i64)),(2,(.int .i64)),(3,(.int .i64))] [(i t2.n.x),(i t2.n.y),(i t2.n.z),(i t2.b)] [(i t2.n.x),(i t2.n.y),(i t2.n.z),(i t2.b),(b true)] s.eh4),s.w6,s.eh5⟩)) z) z)) (sl (okE tV p.e7) (sl (H5 (rt tV p.e7) t1.1) (sl (!t4) (sl a0 (sl (za2 4 [(0,(.int .i64)),(1,(.int .i64)),(2,(.int .i64)),(3,(.int .i64))] [(i t2.n.x),(i t2.n.y),(i t2.n.z),(i t2.b)] (T3 [(0,(.int .i64)),(1,(.int .i64)),(2,(.int .i64)),(3,(.int .i64))] [(i t1.1.n.x),(i t1.1.n.y),(i t1.1.n.z),(i t1.1.b)] [(i t1.1.n.x),(i t1.1.n.y),(i t1.1.n.z),(i t1.1.b),(b true)] s.eh4)) (k ⟨1,(W (s.B4+1)),(T3 [(0,(.int .i64)),(1,(.int .i64)),(2,(.int .i64)),(3,(.int .i64))] [(i t1.1.n.x),(i t1.1.n.y),(i t1.1.n.z),(i t1.1.b)] [(i t1.1.n.x),(i t1.1.n.y),(i t1.1.n.z),(i t1.1.b),(b true)] s.eh4),(s.w6+1),(app s.eh5 [[(i t1.1.n.x),(i t1.1.n.y),(i t1.1.n.z),(i t1.1.b)]])⟩) (sl (okE tV p.e7) (sl (H5 (rt tV p.e7) t2) (sl (!t3) (sl (Nat.beq (s.w6+1) (len (app s.eh5 [[(i t1.1.n.x),(i t1.1.n.y),(i t1.1.n.z),(i t1.1.b)]]))&&Nat.ble (((s.w6+1)+1)*32) room) (k ⟨1,(W (s.B4+1)),(T3 [(0,(.int .i64)),(1,(.int .i64)),(2,(.int .i64)),(3,(.int .i64))] [(i t2.n.x),(i t2.n.y),(i t2.n.z),(i t2.b)] [(i t2.n.x),(i t2.n.y),(i t2.n.z),(i t2.b),(b true)] (T3 [(0,(.int .i64)),(1,(.int .i64)),(2,(.int .i64)),(3,(.int .i64))] [(i t1.1.n.x),(i t1.1.n.y),(i t1.1.n.z),(i t1.1.b)] [(i t1.1.n.x),(i t1.1.n.y),(i t1.1.n.z),(i t1.1.b),(b true)] s.eh4)),((s.w6+1)+1),(app (app s.eh5 [[(i t1.1.n.x),(i t1.1.n.y),(i t1.1.n.z),(i t1.1.b)]]) [[(i t2.n.x),(i t2.n.y),(i t2.n.z),(i t2.b)]])⟩) z) (k ⟨1,(W (s.B4+1)),(T3 [(0,(.int .i64)),(1,(.int .i64)),(2,(.int .i64)),(3,(.int .i64))] [(i t2.n.x),(i t2.n.y),(i t2.n.z),(i t2.b)] [(i t2.n.x),(i t2.n.y),(i t2.n.z),(i t2.b),(b true)] (T3 [(0,(.int .i64)),(1,(.int .i64)),(2,(.int .i64)),(3,(.int .i64))] [(i t1.1.n.x),(i t1.1.n.y),(i t1.1.n.z),(i t1.1.b)] [(i t1.1.n.x),(i t1.1.n.y),(i t1.1.n.z),(i t1.1.b),(b true)] s.eh4)),(s.w6+1),(app s.eh5 [[(i t1.1.n.x),(i t1.1.n.y),(i t1.1.n.z),(i t1.1.b)]])⟩)) z) z)) z) (sl (za2 4 [(0,(.int .i64)),(1,(.int .i64)),(2,(.int .i64)),(3,(.int .i64))] [(i t2.n.x),(i t2.n.y),(i t2.n.z),(i t2.b)] (T3 [(0,(.int .i64)),(1,(.int .i64)),(2,(.int .i64)),(3,(.int .i64))] [(i t1.1.n.x),(i t1.1.n.y),(i t1.1.n.z),(i t1.1.b)] [(i t1.1.n.x),(i t1.1.n.y),(i t1.1.n.z),(i t1.1.b),(b true)] s.eh4)) (k ⟨1,(W (s.B4+1)),(T3 [(0,(.int .i64)),(1,(.int .i64)),(2,(.int .i64)),(3,(.int .i64))] [(i t1.1.n.x),(i t1.1.n.y),(i t1.1.n.z),(i t1.1.b)] [(i t1.1.n.x),(i t1.1.n.y),(i t1.1.n.z),(i t1.1.b),(b true)] s.eh4),s.w6,s.eh5⟩) (sl (okE tV p.e7) (sl (H5 (rt tV p.e7) t2) (sl (!t3) (sl a0 (k ⟨1,(W (s.B4+1)),(T3 [(0,(.int .i64)),(1,(.int .i64)),(2,(.int .i64)),(3,(.int .i64))] [(i t2.n.x),(i t2.n.y),(i t2.n.z),(i t2.b)] [(i t2.n.x),(i t2.n.y),(i t2.n.z),(i t2.b),(b true)] (T3 [(0,(.int .i64)),(1,(.int .i64)),(2,(.int .i64)),(3,(.int .i64))] [(i t1.1.n.x),(i t1.1.n.y),(i t1.1.n.z),(i t1.1.b)] [(i t1.1.n.x),(i t1.1.n.y),(i t1.1.n.z),(i t1.1.b),(b true)] s.eh4)),(s.w6+1),(app s.eh5 [[(i t2.n.x),(i t2.n.y),(i t2.n.z),(i t2.b)]])⟩) z) (k ⟨1,(W (s.B4+1)),(T3 [(0,(.int .i64)),(1,(.int .i64)),(2,(.int .i64)),(3,(.int .i64))] [(i t2.n.x),(i t2.n.y),(i t2.n.z),(i t2.b)] [(i t2.n.x),(i t2.n.y),(i t2.n.z),(i t2.b),(b true)] (T3 [(0,(.int .i64)),(1,(.int .i64)),(2,(.int .i64)),(3,(.int .i64))] [(i t1.1.n.x),(i t1.1.n.y),(i t1.1.n.z),(i t1.1.b)] [(i t1.1.n.x),(i t1.1.n.y),(i t1.1.n.z),(i t1.1.b),(b true)] s.eh4)),s.w6,s.eh5⟩)) z) z))) z) z)) (k ⟨1,(W (s.B4+1)),s.eh4,s.w6,s.eh5⟩)) (sl t1.2 z (k ⟨1,(W (s.B4+1)),s.eh4,s.w6,s.eh5⟩))) z) z) z) z) (e 2))
noncomputable def O8 (p:O0) (s:A8):Stp A8:=(sel (Nat.beq s.ph 1) (R8 .next .exit .fail p s) (R7 .next .exit .fail p s))
noncomputable def Xa2:Lo O0 A8:=⟨En Ja2,0,qe4,[1,1,1,1,1,0,1,4,4,1,4,4,1,1,0,4,1,1,4,4,1,1,0,4,1,1,4,4],[1,3,4,9,10,16,17,23,24,60,62,63,64,66,67],.p,[⟨((.s (.o .unk))::((.s (.o (.ptr 0 0 0 0)))::((.s (.o .unk))::((.s (.o (.int .i64)))::((.s (.o (.int .i64)))::(ru2 4 ((.s (.o (.int .i64)))::((.s (.o (.int .i64)))::(ru2 5 ((.s (.o (.int .i64)))::((.s (.o (.int .i64)))::(ru2 5 ((.s (.o (.int .i64)))::((.s (.o (.int .i64)))::(ru2 35 ((.s (.o (.lit .i64 0)))::((.s (.o .unk))::((.s (.o (.ptr 1 0 0 0)))::((.s (.o .nil))::((.s (.o (.lit .i64 0)))::((.s (.o .unk))::((.s (.o (.ptr 2 0 0 0)))::((.s (.o (.ptr 3 0 0 0)))::(ru2 28 [])))))))))))))))))))))))),[⟨0,1,true,(some [[(.c 3 (nL tV))]])⟩,⟨0,1,true,(some [[(.c 3 (nL tV))]])⟩,⟨0,0,true,(some [[(.o (.ptr 4 0 0 0))]])⟩,⟨0,0,true,(some [[(.o .nil)]])⟩,⟨143,0,true,none⟩],fun a H=>(⟨(toI (slT a 3)),(toI (slT a 4)),(toI (slT a 9)),(toI (slT a 10)),(toI (slT a 16)),(toI (slT a 17)),(toI (slT a 23)),(rL tV (slT (rwT (elT H 0) 0) 0)),(rL tV (slT (rwT (elT H 1) 0) 0))⟩,⟨0,(toI (slT a 24)),(elT H 4),0,[]⟩)⟩,⟨((.s (.o .unk))::((.s (.o (.ptr 0 0 0 0)))::((.s (.o .unk))::((.s (.o (.int .i64)))::((.s (.o (.int .i64)))::(ru2 4 ((.s (.o (.int .i64)))::((.s (.o (.int .i64)))::(ru2 5 ((.s (.o (.int .i64)))::((.s (.o (.int .i64)))::(ru2 5 ((.s (.o (.int .i64)))::((.s (.o (.int .i64)))::(ru2 35 ((.s (.o (.lit .i64 0)))::((.s (.o .unk))::((.s (.o (.ptr 1 0 0 0)))::((.s (.o .nil))::((.s (.o (.lit .i64 0)))::((.s (.o .unk))::((.s (.o (.ptr 2 0 0 0)))::((.s (.o (.ptr 3 0 0 0)))::(ru2 28 [])))))))))))))))))))))))),[⟨0,1,true,(some [[(.c 3 (nL tV))]])⟩,⟨0,1,true,(some [[(.c 3 (nL tV))]])⟩,⟨0,0,true,(some [[(.o (.ptr 4 0 0 0))]])⟩,⟨0,0,true,(some [[(.o (.sl 5 0 (some 0) none))]])⟩,⟨143,0,true,none⟩,⟨73,4,true,none⟩],fun a H=>(⟨(toI (slT a 3)),(toI (slT a 4)),(toI (slT a 9)),(toI (slT a 10)),(toI (slT a 16)),(toI (slT a 17)),(toI (slT a 23)),(rL tV (slT (rwT (elT H 0) 0) 0)),(rL tV (slT (rwT (elT H 1) 0) 0))⟩,⟨1,(toI (slT a 24)),(elT H 4),(slN (slT (rwT (elT H 3) 0) 0)),(elT H 5)⟩)⟩],O8,[(some 4,fun p s=>⟨(.unk::((.ptr 0 0 0 0)::(.unk::((i p.is3)::((i p.is4)::(ra 4 ((i p.is9)::((i p.k8)::(ra 5 ((i p.S6)::((i p.o0)::(ra 5 ((i p.wa0)::((i s.B4)::((b (decide (s.B4 < p.wa0)))::(ra 34 ((i 0)::(.unk::((.ptr 1 0 0 0)::((.v (.slice none 0 0))::((i 0)::(.unk::((.ptr 2 0 0 0)::((.ptr 3 0 0 0)::(ra 28 []))))))))))))))))))))))))),[⟨0,1,[[(eL tV p.b8)]],true,false,0⟩,⟨0,1,[[(eL tV p.e7)]],true,false,0⟩,⟨0,0,[[(.ptr 4 0 0 0)]],true,false,0⟩,⟨0,0,[[(.v (.slice none 0 0))]],true,false,0⟩,⟨143,0,s.eh4,true,false,0⟩]⟩),(some 4,fun p s=>⟨(.unk::((.ptr 0 0 0 0)::(.unk::((i p.is3)::((i p.is4)::(ra 4 ((i p.is9)::((i p.k8)::(ra 5 ((i p.S6)::((i p.o0)::(ra 5 ((i p.wa0)::((i s.B4)::((b (decide (s.B4 < p.wa0)))::(ra 34 ((i 0)::(.unk::((.ptr 1 0 0 0)::((.v (.slice none 0 0))::((i 0)::(.unk::((.ptr 2 0 0 0)::((.ptr 3 0 0 0)::(ra 28 []))))))))))))))))))))))))),[⟨0,1,[[(eL tV p.b8)]],true,false,0⟩,⟨0,1,[[(eL tV p.e7)]],true,false,0⟩,⟨0,0,[[(.ptr 4 0 0 0)]],true,false,0⟩,⟨0,0,[[(.sl 5 0 s.w6 0)]],true,false,0⟩,⟨143,0,s.eh4,true,false,0⟩,⟨73,4,s.eh5,true,false,0⟩]⟩)],mc3⟩
theorem mc4:Xa2.OkM:=Lo.okM [] (by kernel_rfl) .nil rfl (.cons (fun a H=>by kernel_rfl) (.cons (fun a H=>by kernel_rfl) .nil)) fun p s=>(.sel (Nat.beq s.ph 1) (.of @R8 (fun F _ _ _ _ _=>by unfold R8;(repeat' apply o9 (f:=F))<;>rfl) (by kernel_rfl)) (.of @R7 (fun F _ _ _ _ _=>by unfold R7;(repeat' apply o9 (f:=F))<;>rfl) (by kernel_rfl)))
structure O1 where
 is3:Int
 is9:Int
 k8:Int
 S6:Int
structure y5 where
 ph:Nat
 o0:Int
 b8:List V3
 e7:List V3
 eh4:List (List b7)
 w6:Nat
 eh5:List (List b7)
noncomputable def bc1 (p:O1) (s:y5):St:=⟨(.unk::((.ptr 0 0 0 0)::(.unk::((i p.is3)::(ra 5 ((i p.is9)::((i p.k8)::(ra 5 ((i p.S6)::((i s.o0)::(ra 42 ((i 0)::(.unk::((.ptr 1 0 0 0)::((.v (.slice none 0 0))::((i 0)::(.unk::((.ptr 2 0 0 0)::((.ptr 3 0 0 0)::(ra 28 [])))))))))))))))))))),[⟨0,1,[[(eL tV s.b8)]],true,false,0⟩,⟨0,1,[[(eL tV s.e7)]],true,false,0⟩,⟨0,0,[[(.ptr 4 0 0 0)]],true,false,0⟩,⟨0,0,[[(.v (.slice none 0 0))]],true,false,0⟩,⟨143,0,s.eh4,true,false,0⟩]⟩
noncomputable def bc2 (p:O1) (s:y5):St:=⟨(.unk::((.ptr 0 0 0 0)::(.unk::((i p.is3)::(ra 5 ((i p.is9)::((i p.k8)::(ra 5 ((i p.S6)::((i s.o0)::(ra 42 ((i 0)::(.unk::((.ptr 1 0 0 0)::((.v (.slice none 0 0))::((i 0)::(.unk::((.ptr 2 0 0 0)::((.ptr 3 0 0 0)::(ra 28 [])))))))))))))))))))),[⟨0,1,[[(eL tV s.b8)]],true,false,0⟩,⟨0,1,[[(eL tV s.e7)]],true,false,0⟩,⟨0,0,[[(.ptr 4 0 0 0)]],true,false,0⟩,⟨0,0,[[(.sl 5 0 s.w6 0)]],true,false,0⟩,⟨143,0,s.eh4,true,false,0⟩,⟨73,4,s.eh5,true,false,0⟩]⟩
noncomputable def mc5 (p:O1) (s:y5):St:=(sel (Nat.beq s.ph 1) (bc2 p s) (bc1 p s))
noncomputable def R9 {α:Type} (k:y5→α) (e:Nat→α) (z:α) (p:O1) (s:y5):α:=let t1:=(lp (O8 (⟨p.is3,s.o0,p.is9,p.k8,p.S6,s.o0,(↑(s.o0.toNat - 0):Int),(rt tV s.b8),(rt tV s.e7)⟩:O0)) (⟨0,0,s.eh4,0,[]⟩:A8));(sl (decide (s.o0 < p.S6)) (sl (inB s.o0 ((List.length s.b8)+1)) (sl ((cnE tV s.b8)&&((cnE tV s.e7)&&true)) (sl (Nat.beq t1.1 1) (k ⟨0,(W (s.o0+1)),(rt tV s.b8),(rt tV s.e7),t1.2.eh4,0,[]⟩) (sl (Nat.beq t1.1 2) (k ⟨1,(W (s.o0+1)),(rt tV s.b8),(rt tV s.e7),t1.2.eh4,t1.2.w6,t1.2.eh5⟩) z)) z) z) (e 1))
noncomputable def S1 {α:Type} (k:y5→α) (e:Nat→α) (z:α) (p:O1) (s:y5):α:=let t1:=(lp (O8 (⟨p.is3,s.o0,p.is9,p.k8,p.S6,s.o0,(↑(s.o0.toNat - 0):Int),(rt tV s.b8),(rt tV s.e7)⟩:O0)) (⟨1,0,s.eh4,s.w6,s.eh5⟩:A8));(sl (decide (s.o0 < p.S6)) (sl (inB s.o0 ((List.length s.b8)+1)) (sl ((cnE tV s.b8)&&((cnE tV s.e7)&&true)) (sl (Nat.beq t1.1 1) (k ⟨0,(W (s.o0+1)),(rt tV s.b8),(rt tV s.e7),t1.2.eh4,0,[]⟩) (sl (Nat.beq t1.1 2) (k ⟨1,(W (s.o0+1)),(rt tV s.b8),(rt tV s.e7),t1.2.eh4,t1.2.w6,t1.2.eh5⟩) z)) z) z) (e 2))
noncomputable def X5 (p:O1) (s:y5):Stp y5:=(sel (Nat.beq s.ph 1) (S1 .next .exit .fail p s) (R9 .next .exit .fail p s))
noncomputable def Xa3:Lo O1 y5:=⟨En Ja2,0,qe4,[1,1,1,1,1,0,1,4,4,1,4,4,1,1,0,4,1,1,4,4],[1,3,9,10,16,17,60,62,63,64,66,67],(.s .p (.s .p (.s (.b (.s .p (.s .p (.b (.u Xa2.lsM))))) .p))),[⟨((.s (.o .unk))::((.s (.o (.ptr 0 0 0 0)))::((.s (.o .unk))::((.s (.o (.int .i64)))::(ru2 5 ((.s (.o (.int .i64)))::((.s (.o (.int .i64)))::(ru2 5 ((.s (.o (.int .i64)))::((.s (.o (.int .i64)))::(ru2 42 ((.s (.o (.lit .i64 0)))::((.s (.o .unk))::((.s (.o (.ptr 1 0 0 0)))::((.s (.o .nil))::((.s (.o (.lit .i64 0)))::((.s (.o .unk))::((.s (.o (.ptr 2 0 0 0)))::((.s (.o (.ptr 3 0 0 0)))::(ru2 28 [])))))))))))))))))))),[⟨0,1,true,(some [[(.c 3 (nL tV))]])⟩,⟨0,1,true,(some [[(.c 3 (nL tV))]])⟩,⟨0,0,true,(some [[(.o (.ptr 4 0 0 0))]])⟩,⟨0,0,true,(some [[(.o .nil)]])⟩,⟨143,0,true,none⟩],fun a H=>(⟨(toI (slT a 3)),(toI (slT a 9)),(toI (slT a 10)),(toI (slT a 16))⟩,⟨0,(toI (slT a 17)),(rL tV (slT (rwT (elT H 0) 0) 0)),(rL tV (slT (rwT (elT H 1) 0) 0)),(elT H 4),0,[]⟩)⟩,⟨((.s (.o .unk))::((.s (.o (.ptr 0 0 0 0)))::((.s (.o .unk))::((.s (.o (.int .i64)))::(ru2 5 ((.s (.o (.int .i64)))::((.s (.o (.int .i64)))::(ru2 5 ((.s (.o (.int .i64)))::((.s (.o (.int .i64)))::(ru2 42 ((.s (.o (.lit .i64 0)))::((.s (.o .unk))::((.s (.o (.ptr 1 0 0 0)))::((.s (.o .nil))::((.s (.o (.lit .i64 0)))::((.s (.o .unk))::((.s (.o (.ptr 2 0 0 0)))::((.s (.o (.ptr 3 0 0 0)))::(ru2 28 [])))))))))))))))))))),[⟨0,1,true,(some [[(.c 3 (nL tV))]])⟩,⟨0,1,true,(some [[(.c 3 (nL tV))]])⟩,⟨0,0,true,(some [[(.o (.ptr 4 0 0 0))]])⟩,⟨0,0,true,(some [[(.o (.sl 5 0 (some 0) none))]])⟩,⟨143,0,true,none⟩,⟨73,4,true,none⟩],fun a H=>(⟨(toI (slT a 3)),(toI (slT a 9)),(toI (slT a 10)),(toI (slT a 16))⟩,⟨1,(toI (slT a 17)),(rL tV (slT (rwT (elT H 0) 0) 0)),(rL tV (slT (rwT (elT H 1) 0) 0)),(elT H 4),(slN (slT (rwT (elT H 3) 0) 0)),(elT H 5)⟩)⟩],X5,[(some 2,fun p s=>⟨(.unk::((.ptr 0 0 0 0)::(.unk::((i p.is3)::(ra 5 ((i p.is9)::((i p.k8)::(ra 5 ((i p.S6)::((i s.o0)::((b (decide (s.o0 < p.S6)))::(ra 41 ((i 0)::(.unk::((.ptr 1 0 0 0)::((.v (.slice none 0 0))::((i 0)::(.unk::((.ptr 2 0 0 0)::((.ptr 3 0 0 0)::(ra 28 []))))))))))))))))))))),[⟨0,1,[[(eL tV s.b8)]],true,false,0⟩,⟨0,1,[[(eL tV s.e7)]],true,false,0⟩,⟨0,0,[[(.ptr 4 0 0 0)]],true,false,0⟩,⟨0,0,[[(.v (.slice none 0 0))]],true,false,0⟩,⟨143,0,s.eh4,true,false,0⟩]⟩),(some 2,fun p s=>⟨(.unk::((.ptr 0 0 0 0)::(.unk::((i p.is3)::(ra 5 ((i p.is9)::((i p.k8)::(ra 5 ((i p.S6)::((i s.o0)::((b (decide (s.o0 < p.S6)))::(ra 41 ((i 0)::(.unk::((.ptr 1 0 0 0)::((.v (.slice none 0 0))::((i 0)::(.unk::((.ptr 2 0 0 0)::((.ptr 3 0 0 0)::(ra 28 []))))))))))))))))))))),[⟨0,1,[[(eL tV s.b8)]],true,false,0⟩,⟨0,1,[[(eL tV s.e7)]],true,false,0⟩,⟨0,0,[[(.ptr 4 0 0 0)]],true,false,0⟩,⟨0,0,[[(.sl 5 0 s.w6 0)]],true,false,0⟩,⟨143,0,s.eh4,true,false,0⟩,⟨73,4,s.eh5,true,false,0⟩]⟩)],mc5⟩
theorem mc6:Xa3.OkM:=Lo.okM [Xa2.prM] (by kernel_rfl) (.cons mc4 .nil) rfl (.cons (fun a H=>by kernel_rfl) (.cons (fun a H=>by kernel_rfl) .nil)) fun p s=>(.sel (Nat.beq s.ph 1) (.of @S1 (fun F _ _ _ _ _=>by unfold S1;(repeat' apply o9 (f:=F))<;>rfl) (by kernel_rfl)) (.of @R9 (fun F _ _ _ _ _=>by unfold R9;(repeat' apply o9 (f:=F))<;>rfl) (by kernel_rfl)))
structure T9 where
 is9:Int
structure A9 where
 ph:Nat
 k8:Int
 b8:List V3
 e7:List V3
 eh4:List (List b7)
 w6:Nat
 eh5:List (List b7)
noncomputable def bc3 (p:T9) (s:A9):St:=⟨(.unk::((.ptr 0 0 0 0)::(ra 7 ((i p.is9)::((i s.k8)::(ra 49 ((i 0)::(.unk::((.ptr 1 0 0 0)::((.v (.slice none 0 0))::((i 0)::(.unk::((.ptr 2 0 0 0)::((.ptr 3 0 0 0)::(ra 28 []))))))))))))))),[⟨0,1,[[(eL tV s.b8)]],true,false,0⟩,⟨0,1,[[(eL tV s.e7)]],true,false,0⟩,⟨0,0,[[(.ptr 4 0 0 0)]],true,false,0⟩,⟨0,0,[[(.v (.slice none 0 0))]],true,false,0⟩,⟨143,0,s.eh4,true,false,0⟩]⟩
noncomputable def bc4 (p:T9) (s:A9):St:=⟨(.unk::((.ptr 0 0 0 0)::(ra 7 ((i p.is9)::((i s.k8)::(ra 49 ((i 0)::(.unk::((.ptr 1 0 0 0)::((.v (.slice none 0 0))::((i 0)::(.unk::((.ptr 2 0 0 0)::((.ptr 3 0 0 0)::(ra 28 []))))))))))))))),[⟨0,1,[[(eL tV s.b8)]],true,false,0⟩,⟨0,1,[[(eL tV s.e7)]],true,false,0⟩,⟨0,0,[[(.ptr 4 0 0 0)]],true,false,0⟩,⟨0,0,[[(.sl 5 0 s.w6 0)]],true,false,0⟩,⟨143,0,s.eh4,true,false,0⟩,⟨73,4,s.eh5,true,false,0⟩]⟩
noncomputable def mc7 (p:T9) (s:A9):St:=(sel (Nat.beq s.ph 1) (bc4 p s) (bc3 p s))
noncomputable def S3 {α:Type} (k:A9→α) (e:Nat→α) (z:α) (p:T9) (s:A9):α:=let t1:=(lp (X5 (⟨s.k8,p.is9,s.k8,(↑(s.k8.toNat - 0):Int)⟩:O1)) (⟨0,0,(rt tV s.b8),(rt tV s.e7),s.eh4,0,[]⟩:y5));(sl (decide (s.k8 < p.is9)) (sl (inB s.k8 ((List.length s.b8)+1)) (sl ((cnE tV s.b8)&&((cnE tV s.e7)&&true)) (sl (Nat.beq t1.1 1) (k ⟨0,(W (s.k8+1)),t1.2.b8,t1.2.e7,t1.2.eh4,0,[]⟩) (sl (Nat.beq t1.1 2) (k ⟨1,(W (s.k8+1)),t1.2.b8,t1.2.e7,t1.2.eh4,t1.2.w6,t1.2.eh5⟩) z)) z) z) (e 1))
noncomputable def S4 {α:Type} (k:A9→α) (e:Nat→α) (z:α) (p:T9) (s:A9):α:=let t1:=(lp (X5 (⟨s.k8,p.is9,s.k8,(↑(s.k8.toNat - 0):Int)⟩:O1)) (⟨1,0,(rt tV s.b8),(rt tV s.e7),s.eh4,s.w6,s.eh5⟩:y5));(sl (decide (s.k8 < p.is9)) (sl (inB s.k8 ((List.length s.b8)+1)) (sl ((cnE tV s.b8)&&((cnE tV s.e7)&&true)) (sl (Nat.beq t1.1 1) (k ⟨0,(W (s.k8+1)),t1.2.b8,t1.2.e7,t1.2.eh4,0,[]⟩) (sl (Nat.beq t1.1 2) (k ⟨1,(W (s.k8+1)),t1.2.b8,t1.2.e7,t1.2.eh4,t1.2.w6,t1.2.eh5⟩) z)) z) z) (e 2))
noncomputable def xa2 (p:T9) (s:A9):Stp A9:=(sel (Nat.beq s.ph 1) (S4 .next .exit .fail p s) (S3 .next .exit .fail p s))
noncomputable def Xa4:Lo T9 A9:=⟨En Ja2,0,qe4,[1,1,1,1,1,0,1,4,4,1,4,4],[1,9,10,60,62,63,64,66,67],(.s .p (.s .p (.s (.b (.s .p (.s .p (.b (.u Xa3.lsM))))) .p))),[⟨((.s (.o .unk))::((.s (.o (.ptr 0 0 0 0)))::(ru2 7 ((.s (.o (.int .i64)))::((.s (.o (.int .i64)))::(ru2 49 ((.s (.o (.lit .i64 0)))::((.s (.o .unk))::((.s (.o (.ptr 1 0 0 0)))::((.s (.o .nil))::((.s (.o (.lit .i64 0)))::((.s (.o .unk))::((.s (.o (.ptr 2 0 0 0)))::((.s (.o (.ptr 3 0 0 0)))::(ru2 28 []))))))))))))))),[⟨0,1,true,(some [[(.c 3 (nL tV))]])⟩,⟨0,1,true,(some [[(.c 3 (nL tV))]])⟩,⟨0,0,true,(some [[(.o (.ptr 4 0 0 0))]])⟩,⟨0,0,true,(some [[(.o .nil)]])⟩,⟨143,0,true,none⟩],fun a H=>(⟨(toI (slT a 9))⟩,⟨0,(toI (slT a 10)),(rL tV (slT (rwT (elT H 0) 0) 0)),(rL tV (slT (rwT (elT H 1) 0) 0)),(elT H 4),0,[]⟩)⟩,⟨((.s (.o .unk))::((.s (.o (.ptr 0 0 0 0)))::(ru2 7 ((.s (.o (.int .i64)))::((.s (.o (.int .i64)))::(ru2 49 ((.s (.o (.lit .i64 0)))::((.s (.o .unk))::((.s (.o (.ptr 1 0 0 0)))::((.s (.o .nil))::((.s (.o (.lit .i64 0)))::((.s (.o .unk))::((.s (.o (.ptr 2 0 0 0)))::((.s (.o (.ptr 3 0 0 0)))::(ru2 28 []))))))))))))))),[⟨0,1,true,(some [[(.c 3 (nL tV))]])⟩,⟨0,1,true,(some [[(.c 3 (nL tV))]])⟩,⟨0,0,true,(some [[(.o (.ptr 4 0 0 0))]])⟩,⟨0,0,true,(some [[(.o (.sl 5 0 (some 0) none))]])⟩,⟨143,0,true,none⟩,⟨73,4,true,none⟩],fun a H=>(⟨(toI (slT a 9))⟩,⟨1,(toI (slT a 10)),(rL tV (slT (rwT (elT H 0) 0) 0)),(rL tV (slT (rwT (elT H 1) 0) 0)),(elT H 4),(slN (slT (rwT (elT H 3) 0) 0)),(elT H 5)⟩)⟩],xa2,[(some 0,fun p s=>⟨(.unk::((.ptr 0 0 0 0)::(ra 7 ((i p.is9)::((i s.k8)::((b (decide (s.k8 < p.is9)))::(ra 48 ((i 0)::(.unk::((.ptr 1 0 0 0)::((.v (.slice none 0 0))::((i 0)::(.unk::((.ptr 2 0 0 0)::((.ptr 3 0 0 0)::(ra 28 [])))))))))))))))),[⟨0,1,[[(eL tV s.b8)]],true,false,0⟩,⟨0,1,[[(eL tV s.e7)]],true,false,0⟩,⟨0,0,[[(.ptr 4 0 0 0)]],true,false,0⟩,⟨0,0,[[(.v (.slice none 0 0))]],true,false,0⟩,⟨143,0,s.eh4,true,false,0⟩]⟩),(some 0,fun p s=>⟨(.unk::((.ptr 0 0 0 0)::(ra 7 ((i p.is9)::((i s.k8)::((b (decide (s.k8 < p.is9)))::(ra 48 ((i 0)::(.unk::((.ptr 1 0 0 0)::((.v (.slice none 0 0))::((i 0)::(.unk::((.ptr 2 0 0 0)::((.ptr 3 0 0 0)::(ra 28 [])))))))))))))))),[⟨0,1,[[(eL tV s.b8)]],true,false,0⟩,⟨0,1,[[(eL tV s.e7)]],true,false,0⟩,⟨0,0,[[(.ptr 4 0 0 0)]],true,false,0⟩,⟨0,0,[[(.sl 5 0 s.w6 0)]],true,false,0⟩,⟨143,0,s.eh4,true,false,0⟩,⟨73,4,s.eh5,true,false,0⟩]⟩)],mc7⟩
theorem mc8:Xa4.OkM:=Lo.okM [Xa3.prM] (by kernel_rfl) (.cons mc6 .nil) rfl (.cons (fun a H=>by kernel_rfl) (.cons (fun a H=>by kernel_rfl) .nil)) fun p s=>(.sel (Nat.beq s.ph 1) (.of @S4 (fun F _ _ _ _ _=>by unfold S4;(repeat' apply o9 (f:=F))<;>rfl) (by kernel_rfl)) (.of @S3 (fun F _ _ _ _ _=>by unfold S3;(repeat' apply o9 (f:=F))<;>rfl) (by kernel_rfl)))
noncomputable def ka6 (x:V3×List V3):Option (b7×List b9):=let t1:=(Ca8 (rt tV (x.1::x.2)));let t2:=(Na1 (hC tV (fun k=>(tV).row (gL tV (x.1::x.2) k)),tC tV (List.length x.2) (fun k=>(tV).row (gL tV (x.1::x.2) k))));let t3:=(lp (xa2 (⟨(↑(List.length t2):Int)⟩:T9)) (⟨0,0,(rt tV t2),(rt tV t2),[],0,[]⟩:A9));(sl (okE tV (x.1::x.2)) (sl (Ca9 (rt tV (x.1::x.2))) (sl (t1 != 0) (some ((.tup [(.v (.slice none 0 0)),(i t1)]),[])) (sl (okL tV (List.length x.2+1) (fun k=>(tV).row (gL tV (x.1::x.2) k))) (sl (Na2 (hC tV (fun k=>(tV).row (gL tV (x.1::x.2) k)),tC tV (List.length x.2) (fun k=>(tV).row (gL tV (x.1::x.2) k)))) (sl ((cnE tV t2)&&((cnE tV t2)&&true)) (sl (Nat.beq t3.1 1) none (sl (Nat.beq t3.1 2) (sl (Bool.and (Nat.ble t3.2.w6 room) (Bool.and (Nat.ble t3.2.w6 (len t3.2.eh5)) (okS tP t3.2.eh5 0 t3.2.w6))) (some ((.tup [(.sl 0 0 t3.2.w6 0),(i 0)]),[⟨73,4,(app (bL tP (Fb3 (slR tP t3.2.eh5 0 t3.2.w6))) (g8 t3.2.eh5 t3.2.w6)),true,false,0⟩])) none) none)) none) none) none)) none) none)
noncomputable def Ra3 (x:V3×List V3):List Pln×Int:=U2 (two (r1L tP) r1I) (ka6 x)
noncomputable def Ra4 (x:V3×List V3):Bool:=okO (two (r1L tP) r1I) (ka6 x)
noncomputable def Rb7:Sum:=Y1 (id5 tV) (fun x=>.guard (Ra4 x) (.ret ((two (r1L tP) r1I).enc (Ra3 x),[])))
theorem Gb0:i4 prog G 64 Rb7:=Ua2 (bd b64 Ac6) (two (r1L tP) r1I) (o:=ka6) fun x=>ld3 (.s .p (.s .p (.s .p (.s .p (.s .p (.s (.s .p (.b (.i (.s .p (.b (.u Xa4.lsM)))))) .p)))))) [Xa4.prM] (by kernel_rfl) (.cons mc8 .nil) (by kernel_rfl)
end Go.Ev.Ce
end
section
namespace Go.Ev.Ce
open Go Go.Ev Go.Ev.L Go.Proofs
set_option maxRecDepth 100000
structure xa3 where
 ca7:Int
 ca8:Int
 ca9:Int
 Hb7:Int
 c9:Int
 c7:Int
 d7:Int
noncomputable def bc5:List (Nat×Sum):=[(83,Ka9)]
theorem Rb8:j9 prog G bc5:=⟨Qa0,trivial⟩
structure xa4 where
 bs0:Bool
noncomputable def ea5 {α:Type} (kk:xa4→α) (x:xa3):α:=let t1:=(j7 (⟨x.c9,x.c7,x.d7⟩:V3) (⟨x.ca7,x.ca8,x.ca9⟩:V3));(kk ⟨(t1 != 0)⟩)
noncomputable def Na3 (x:xa3):xa4:=ea5 (fun r=>r) x
noncomputable def Ha1 (x:xa3) (r:xa4):DT (b7×List b9):=.ret ((b r.bs0),[⟨0,3,[[(i x.c9),(i x.c7),(i x.d7)]],true,false,0⟩])
theorem mc9 {α β:Type} (F:α→β) (kk:xa4→α) (x:xa3):F (ea5 kk x)=ea5 (fun r=>F (kk r)) x:=by unfold ea5;(repeat' apply o9 (f:=F))<;>rfl
noncomputable def qb7:Sum:=Ua3 ⟨[(.agg [(.o (.int .i64)),(.o (.int .i64)),(.o (.int .i64)),(.o (.int .i64))]),(.s (.o (.ptr 0 0 0 0)))],[⟨0,3,true,(some [[(.o (.int .i64)),(.o (.int .i64)),(.o (.int .i64))]])⟩],fun a H=>(⟨(toI (slT (cellsOf (slT a 0)) 0)),(toI (slT (cellsOf (slT a 0)) 1)),(toI (slT (cellsOf (slT a 0)) 2)),(toI (slT (cellsOf (slT a 0)) 3)),(toI (slT (rwT (elT H 0) 0) 0)),(toI (slT (rwT (elT H 0) 0) 1)),(toI (slT (rwT (elT H 0) 0) 2))⟩,())⟩ (fun x=>Ha1 x (Na3 x))
theorem bc6:i4 prog G 143 qb7:=P8 (enc:=fun x=>⟨[(.agg [(i x.ca7),(i x.ca8),(i x.ca9),(i x.Hb7)]),(.ptr 0 0 0 0)],[⟨0,3,[[(i x.c9),(i x.c7),(i x.d7)]],true,false,0⟩]⟩) (fun a H=>by kernel_rfl) (bd af3 Rb8) fun x=>A0 (Eq.trans (b:=ea5 (fun r=>(Ha1 x r).run) x) (by kernel_rfl) (mc9 (fun r=>(Ha1 x r).run) (fun r=>r) x).symm)
structure P9 where
 n8:List Pln
 c9:Int
 c7:Int
 d7:Int
noncomputable def qa7:List (Nat×Sum):=[(143,qb7)]
theorem Ra5:j9 prog G qa7:=⟨bc6,trivial⟩
structure E1 where
 n8:List Pln
 is7:Int
 c9:Int
 c7:Int
 d7:Int
structure m8 where
 is8:Int
noncomputable def Na4 (p:E1) (s:m8):St:=⟨((eL tP p.n8)::((.fn 143 [(.ptr 0 0 0 0)])::(ra 5 ((i p.is7)::((i s.is8)::(ra 10 [])))))),[⟨0,3,[[(i p.c9),(i p.c7),(i p.d7)]],true,false,0⟩]⟩
noncomputable def C3 {α:Type} (k:m8→α) (e:Nat→α) (z:α) (p:E1) (s:m8):α:=let t1:=(Na3 ⟨(gL tP p.n8 s.is8.toNat).n.x,(gL tP p.n8 s.is8.toNat).n.y,(gL tP p.n8 s.is8.toNat).n.z,(gL tP p.n8 s.is8.toNat).b,p.c9,p.c7,p.d7⟩);(sl (decide (s.is8 < p.is7)) (sl (inB s.is8 (List.length p.n8)) (sl t1.bs0 (e 1) (k ⟨(W (s.is8+1))⟩)) z) (e 2))
noncomputable def D3 (p:E1) (s:m8):Stp m8:=C3 .next .exit .fail p s
noncomputable def Z5:Lo E1 m8:=⟨En qa7,1,Zd2,[1,0,1,4,4],[0,1,7,8],.p,[⟨((.s (.c 4 (nL tP)))::((.fn 143 [(.o (.ptr 0 0 0 0))])::(ru2 5 ((.s (.o (.int .i64)))::((.s (.o (.int .i64)))::(ru2 10 [])))))),[⟨0,3,true,(some [[(.o (.int .i64)),(.o (.int .i64)),(.o (.int .i64))]])⟩],fun a H=>(⟨(rL tP (slT a 0)),(toI (slT a 7)),(toI (slT (rwT (elT H 0) 0) 0)),(toI (slT (rwT (elT H 0) 0) 1)),(toI (slT (rwT (elT H 0) 0) 2))⟩,⟨(toI (slT a 8))⟩)⟩],D3,[(none,fun p s=>⟨[(i s.is8)],[⟨0,3,[[(i p.c9),(i p.c7),(i p.d7)]],true,false,0⟩]⟩),(some 0,fun p s=>⟨((eL tP p.n8)::((.fn 143 [(.ptr 0 0 0 0)])::(ra 5 ((i p.is7)::((i s.is8)::((b (decide (s.is8 < p.is7)))::(ra 9 []))))))),[⟨0,3,[[(i p.c9),(i p.c7),(i p.d7)]],true,false,0⟩]⟩)],Na4⟩
theorem Na5:Z5.Ok:=Lo.ok [] (by kernel_rfl) .nil rfl (.cons (fun a H=>by kernel_rfl) .nil) fun p s=>(.of @C3 (fun F _ _ _ _ _=>by unfold C3;(repeat' apply o9 (f:=F))<;>rfl) (by kernel_rfl))
structure Q0 where
 alt:Nat
 is0:Int
noncomputable def C5 {α:Type} (kk:Q0→α) (x:P9):α:=let t1:=(lp (D3 (⟨(rt tP x.n8),(↑(List.length x.n8):Int),x.c9,x.c7,x.d7⟩:E1)) (⟨0⟩:m8));(sl ((cnE tP x.n8)&&true) (sl (Nat.beq t1.1 1) (kk ⟨1,t1.2.is8⟩) (sl (Nat.beq t1.1 2) (kk ⟨1,(-1)⟩) (kk ⟨0,0⟩))) (kk ⟨0,0⟩))
noncomputable def Q1 (x:P9):Q0:=C5 (fun r=>r) x
noncomputable def ca2 (x:P9) (r:Q0):DT (b7×List b9):=(.ite (Nat.beq r.alt 1) (.ret ((i r.is0),[⟨0,3,[[(i x.c9),(i x.c7),(i x.d7)]],true,false,0⟩])) .fail)
theorem ab0 {α β:Type} (F:α→β) (kk:Q0→α) (x:P9):F (C5 kk x)=C5 (fun r=>F (kk r)) x:=by unfold C5;(repeat' apply o9 (f:=F))<;>rfl
noncomputable def ta3:Sum:=Ua3 ⟨[(.s (.c 4 (nL tP))),(.fn 143 [(.o (.ptr 0 0 0 0))])],[⟨0,3,true,(some [[(.o (.int .i64)),(.o (.int .i64)),(.o (.int .i64))]])⟩],fun a H=>(⟨(rL tP (slT a 0)),(toI (slT (rwT (elT H 0) 0) 0)),(toI (slT (rwT (elT H 0) 0) 1)),(toI (slT (rwT (elT H 0) 0) 2))⟩,())⟩ (fun x=>ca2 x (Q1 x))
theorem Xa5:i4 prog G 139 ta3:=P8 (enc:=fun x=>⟨[(eL tP x.n8),(.fn 143 [(.ptr 0 0 0 0)])],[⟨0,3,[[(i x.c9),(i x.c7),(i x.d7)]],true,false,0⟩]⟩) (fun a H=>by kernel_rfl) (bd Re5 Ra5) fun x=>Pa9 (.s .p (.s (.s .p (.b (.u Z5.ls))) .p)) [Z5.pr] (by kernel_rfl) (.cons Na5 .nil) (Eq.trans (b:=C5 (fun r=>(ca2 x r).run) x) (by kernel_rfl) (ab0 (fun r=>(ca2 x r).run) (fun r=>r) x).symm)
structure L0 where
 n8:List Pln
 c9:Int
 c7:Int
 d7:Int
noncomputable def La2:List (Nat×Sum):=[(139,ta3)]
theorem Ha2:j9 prog G La2:=⟨Xa5,trivial⟩
structure L1 where
 alt:Nat
 bs0:Bool
noncomputable def w7 {α:Type} (kk:L1→α) (x:L0):α:=let t1:=(Q1 ⟨(rt tP x.n8),x.c9,x.c7,x.d7⟩);(sl ((cnE tP x.n8)&&true) (sl (Nat.beq t1.alt 1) (kk ⟨1,(decide (t1.is0≥0))⟩) (kk ⟨0,false⟩)) (kk ⟨0,false⟩))
noncomputable def L2 (x:L0):L1:=w7 (fun r=>r) x
noncomputable def U0 (x:L0) (r:L1):DT (b7×List b9):=(.ite (Nat.beq r.alt 1) (.ret ((b r.bs0),[⟨0,3,[[(i x.c9),(i x.c7),(i x.d7)]],true,false,0⟩])) .fail)
theorem Na6 {α β:Type} (F:α→β) (kk:L1→α) (x:L0):F (w7 kk x)=w7 (fun r=>F (kk r)) x:=by unfold w7;(repeat' apply o9 (f:=F))<;>rfl
noncomputable def la8:Sum:=Ua3 ⟨[(.s (.c 4 (nL tP))),(.fn 143 [(.o (.ptr 0 0 0 0))])],[⟨0,3,true,(some [[(.o (.int .i64)),(.o (.int .i64)),(.o (.int .i64))]])⟩],fun a H=>(⟨(rL tP (slT a 0)),(toI (slT (rwT (elT H 0) 0) 0)),(toI (slT (rwT (elT H 0) 0) 1)),(toI (slT (rwT (elT H 0) 0) 2))⟩,())⟩ (fun x=>U0 x (L2 x))
theorem La3:i4 prog G 86 la8:=P8 (enc:=fun x=>⟨[(eL tP x.n8),(.fn 143 [(.ptr 0 0 0 0)])],[⟨0,3,[[(i x.c9),(i x.c7),(i x.d7)]],true,false,0⟩]⟩) (fun a H=>by kernel_rfl) (bd b86 Ha2) fun x=>A0 (Eq.trans (b:=w7 (fun r=>(U0 x r).run) x) (by kernel_rfl) (Na6 (fun r=>(U0 x r).run) (fun r=>r) x).symm)
noncomputable def Xa6:List (Nat×Sum):=[(142,db7),(86,la8)]
theorem nc0:j9 prog G Xa6:=⟨wb2,La3,trivial⟩
structure la9 where
 n8:List Pln
 kb4:List Pln
 is9:Int
 k8:Int
 Le7:Nat
 Cd3:Nat→List b7
 ia2:Int
 c9:Int
 c7:Int
 d7:Int
 j6:Int
structure O9 where
 fc7:Int
noncomputable def bc7 (p:la9) (s:O9):St:=⟨((eL tP p.n8)::(ra 3 ((.ptr 0 0 0 0)::(ra 3 ((eL tP p.kb4)::((i p.is9)::((i p.k8)::(ra 6 ((.tree 4 p.Le7 p.Cd3)::((i p.ia2)::((i s.fc7)::(ra 18 [])))))))))))),[⟨0,4,[[(i p.c9),(i p.c7),(i p.d7),(i p.j6)]],true,false,0⟩]⟩
noncomputable def fa8 {α:Type} (k:O9→α) (e:Nat→α) (z:α) (p:la9) (s:O9):α:=let t1:=(aa0 (⟨p.c9,p.c7,p.d7⟩:V3) (⟨(toI (hdA (p.Cd3 s.fc7.toNat))),(toI (hdA (tlA (p.Cd3 s.fc7.toNat)))),(toI (hdA (tlA (tlA (p.Cd3 s.fc7.toNat)))))⟩:V3));let t2:=(L2 ⟨(rt tP p.n8),t1.x,t1.y,t1.z⟩);(sl (decide (s.fc7 < p.ia2)) (sl (inB s.fc7 p.Le7) (sl ((Nat.ble 4 (len (p.Cd3 s.fc7.toNat)))&&(ba3 [(CK.int .i64),(CK.int .i64),(CK.int .i64),(CK.int .i64)] (p.Cd3 s.fc7.toNat))) (sl (!((t1.x==0)&&((t1.y==0)&&((t1.z==0)&&true)))) (sl ((cnE tP p.n8)&&true) (sl (Nat.beq t2.alt 1) (sl t2.bs0 (e 1) (k ⟨(W (s.fc7+1))⟩)) z) z) (k ⟨(W (s.fc7+1))⟩)) z) z) (e 2))
noncomputable def aa7 (p:la9) (s:O9):Stp O9:=fa8 .next .exit .fail p s
noncomputable def Na7:Lo la9 O9:=⟨En Xa6,0,Ge1,[1,0,1,4,4,1,1,0,4,1,1,4,4],[0,4,8,9,10,17,18,19],.p,[⟨((.s (.c 4 (nL tP)))::(ru2 3 ((.s (.o (.ptr 0 0 0 0)))::(ru2 3 ((.s (.c 4 (nL tP)))::((.s (.o (.int .i64)))::((.s (.o (.int .i64)))::(ru2 6 ((.s (.o (.tree 4)))::((.s (.o (.int .i64)))::((.s (.o (.int .i64)))::(ru2 18 [])))))))))))),[⟨0,4,true,(some [[(.o (.int .i64)),(.o (.int .i64)),(.o (.int .i64)),(.o (.int .i64))]])⟩],fun a H=>(⟨(rL tP (slT a 0)),(rL tP (slT a 8)),(toI (slT a 9)),(toI (slT a 10)),(toN (slT a 17)),(toG (slT a 17)),(toI (slT a 18)),(toI (slT (rwT (elT H 0) 0) 0)),(toI (slT (rwT (elT H 0) 0) 1)),(toI (slT (rwT (elT H 0) 0) 2)),(toI (slT (rwT (elT H 0) 0) 3))⟩,⟨(toI (slT a 19))⟩)⟩],aa7,[(none,fun p s=>⟨[(b true)],[]⟩),(some 2,fun p s=>⟨((eL tP p.n8)::(ra 3 ((.ptr 0 0 0 0)::(ra 3 ((eL tP p.kb4)::((i p.is9)::((i p.k8)::(ra 6 ((.tree 4 p.Le7 p.Cd3)::((i p.ia2)::((i s.fc7)::((b (decide (s.fc7 < p.ia2)))::(ra 17 []))))))))))))),[⟨0,4,[[(i p.c9),(i p.c7),(i p.d7),(i p.j6)]],true,false,0⟩]⟩)],bc7⟩
theorem bc8:Na7.Ok:=Lo.ok [] (by kernel_rfl) .nil rfl (.cons (fun a H=>by kernel_rfl) .nil) fun p s=>(.of @fa8 (fun F _ _ _ _ _=>by unfold fa8;(repeat' apply o9 (f:=F))<;>rfl) (by kernel_rfl))
structure ma0 where
 is9:Int
structure P0 where
 n8:List Pln
 kb4:List Pln
 k8:Int
noncomputable def bc9 (p:ma0) (s:P0):St:=⟨((eL tP s.n8)::(ra 7 ((eL tP s.kb4)::((i p.is9)::((i s.k8)::(ra 27 [])))))),[]⟩
noncomputable def fa9 {α:Type} (k:P0→α) (e:Nat→α) (z:α) (p:ma0) (s:P0):α:=let t1:=(lp (aa7 (⟨(rt tP s.n8),(rt tP s.kb4),p.is9,s.k8,(s.k8.toNat - 0),(fun k=>(fun k=>(tP).row (gL tP s.n8 k)) (0+k)),(↑(s.k8.toNat - 0):Int),(gL tP s.kb4 s.k8.toNat).n.x,(gL tP s.kb4 s.k8.toNat).n.y,(gL tP s.kb4 s.k8.toNat).n.z,(gL tP s.kb4 s.k8.toNat).b⟩:la9)) (⟨0⟩:O9));(sl (decide (s.k8 < p.is9)) (sl (inB s.k8 (List.length s.kb4)) (sl (inB s.k8 ((List.length s.n8)+1)) (sl ((cnE tP s.n8)&&((cnE tP s.kb4)&&true)) (sl (Nat.beq t1.1 1) (e 1) (sl (Nat.beq t1.1 2) (k ⟨(rt tP s.n8),(rt tP s.kb4),(W (s.k8+1))⟩) z)) z) z) z) (e 2))
noncomputable def aa8 (p:ma0) (s:P0):Stp P0:=fa9 .next .exit .fail p s
noncomputable def Na8:Lo ma0 P0:=⟨En Xa6,0,Ge1,[1,0,1,4,4],[0,8,9,10],(.s .p (.s .p (.s (.b (.s .p (.s .p (.b (.u Na7.ls))))) .p))),[⟨((.s (.c 4 (nL tP)))::(ru2 7 ((.s (.c 4 (nL tP)))::((.s (.o (.int .i64)))::((.s (.o (.int .i64)))::(ru2 27 [])))))),[],fun a H=>(⟨(toI (slT a 9))⟩,⟨(rL tP (slT a 0)),(rL tP (slT a 8)),(toI (slT a 10))⟩)⟩],aa8,[(none,fun p s=>⟨[(b true)],[]⟩),(some 0,fun p s=>⟨((eL tP s.n8)::(ra 7 ((eL tP s.kb4)::((i p.is9)::((i s.k8)::((b (decide (s.k8 < p.is9)))::(ra 26 []))))))),[]⟩)],bc9⟩
theorem cc2:Na8.Ok:=Lo.ok [Na7.pr] (by kernel_rfl) (.cons bc8 .nil) rfl (.cons (fun a H=>by kernel_rfl) .nil) fun p s=>(.of @fa9 (fun F _ _ _ _ _=>by unfold fa9;(repeat' apply o9 (f:=F))<;>rfl) (by kernel_rfl))
noncomputable def va4 (x:List Pln):Option (b7×List b9):=let t1:=(lp (aa8 (⟨(↑(List.length x):Int)⟩:ma0)) (⟨(rt tP x),(rt tP x),0⟩:P0));(sl ((cnE tP x)&&((cnE tP x)&&true)) (sl (Nat.beq t1.1 1) (some ((b true),[])) (sl (Nat.beq t1.1 2) (some ((b false),[])) none)) none)
noncomputable def na1 (x:List Pln):Bool:=U2 (one r1B) (va4 x)
noncomputable def na2 (x:List Pln):Bool:=okO (one r1B) (va4 x)
noncomputable def Gb1:Sum:=Y1 (ta7 tP) (fun x=>.guard (na2 x) (.ret ((one r1B).enc (na1 x),[])))
theorem Ac7:i4 prog G 90 Gb1:=Ua2 (bd b90 nc0) (one r1B) (o:=va4) fun x=>Pa9 (.s .p (.s (.s .p (.b (.u Na8.ls))) .p)) [Na8.pr] (by kernel_rfl) (.cons cc2 .nil) (by kernel_rfl)
structure sa6 where
 ca7:Int
 ca8:Int
 ca9:Int
 r4:List Pln
noncomputable def cb3:List (Nat×Sum):=[(88,Ca4),(90,Gb1)]
theorem Kb9:j9 prog G cb3:=⟨Ia8,Ac7,trivial⟩
structure F9 where
 Fa1:List Pln
 is8:Int
 r4:List Pln
 C9:Int
 D0:Int
 D1:Int
structure l9 where
 ph:Nat
 is9:Int
 ns4:Nat
 eh2:List (List b7)
noncomputable def xb1 (p:F9) (s:l9):St:=⟨(.unk::(.unk::((.ptr 1 0 0 0)::(.unk::((.v (.slice none 0 0))::(.unk::(.unk::((eL tP p.Fa1)::((i p.is8)::((i s.is9)::(ra 15 []))))))))))),[⟨0,1,[[(eL tP p.r4)]],true,false,0⟩,⟨0,3,[[(i p.C9),(i p.D0),(i p.D1)]],true,false,0⟩]⟩
noncomputable def xb2 (p:F9) (s:l9):St:=⟨(.unk::(.unk::((.ptr 1 0 0 0)::(.unk::((.sl 2 0 s.ns4 0)::(.unk::(.unk::((eL tP p.Fa1)::((i p.is8)::((i s.is9)::(ra 15 []))))))))))),[⟨0,1,[[(eL tP p.r4)]],true,false,0⟩,⟨0,3,[[(i p.C9),(i p.D0),(i p.D1)]],true,false,0⟩,⟨73,4,s.eh2,true,false,0⟩]⟩
noncomputable def Db3 (p:F9) (s:l9):St:=(sel (Nat.beq s.ph 1) (xb2 p s) (xb1 p s))
noncomputable def G3 {α:Type} (k:l9→α) (e:Nat→α) (z:α) (p:F9) (s:l9):α:=let t1:=(fa3 (gL tP p.Fa1 s.is9.toNat) (⟨p.C9,p.D0,p.D1⟩:V3));(sl (decide (s.is9 < p.is8)) (sl (inB s.is9 (List.length p.Fa1)) (sl (fa4 (gL tP p.Fa1 s.is9.toNat) (⟨p.C9,p.D0,p.D1⟩:V3)) (sl (t1==0) (k ⟨1,(W (s.is9+1)),1,[[(i (gL tP p.Fa1 s.is9.toNat).n.x),(i (gL tP p.Fa1 s.is9.toNat).n.y),(i (gL tP p.Fa1 s.is9.toNat).n.z),(i (gL tP p.Fa1 s.is9.toNat).b)]]⟩) (k ⟨0,(W (s.is9+1)),0,[]⟩)) z) z) (e 1))
noncomputable def G4 {α:Type} (k:l9→α) (e:Nat→α) (z:α) (p:F9) (s:l9):α:=let t1:=(fa3 (gL tP p.Fa1 s.is9.toNat) (⟨p.C9,p.D0,p.D1⟩:V3));(sl (decide (s.is9 < p.is8)) (sl (inB s.is9 (List.length p.Fa1)) (sl (fa4 (gL tP p.Fa1 s.is9.toNat) (⟨p.C9,p.D0,p.D1⟩:V3)) (sl (t1==0) (sl (Nat.beq s.ns4 (len s.eh2)&&Nat.ble ((s.ns4+1)*32) room) (k ⟨1,(W (s.is9+1)),(s.ns4+1),(app s.eh2 [[(i (gL tP p.Fa1 s.is9.toNat).n.x),(i (gL tP p.Fa1 s.is9.toNat).n.y),(i (gL tP p.Fa1 s.is9.toNat).n.z),(i (gL tP p.Fa1 s.is9.toNat).b)]])⟩) z) (k ⟨1,(W (s.is9+1)),s.ns4,s.eh2⟩)) z) z) (e 2))
noncomputable def ia5 (p:F9) (s:l9):Stp l9:=(sel (Nat.beq s.ph 1) (G4 .next .exit .fail p s) (G3 .next .exit .fail p s))
noncomputable def za1:Lo F9 l9:=⟨En cb3,1,Oe5,[1,1,0,1,4,4],[2,4,7,8,9],.p,[⟨((.s (.o .unk))::((.s (.o .unk))::((.s (.o (.ptr 1 0 0 0)))::((.s (.o .unk))::((.s (.o .nil))::((.s (.o .unk))::((.s (.o .unk))::((.s (.c 4 (nL tP)))::((.s (.o (.int .i64)))::((.s (.o (.int .i64)))::(ru2 15 []))))))))))),[⟨0,1,true,(some [[(.c 4 (nL tP))]])⟩,⟨0,3,true,(some [[(.o (.int .i64)),(.o (.int .i64)),(.o (.int .i64))]])⟩],fun a H=>(⟨(rL tP (slT a 7)),(toI (slT a 8)),(rL tP (slT (rwT (elT H 0) 0) 0)),(toI (slT (rwT (elT H 1) 0) 0)),(toI (slT (rwT (elT H 1) 0) 1)),(toI (slT (rwT (elT H 1) 0) 2))⟩,⟨0,(toI (slT a 9)),0,[]⟩)⟩,⟨((.s (.o .unk))::((.s (.o .unk))::((.s (.o (.ptr 1 0 0 0)))::((.s (.o .unk))::((.s (.o (.sl 2 0 (some 0) none)))::((.s (.o .unk))::((.s (.o .unk))::((.s (.c 4 (nL tP)))::((.s (.o (.int .i64)))::((.s (.o (.int .i64)))::(ru2 15 []))))))))))),[⟨0,1,true,(some [[(.c 4 (nL tP))]])⟩,⟨0,3,true,(some [[(.o (.int .i64)),(.o (.int .i64)),(.o (.int .i64))]])⟩,⟨73,4,true,none⟩],fun a H=>(⟨(rL tP (slT a 7)),(toI (slT a 8)),(rL tP (slT (rwT (elT H 0) 0) 0)),(toI (slT (rwT (elT H 1) 0) 0)),(toI (slT (rwT (elT H 1) 0) 1)),(toI (slT (rwT (elT H 1) 0) 2))⟩,⟨1,(toI (slT a 9)),(slN (slT a 4)),(elT H 2)⟩)⟩],ia5,[(some 0,fun p s=>⟨(.unk::(.unk::((.ptr 1 0 0 0)::(.unk::((.v (.slice none 0 0))::(.unk::(.unk::((eL tP p.Fa1)::((i p.is8)::((i s.is9)::((b (decide (s.is9 < p.is8)))::(ra 14 [])))))))))))),[⟨0,1,[[(eL tP p.r4)]],true,false,0⟩,⟨0,3,[[(i p.C9),(i p.D0),(i p.D1)]],true,false,0⟩]⟩),(some 0,fun p s=>⟨(.unk::(.unk::((.ptr 1 0 0 0)::(.unk::((.sl 2 0 s.ns4 0)::(.unk::(.unk::((eL tP p.Fa1)::((i p.is8)::((i s.is9)::((b (decide (s.is9 < p.is8)))::(ra 14 [])))))))))))),[⟨0,1,[[(eL tP p.r4)]],true,false,0⟩,⟨0,3,[[(i p.C9),(i p.D0),(i p.D1)]],true,false,0⟩,⟨73,4,s.eh2,true,false,0⟩]⟩)],Db3⟩
theorem Db4:za1.Ok:=Lo.ok [] (by kernel_rfl) .nil rfl (.cons (fun a H=>by kernel_rfl) (.cons (fun a H=>by kernel_rfl) .nil)) fun p s=>(.sel (Nat.beq s.ph 1) (.of @G4 (fun F _ _ _ _ _=>by unfold G4;(repeat' apply o9 (f:=F))<;>rfl) (by kernel_rfl)) (.of @G3 (fun F _ _ _ _ _=>by unfold G3;(repeat' apply o9 (f:=F))<;>rfl) (by kernel_rfl)))
structure sa7 where
 alt:Nat
 bs0:Bool
 r4:List Pln
noncomputable def aa9 {α:Type} (kk:sa7→α) (x:sa6):α:=let t1:=(lp (ia5 (⟨(rt tP x.r4),(↑(List.length x.r4):Int),(rt tP x.r4),x.ca7,x.ca8,x.ca9⟩:F9)) (⟨0,0,0,[]⟩:l9));let t2:=(na1 []);let t3:=(na1 (slR tP t1.2.eh2 0 t1.2.ns4));(sl ((cnE tP x.r4)&&((cnE tP x.r4)&&true)) (sl (Nat.beq t1.1 1) (sl (na2 []) (kk ⟨1,(!t2),(rt tP x.r4)⟩) (kk ⟨0,false,[]⟩)) (sl (Nat.beq t1.1 2) (sl (okS tP t1.2.eh2 0 t1.2.ns4) (sl (na2 (slR tP t1.2.eh2 0 t1.2.ns4)) (kk ⟨1,(!t3),(rt tP x.r4)⟩) (kk ⟨0,false,[]⟩)) (kk ⟨0,false,[]⟩)) (kk ⟨0,false,[]⟩))) (kk ⟨0,false,[]⟩))
noncomputable def S5 (x:sa6):sa7:=aa9 (fun r=>r) x
noncomputable def Da4 (x:sa6) (r:sa7):DT (b7×List b9):=(.ite (Nat.beq r.alt 1) (.ret ((b r.bs0),[⟨0,1,[[(eL tP r.r4)]],true,false,0⟩])) .fail)
theorem cc3 {α β:Type} (F:α→β) (kk:sa7→α) (x:sa6):F (aa9 kk x)=aa9 (fun r=>F (kk r)) x:=by unfold aa9;(repeat' apply o9 (f:=F))<;>rfl
noncomputable def Ha3:Sum:=Ua3 ⟨[(.agg [(.o (.int .i64)),(.o (.int .i64)),(.o (.int .i64))]),(.s (.o (.ptr 0 0 0 0)))],[⟨0,1,true,(some [[(.c 4 (nL tP))]])⟩],fun a H=>(⟨(toI (slT (cellsOf (slT a 0)) 0)),(toI (slT (cellsOf (slT a 0)) 1)),(toI (slT (cellsOf (slT a 0)) 2)),(rL tP (slT (rwT (elT H 0) 0) 0))⟩,())⟩ (fun x=>Da4 x (S5 x))
theorem cb4:i4 prog G 89 Ha3:=P8 (enc:=fun x=>⟨[(.agg [(i x.ca7),(i x.ca8),(i x.ca9)]),(.ptr 0 0 0 0)],[⟨0,1,[[(eL tP x.r4)]],true,false,0⟩]⟩) (fun a H=>by kernel_rfl) (bd b89 Kb9) fun x=>Pa9 (.s .p (.s .p (.s (.s .p (.b (.u za1.ls))) .p))) [za1.pr] (by kernel_rfl) (.cons Db4 .nil) (Eq.trans (b:=aa9 (fun r=>(Da4 x r).run) x) (by kernel_rfl) (cc3 (fun r=>(Da4 x r).run) (fun r=>r) x).symm)
structure W0 where
 ns0:Nat
 eh0:List (List b7)
 r5:List Pln
noncomputable def va5:List (Nat×Sum):=[(89,Ha3)]
theorem ab1:j9 prog G va5:=⟨cb4,trivial⟩
structure I8 where
 ns0:Nat
 is7:Int
 eh0:List (List b7)
structure o8 where
 is8:Int
 r5:List Pln
noncomputable def Xa7 (p:I8) (s:o8):St:=⟨((.sl 0 0 p.ns0 0)::((.fn 89 [(.ptr 1 0 0 0)])::(ra 5 ((i p.is7)::((i s.is8)::(ra 10 [])))))),[⟨27,3,p.eh0,true,false,0⟩,⟨0,1,[[(eL tP s.r5)]],true,false,0⟩]⟩
noncomputable def E2 {α:Type} (k:o8→α) (e:Nat→α) (z:α) (p:I8) (s:o8):α:=let t1:=(S5 ⟨(rdR tV p.eh0 (0+s.is8.toNat)).x,(rdR tV p.eh0 (0+s.is8.toNat)).y,(rdR tV p.eh0 (0+s.is8.toNat)).z,(rt tP s.r5)⟩);(sl (decide (s.is8 < p.is7)) (sl (inB s.is8 p.ns0) (sl (ldR tV p.eh0 (0+s.is8.toNat)) (sl ((cnE tP s.r5)&&true) (sl (Nat.beq t1.alt 1) (sl t1.bs0 (e 1) (k ⟨(W (s.is8+1)),t1.r4⟩)) z) z) z) z) (e 2))
noncomputable def G5 (p:I8) (s:o8):Stp o8:=E2 .next .exit .fail p s
noncomputable def da6:Lo I8 o8:=⟨En va5,2,ld2,[1,0,1,4,4],[0,1,7,8],.p,[⟨((.s (.o (.sl 0 0 (some 0) none)))::((.fn 89 [(.o (.ptr 1 0 0 0))])::(ru2 5 ((.s (.o (.int .i64)))::((.s (.o (.int .i64)))::(ru2 10 [])))))),[⟨27,3,true,none⟩,⟨0,1,true,(some [[(.c 4 (nL tP))]])⟩],fun a H=>(⟨(slN (slT a 0)),(toI (slT a 7)),(elT H 0)⟩,⟨(toI (slT a 8)),(rL tP (slT (rwT (elT H 1) 0) 0))⟩)⟩],G5,[(none,fun p s=>let t1:=(S5 ⟨(rdR tV p.eh0 (0+s.is8.toNat)).x,(rdR tV p.eh0 (0+s.is8.toNat)).y,(rdR tV p.eh0 (0+s.is8.toNat)).z,(rt tP s.r5)⟩);⟨[(i s.is8)],[⟨27,3,p.eh0,true,false,0⟩,⟨0,1,[[(eL tP t1.r4)]],true,false,0⟩]⟩),(some 0,fun p s=>⟨((.sl 0 0 p.ns0 0)::((.fn 89 [(.ptr 1 0 0 0)])::(ra 5 ((i p.is7)::((i s.is8)::((b (decide (s.is8 < p.is7)))::(ra 9 []))))))),[⟨27,3,p.eh0,true,false,0⟩,⟨0,1,[[(eL tP s.r5)]],true,false,0⟩]⟩)],Xa7⟩
theorem Xa8:da6.Ok:=Lo.ok [] (by kernel_rfl) .nil rfl (.cons (fun a H=>by kernel_rfl) .nil) fun p s=>(.of @E2 (fun F _ _ _ _ _=>by unfold E2;(repeat' apply o9 (f:=F))<;>rfl) (by kernel_rfl))
structure W4 where
 alt:Nat
 is0:Int
 r5:List Pln
noncomputable def E9 {α:Type} (kk:W4→α) (x:W0):α:=let t1:=(lp (G5 (⟨x.ns0,(↑x.ns0:Int),x.eh0⟩:I8)) (⟨0,(rt tP x.r5)⟩:o8));let t2:=(S5 ⟨(rdR tV x.eh0 (0+t1.2.is8.toNat)).x,(rdR tV x.eh0 (0+t1.2.is8.toNat)).y,(rdR tV x.eh0 (0+t1.2.is8.toNat)).z,(rt tP t1.2.r5)⟩);(sl ((cnE tP x.r5)&&true) (sl (Nat.beq t1.1 1) (kk ⟨1,t1.2.is8,t2.r4⟩) (sl (Nat.beq t1.1 2) (kk ⟨1,(-1),t1.2.r5⟩) (kk ⟨0,0,[]⟩))) (kk ⟨0,0,[]⟩))
noncomputable def W5 (x:W0):W4:=E9 (fun r=>r) x
noncomputable def ha8 (x:W0) (r:W4):DT (b7×List b9):=(.ite (Nat.beq r.alt 1) (.ret ((i r.is0),[⟨27,3,x.eh0,true,false,0⟩,⟨0,1,[[(eL tP r.r5)]],true,false,0⟩])) .fail)
theorem ib9 {α β:Type} (F:α→β) (kk:W4→α) (x:W0):F (E9 kk x)=E9 (fun r=>F (kk r)) x:=by unfold E9;(repeat' apply o9 (f:=F))<;>rfl
noncomputable def Aa0:Sum:=Ua3 ⟨[(.s (.o (.sl 0 0 (some 0) none))),(.fn 89 [(.o (.ptr 1 0 0 0))])],[⟨27,3,true,none⟩,⟨0,1,true,(some [[(.c 4 (nL tP))]])⟩],fun a H=>(⟨(slN (slT a 0)),(elT H 0),(rL tP (slT (rwT (elT H 1) 0) 0))⟩,())⟩ (fun x=>ha8 x (W5 x))
theorem fb1:i4 prog G 144 Aa0:=P8 (enc:=fun x=>⟨[(.sl 0 0 x.ns0 0),(.fn 89 [(.ptr 1 0 0 0)])],[⟨27,3,x.eh0,true,false,0⟩,⟨0,1,[[(eL tP x.r5)]],true,false,0⟩]⟩) (fun a H=>by kernel_rfl) (bd qe5 ab1) fun x=>Pa9 (.s .p (.s (.s .p (.b (.u da6.ls))) .p)) [da6.pr] (by kernel_rfl) (.cons Xa8 .nil) (Eq.trans (b:=E9 (fun r=>(ha8 x r).run) x) (by kernel_rfl) (ib9 (fun r=>(ha8 x r).run) (fun r=>r) x).symm)
structure W6 where
 ns0:Nat
 eh0:List (List b7)
 r5:List Pln
noncomputable def va6:List (Nat×Sum):=[(144,Aa0),(89,Ha3)]
theorem ab2:j9 prog G va6:=⟨fb1,cb4,trivial⟩
structure I9 where
 ns0:Nat
structure r6 where
 is5:Int
 is6:Int
 eh0:List (List b7)
 r5:List Pln
noncomputable def Xa9 (p:I9) (s:r6):St:=⟨((.sl 0 0 p.ns0 0)::((.fn 89 [(.ptr 1 0 0 0)])::(ra 3 ((i s.is5)::((i s.is6)::(ra 35 [])))))),[⟨27,3,s.eh0,true,false,0⟩,⟨0,1,[[(eL tP s.r5)]],true,false,0⟩]⟩
noncomputable def E3 {α:Type} (k:r6→α) (e:Nat→α) (z:α) (p:I9) (s:r6):α:=let t1:=(S5 ⟨(rdR tV s.eh0 (0+s.is6.toNat)).x,(rdR tV s.eh0 (0+s.is6.toNat)).y,(rdR tV s.eh0 (0+s.is6.toNat)).z,(rt tP s.r5)⟩);(sl (decide (s.is6 < (↑p.ns0:Int))) (sl (inB s.is6 p.ns0) (sl (ldR tV s.eh0 (0+s.is6.toNat)) (sl ((cnE tP s.r5)&&true) (sl (Nat.beq t1.alt 1) (sl (!t1.bs0) (sl (inB s.is5 p.ns0) (sl ((Nat.blt (0+s.is5.toNat) (len s.eh0))&&(Nat.ble (0+3) (len (i7 s.eh0 (0+s.is5.toNat))))) (k ⟨(W (s.is5+1)),(W (s.is6+1)),(setAt s.eh0 (0+s.is5.toNat) (P7 (i7 s.eh0 (0+s.is5.toNat)) 0 [(i (rdR tV s.eh0 (0+s.is6.toNat)).x),(i (rdR tV s.eh0 (0+s.is6.toNat)).y),(i (rdR tV s.eh0 (0+s.is6.toNat)).z)])),t1.r4⟩) z) z) (k ⟨s.is5,(W (s.is6+1)),s.eh0,t1.r4⟩)) z) z) z) z) (e 1))
noncomputable def B0 (p:I9) (s:r6):Stp r6:=E3 .next .exit .fail p s
noncomputable def da7:Lo I9 r6:=⟨En va6,2,Oe6,[1,1,1,0,1,4,4],[0,1,5,6],.p,[⟨((.s (.o (.sl 0 0 (some 0) none)))::((.fn 89 [(.o (.ptr 1 0 0 0))])::(ru2 3 ((.s (.o (.int .i64)))::((.s (.o (.int .i64)))::(ru2 35 [])))))),[⟨27,3,true,none⟩,⟨0,1,true,(some [[(.c 4 (nL tP))]])⟩],fun a H=>(⟨(slN (slT a 0))⟩,⟨(toI (slT a 5)),(toI (slT a 6)),(elT H 0),(rL tP (slT (rwT (elT H 1) 0) 0))⟩)⟩],B0,[(some 0,fun p s=>⟨((.sl 0 0 p.ns0 0)::((.fn 89 [(.ptr 1 0 0 0)])::(ra 3 ((i s.is5)::((i s.is6)::(ra 9 ((i s.is6)::((.sl 0 0 p.ns0 0)::((i (↑p.ns0:Int))::((b (decide (s.is6 < (↑p.ns0:Int))))::(ra 22 []))))))))))),[⟨27,3,s.eh0,true,false,0⟩,⟨0,1,[[(eL tP s.r5)]],true,false,0⟩]⟩)],Xa9⟩
theorem Ya0:da7.Ok:=Lo.ok [] (by kernel_rfl) .nil rfl (.cons (fun a H=>by kernel_rfl) .nil) fun p s=>(.of @E3 (fun F _ _ _ _ _=>by unfold E3;(repeat' apply o9 (f:=F))<;>rfl) (by kernel_rfl))
structure W7 where
 alt:Nat
 ns0:Nat
 eh0:List (List b7)
 r5:List Pln
noncomputable def F4 {α:Type} (kk:W7→α) (x:W6):α:=let t1:=(W5 ⟨x.ns0,x.eh0,(rt tP x.r5)⟩);let t2:=(lp (B0 (⟨x.ns0⟩:I9)) (⟨t1.is0,(W (t1.is0+1)),x.eh0,(rt tP t1.r5)⟩:r6));(sl ((cnE tP x.r5)&&true) (sl (Nat.beq t1.alt 1) (sl (t1.is0==(-1)) (kk ⟨1,x.ns0,x.eh0,t1.r5⟩) (sl ((cnE tP t1.r5)&&true) (sl (Nat.beq t2.1 1) (sl (inB t2.2.is5 (x.ns0+1)) (sl (inB t2.2.is5 (x.ns0+1)) (kk ⟨1,(t2.2.is5.toNat - 0),(app (H6 t2.2.eh0 (0+t2.2.is5.toNat)) (app (List.replicate (x.ns0 - t2.2.is5.toNat) [(i 0),(i 0),(i 0)]) (g8 t2.2.eh0 ((0+t2.2.is5.toNat)+(x.ns0 - t2.2.is5.toNat))))),t2.2.r5⟩) (kk ⟨0,0,[],[]⟩)) (kk ⟨0,0,[],[]⟩)) (kk ⟨0,0,[],[]⟩)) (kk ⟨0,0,[],[]⟩))) (kk ⟨0,0,[],[]⟩)) (kk ⟨0,0,[],[]⟩))
noncomputable def W8 (x:W6):W7:=F4 (fun r=>r) x
noncomputable def ha9 (x:W6) (r:W7):DT (b7×List b9):=(.ite (Nat.beq r.alt 1) (.ret ((.sl 0 0 r.ns0 0),[⟨27,3,r.eh0,true,false,0⟩,⟨0,1,[[(eL tP r.r5)]],true,false,0⟩])) .fail)
theorem jb0 {α β:Type} (F:α→β) (kk:W7→α) (x:W6):F (F4 kk x)=F4 (fun r=>F (kk r)) x:=by unfold F4;(repeat' apply o9 (f:=F))<;>rfl
noncomputable def Aa1:Sum:=Ua3 ⟨[(.s (.o (.sl 0 0 (some 0) none))),(.fn 89 [(.o (.ptr 1 0 0 0))])],[⟨27,3,true,none⟩,⟨0,1,true,(some [[(.c 4 (nL tP))]])⟩],fun a H=>(⟨(slN (slT a 0)),(elT H 0),(rL tP (slT (rwT (elT H 1) 0) 0))⟩,())⟩ (fun x=>ha9 x (W8 x))
theorem fb2:i4 prog G 91 Aa1:=P8 (enc:=fun x=>⟨[(.sl 0 0 x.ns0 0),(.fn 89 [(.ptr 1 0 0 0)])],[⟨27,3,x.eh0,true,false,0⟩,⟨0,1,[[(eL tP x.r5)]],true,false,0⟩]⟩) (fun a H=>by kernel_rfl) (bd b91 ab2) fun x=>Pa9 (.s .p (.s .p (.s .p (.s (.s .p (.b (.u da7.ls))) .p)))) [da7.pr] (by kernel_rfl) (.cons Ya0 .nil) (Eq.trans (b:=F4 (fun r=>(ha9 x r).run) x) (by kernel_rfl) (jb0 (fun r=>(ha9 x r).run) (fun r=>r) x).symm)
noncomputable def Rb9:List (Nat×Sum):=[(145,za0),(146,oa1),(148,qa6)]
theorem Lb0:j9 prog G Rb9:=⟨Pa1,Da3,Fa5,trivial⟩
structure sa8 where
 alt:Nat
 ns0:Nat
 eh0:List (List b7)
noncomputable def ba0 {α:Type} (kk:sa8→α) (x:V3×List V3):α:=let t1:=(ca1 (hC tV (fun k=>(tV).row (gL tV (x.1::x.2) k)),tC tV (List.length x.2) (fun k=>(tV).row (gL tV (x.1::x.2) k))));let t2:=(M1 ⟨t1.ns0,(app (bL tV (qb5 (slR tV t1.eh0 0 t1.ns0))) (g8 t1.eh0 t1.ns0))⟩);(sl (okL tV (List.length x.2+1) (fun k=>(tV).row (gL tV (x.1::x.2) k))) (sl (Nat.beq t1.alt 1) (sl (Bool.and (Nat.ble t1.ns0 room) (Bool.and (Nat.ble t1.ns0 (len t1.eh0)) (okS tV t1.eh0 0 t1.ns0))) (sl (Nat.beq t2.alt 1) (kk ⟨1,t2.ns0,t2.eh0⟩) (kk ⟨0,0,[]⟩)) (kk ⟨0,0,[]⟩)) (kk ⟨0,0,[]⟩)) (kk ⟨0,0,[]⟩))
noncomputable def sa9 (x:V3×List V3):sa8:=ba0 (fun r=>r) x
noncomputable def Da5 (r:sa8):DT (b7×List b9):=(.ite (Nat.beq r.alt 1) (.ret ((.sl 0 0 r.ns0 0),[⟨27,3,r.eh0,true,false,0⟩])) .fail)
theorem cc4 {α β:Type} (F:α→β) (kk:sa8→α) (x:V3×List V3):F (ba0 kk x)=ba0 (fun r=>F (kk r)) x:=by unfold ba0;(repeat' apply o9 (f:=F))<;>rfl
noncomputable def ja6:Sum:=Y1 (id5 tV) (fun x=>Da5 (sa9 x))
theorem pa0:i4 prog G 92 ja6:=Bb0 (bd b92 Lb0) fun x=>A0 (Eq.trans (b:=ba0 (fun r=>(Da5 r).run) x) (by kernel_rfl) (cc4 (fun r=>(Da5 r).run) (fun r=>r) x).symm)
noncomputable def nc1:List (Nat×Sum):=[(64,Rb7),(92,ja6),(91,Aa1)]
theorem cc5:j9 prog G nc1:=⟨Gb0,pa0,fb2,trivial⟩
noncomputable def qa8 (x:V3×List V3):Option (b7×List b9):=let t1:=(Ra3 (hC tV (fun k=>(tV).row (gL tV (x.1::x.2) k)),tC tV (List.length x.2) (fun k=>(tV).row (gL tV (x.1::x.2) k))));let t2:=(sa9 (hC tV (fun k=>(tV).row (gL tV (x.1::x.2) k)),tC tV (List.length x.2) (fun k=>(tV).row (gL tV (x.1::x.2) k))));let t3:=(W8 ⟨t2.ns0,t2.eh0,(rt tP t1.1)⟩);(sl (okL tV (List.length x.2+1) (fun k=>(tV).row (gL tV (x.1::x.2) k))) (sl (Ra4 (hC tV (fun k=>(tV).row (gL tV (x.1::x.2) k)),tC tV (List.length x.2) (fun k=>(tV).row (gL tV (x.1::x.2) k)))) (sl (t1.2 != 0) (some ((.tup [(.v (.slice none 0 0)),(i t1.2)]),[])) (sl (okL tV (List.length x.2+1) (fun k=>(tV).row (gL tV (x.1::x.2) k))) (sl (Nat.beq t2.alt 1) (sl ((cnE tP t1.1)&&true) (sl (Nat.beq t3.alt 1) (some ((.tup [(.sl 0 0 t3.ns0 0),(i 0)]),[⟨27,3,t3.eh0,true,false,0⟩])) none) none) none) none)) none) none)
noncomputable def xb3 (x:V3×List V3):List V3×Int:=U2 (two (r1L tV) r1I) (qa8 x)
noncomputable def xb4 (x:V3×List V3):Bool:=okO (two (r1L tV) r1I) (qa8 x)
noncomputable def Ac8:Sum:=Y1 (id5 tV) (fun x=>.guard (xb4 x) (.ret ((two (r1L tV) r1I).enc (xb3 x),[])))
theorem nc2:i4 prog G 35 Ac8:=Ua2 (bd b35 cc5) (two (r1L tV) r1I) (o:=qa8) fun x=>A0 (by kernel_rfl)
end Go.Ev.Ce
end
namespace Go.Ev.L
open Go Go.Ev
noncomputable def He4:Cod Unit where
 enc _:=.v (.slice none 0 0)
 dec x:=match x with
  | .v (.slice none 0 0)=>some ()
  | _=>none
 grd _:=true
 ok x a hx _:=by
  split at hx
  ·exact .refl _
  ·cases hx
noncomputable def cE0:Cod (Addr×Nat) where
 enc z:=.v (.slice (some z.1) 0 z.2)
 dec x:=match x with
  | .v (.slice (some a) 0 c)=>some (a,c)
  | _=>none
 grd _:=true
 ok x a hx _:=by
  split at hx
  ·cases hx;exact .refl _
  ·cases hx
section
variable {α:Type} {t:Ty α} {P:Program} {G:Nat→List Value} {f:FuncId}
theorem Bb9 {β:Type} {c:Cod β} {k k':β→DT (b7×List b9)} (h:i4 P G f (Y1 c k)) (hk:∀ a r,(k' a).run=some r→(k a).run=some r):i4 P G f (Y1 c k'):=h.le fun args blks r hr=>by
 unfold Y1 at hr ⊢
 split at hr
 ·obtain⟨a,h1,hr⟩:=ea8 hr
  obtain⟨g,hr⟩:=DT.run_guard_some hr
  simp only[h1,onO,g]
  exact hk a r hr
 ·cases hr
theorem ae4 {k:List α→DT (b7×List b9)} (hA:i4 P G f (Y1 (id5 t) fun z=>k (z.1::z.2))) (hN:i4 P G f (Y1 He4 fun _=>k [])) (hE:i4 P G f (Y1 cE0 fun _=>k [])):i4 P G f (Y1 (ta7 t) k):=by
 intro args blks r out he W ρ F w args' hH hlen hargs hG
 unfold Y1 at he
 split at he
 ·rename_i x
  obtain⟨a,h1,he⟩:=ea8 he
  obtain⟨g1,hk⟩:=DT.run_guard_some he
  have nilCase:∀ v',args'[0]?=some v'→v'=.slice none 0 0→a=[]→Ta4 P f∧Calls P f args'.toArray w fun e w'=>∃ r',e=.returned r'∧K9 W ρ [] F w r out r' w':=fun v' hv e ha=>by
   subst ha
   refine hN [.v (.slice none 0 0)] [] r out ?_ W ρ F w args' hH hlen (fun i x' y' hx hy=>?_) hG
   ·exact hk
   ·match i with
    | 0=>cases hx;rw[hv] at hy;cases hy;rw[e];exact .val (.cell (.v _))
    | i+1=>cases hx
  have emptyCase:∀ v' ad c,args'[0]?=some v'→v'=.slice (some ad) 0 c→a=[]→Ta4 P f∧Calls P f args'.toArray w fun e w'=>∃ r',e=.returned r'∧K9 W ρ [] F w r out r' w':=fun v' ad c hv e ha=>by
   subst ha
   refine hE [.v (.slice (some ad) 0 c)] [] r out ?_ W ρ F w args' hH hlen (fun i x' y' hx hy=>?_) hG
   ·exact hk
   ·match i with
    | 0=>cases hx;rw[hv] at hy;cases hy;rw[e];exact .val (.cell (.v _))
    | i+1=>cases hx
  obtain⟨v',hv⟩:∃ v',args'[0]?=some v':=by
   cases args' with
   | nil=>simp at hlen
   | cons v' r'=>exact⟨v',rfl⟩
  cases x with
  | tree e n get =>
   have hb:Nat.beq e t.es=true∧a=lsL t n get:=by
    have h1:(Bool.rec none (some (lsL t n get)) (Nat.beq e t.es):Option (List α))=some a:=h1
    cases hb:Nat.beq e t.es with
    | false=>rw[hb] at h1;cases h1
    | true =>
     rw[hb] at h1
     have h1:some (lsL t n get)=some a:=h1
     injection h1 with h1
     exact⟨rfl,h1.symm⟩
   cases n with
   | zero =>
    have ha:a=[]:=hb.2
    have hm:=ka9 (hargs 0 _ v' rfl hv)
    cases hm with
    | tree _ _ _ ad cap cs hs hcap hes hF hw hr=>exact emptyCase _ ad cap hv rfl ha
    | nil=>exact nilCase _ hv rfl ha
   | succ m =>
    have ha:a=hC t get::tC t m get:=hb.2.trans (id4 t m get)
    subst ha
    refine hA [.tree e (m+1) get] [] r out ?_ W ρ F w args' hH hlen hargs hG
    have hc:(id5 t).dec (.tree e (m+1) get)=some (hC t get,tC t m get):=by
     show (Bool.rec none (some (hC t get,tC t m get)) (Nat.beq e t.es):Option (α×List α))=_
     rw[hb.1]
    have hg:(id5 t).grd (.tree e (m+1) get)=true:=g1
    simp only[Y1,hc,onO,hg]
    exact hk
  | v q =>
   have hq:=Z8 (hargs 0 _ v' rfl hv)
   unfold ta7 at h1
   simp only at h1
   split at h1
   ·rename_i heq;cases heq
   ·rename_i heq
    injection heq with heq
    injection h1 with h1
    exact nilCase v' hv (hq.trans heq) h1.symm
   ·rename_i ad c heq
    injection heq with heq
    injection h1 with h1
    exact emptyCase v' _ _ hv (hq.trans heq) h1.symm
   ·cases h1
  | _=>cases h1
 ·cases he
end
end Go.Ev.L
section
namespace Go.Ev.Ce
open Go Go.Ev Go.Ev.L Go.Proofs
set_option maxRecDepth 100000
noncomputable def Ac9:List (Nat×Sum):=[(118,nb9),(92,ja6),(119,qa0)]
theorem nc3:j9 prog G Ac9:=⟨Fb8,pa0,wa7,trivial⟩
noncomputable def va7 (x:Unit):Option (b7×List b9):=let t1:=(Ca8 []);(sl (Ca9 []) (sl (t1 != 0) (some ((.tup [(.v (.slice none 0 0)),(i t1)]),[])) none) none)
noncomputable def Ja3 (x:Unit):List Pln×Int:=U2 (two (r1L tP) r1I) (va7 x)
noncomputable def Ja4 (x:Unit):Bool:=okO (two (r1L tP) r1I) (va7 x)
noncomputable def fb3:Sum:=Y1 He4 (fun x=>.guard (Ja4 x) (.ret ((two (r1L tP) r1I).enc (Ja3 x),[])))
theorem Ya1:i4 prog G 64 fb3:=Ua2 (bd b64 nc3) (two (r1L tP) r1I) (o:=va7) fun x=>ld3 .p [] (by kernel_rfl) .nil (by kernel_rfl)
noncomputable def cc6:List (Nat×Sum):=[(64,fb3),(92,ja6)]
theorem Sb0:j9 prog G cc6:=⟨Ya1,pa0,trivial⟩
noncomputable def ma1 (x:Unit):Option (b7×List b9):=let t1:=(Ja3 ());(sl (Ja4 ()) (sl (t1.2 != 0) (some ((.tup [(.v (.slice none 0 0)),(i t1.2)]),[])) none) none)
noncomputable def xa5 (x:Unit):List V3×Int:=U2 (two (r1L tV) r1I) (ma1 x)
noncomputable def xa6 (x:Unit):Bool:=okO (two (r1L tV) r1I) (ma1 x)
noncomputable def qb8:Sum:=Y1 He4 (fun x=>.guard (xa6 x) (.ret ((two (r1L tV) r1I).enc (xa5 x),[])))
theorem jb1:i4 prog G 35 qb8:=Ua2 (bd b35 Sb0) (two (r1L tV) r1I) (o:=ma1) fun x=>A0 (by kernel_rfl)
noncomputable def Bc0:List (Nat×Sum):=[(119,qa0)]
theorem nc4:j9 prog G Bc0:=⟨wa7,trivial⟩
noncomputable def fb4 (x:Addr×Nat):Option (b7×List b9):=none
noncomputable def Gb2 (x:Addr×Nat):List Pln×Int:=U2 (two (r1L tP) r1I) (fb4 x)
noncomputable def Gb3 (x:Addr×Nat):Bool:=okO (two (r1L tP) r1I) (fb4 x)
noncomputable def Gb4:Sum:=Y1 cE0 (fun x=>.guard (Gb3 x) (.ret ((two (r1L tP) r1I).enc (Gb2 x),[])))
theorem xb5:i4 prog G 64 Gb4:=Ua2 (bd b64 nc4) (two (r1L tP) r1I) (o:=fb4) fun x=>ld3 .p [] (by kernel_rfl) .nil (by kernel_rfl)
noncomputable def cc7:List (Nat×Sum):=[(64,Gb4),(92,ja6)]
theorem Sb1:j9 prog G cc7:=⟨xb5,pa0,trivial⟩
noncomputable def Na9 (x:Addr×Nat):Option (b7×List b9):=let t1:=(Gb2 x);(sl (Gb3 x) (sl (t1.2 != 0) (some ((.tup [(.v (.slice none 0 0)),(i t1.2)]),[])) none) none)
noncomputable def nc5 (x:Addr×Nat):List V3×Int:=U2 (two (r1L tV) r1I) (Na9 x)
noncomputable def nc6 (x:Addr×Nat):Bool:=okO (two (r1L tV) r1I) (Na9 x)
noncomputable def nc7:Sum:=Y1 cE0 (fun x=>.guard (nc6 x) (.ret ((two (r1L tV) r1I).enc (nc5 x),[])))
theorem cc8:i4 prog G 35 nc7:=Ua2 (bd b35 Sb1) (two (r1L tV) r1I) (o:=Na9) fun x=>A0 (by kernel_rfl)
end Go.Ev.Ce
end
section
namespace Go.Ev.Ce
open Go Go.Ev Go.Ev.L Go.Proofs
set_option maxRecDepth 100000
noncomputable def Ya2:List (Nat×Sum):=[]
theorem Db5:j9 prog G Ya2:=trivial
structure Y4 where
 c9:Int
 pb3:Int
 pb4:Int
structure A2 where
 S6:Int
noncomputable def xb6 (p:Y4) (s:A2):St:=⟨(ra 14 ((.sl 0 0 3 0)::((i 3)::((i s.S6)::(ra 10 []))))),[⟨3,1,[[(i p.c9)],[(i p.pb3)],[(i p.pb4)]],true,false,0⟩]⟩
noncomputable def Q7 {α:Type} (k:A2→α) (e:Nat→α) (z:α) (p:Y4) (s:A2):α:=(sl (decide (s.S6 < 3)) (sl (inB s.S6 3) (sl (((Nat.blt (0+s.S6.toNat) (len [[(i p.c9)],[(i p.pb3)],[(i p.pb4)]]))&&(Nat.ble (0+1) (len (i7 [[(i p.c9)],[(i p.pb3)],[(i p.pb4)]] (0+s.S6.toNat)))))&&(ba3 [(CK.int .i64)] (g8 (i7 [[(i p.c9)],[(i p.pb3)],[(i p.pb4)]] (0+s.S6.toNat)) 0))) (sl (decide ((toI (hdA (g8 (i7 [[(i p.c9)],[(i p.pb3)],[(i p.pb4)]] (0+s.S6.toNat)) 0))) < 0)) (e 1) (sl (decide ((toI (hdA (g8 (i7 [[(i p.c9)],[(i p.pb3)],[(i p.pb4)]] (0+s.S6.toNat)) 0))) > 12)) (e 1) (k ⟨(W (s.S6+1))⟩))) z) z) (e 2))
noncomputable def G6 (p:Y4) (s:A2):Stp A2:=Q7 .next .exit .fail p s
noncomputable def ta9:Lo Y4 A2:=⟨En Ya2,0,Ae0,[1,0,1,4,4],[14,15,16],.p,[⟨(ru2 14 ((.s (.o (.sl 0 0 (some 0) (some 3))))::((.s (.o (.lit .i64 3)))::((.s (.o (.int .i64)))::(ru2 10 []))))),[⟨3,1,true,(some [[(.o (.int .i64))],[(.o (.int .i64))],[(.o (.int .i64))]])⟩],fun a H=>(⟨(toI (slT (rwT (elT H 0) 0) 0)),(toI (slT (rwT (elT H 0) 1) 0)),(toI (slT (rwT (elT H 0) 2) 0))⟩,⟨(toI (slT a 16))⟩)⟩],G6,[(none,fun p s=>⟨[(b false)],[]⟩),(some 0,fun p s=>⟨(ra 14 ((.sl 0 0 3 0)::((i 3)::((i s.S6)::((b (decide (s.S6 < 3)))::(ra 9 [])))))),[⟨3,1,[[(i p.c9)],[(i p.pb3)],[(i p.pb4)]],true,false,0⟩]⟩)],xb6⟩
theorem xb7:ta9.Ok:=Lo.ok [] (by kernel_rfl) .nil rfl (.cons (fun a H=>by kernel_rfl) .nil) fun p s=>(.of @Q7 (fun F _ _ _ _ _=>by unfold Q7;(repeat' apply o9 (f:=F))<;>rfl) (by kernel_rfl))
noncomputable def ga0 (x:V3):Option (b7×List b9):=let t1:=(lp (G6 (⟨x.x,x.y,x.z⟩:Y4)) (⟨0⟩:A2));(sl (Nat.beq t1.1 1) (some ((b false),[])) (sl (Nat.beq t1.1 2) (some ((b true),[])) none))
noncomputable def ga1 (x:V3):Bool:=U2 (one r1B) (ga0 x)
noncomputable def ga2 (x:V3):Bool:=okO (one r1B) (ga0 x)
noncomputable def Da6:Sum:=Y1 (S9 tV) (fun x=>.guard (ga2 x) (.ret ((one r1B).enc (ga1 x),[])))
theorem Ya3:i4 prog G 129 Da6:=Ua2 (bd Ze5 Db5) (one r1B) (o:=ga0) fun x=>Pa9 (.s .p (.s (.s .p (.b (.u ta9.ls))) .p)) [ta9.pr] (by kernel_rfl) (.cons xb7 .nil) (by kernel_rfl)
noncomputable def Bc1:List (Nat×Sum):=[(183,Ga3)]
theorem nc8:j9 prog G Bc1:=⟨bb8,trivial⟩
noncomputable def va8 (x:V3) (y:V3):Int:=let t1:=(R3 x.x);let t2:=(R3 x.y);let t3:=(R3 x.z);(W ((W ((W (t1*y.x))+(W (t2*y.y))))+(W (t3*y.z))))
noncomputable def Gb5:Sum:=na9 (S9 tV) (S9 tV) (fun x y=>.ret ((one r1I).enc (va8 x y),[]))
theorem Bc2:i4 prog G 131 Gb5:=wa2 (bd Ze7 nc8) fun x y=>A0 (by kernel_rfl)
noncomputable def Lc5:List (Nat×Sum):=[(140,db8),(138,Ba5)]
theorem Bc3:j9 prog G Lc5:=⟨wb3,Ma4,trivial⟩
noncomputable def Da7 (x:Pln) (y:Int):Option (b7×List b9):=let t1:=(ua4 x);let t2:=(K2 4194304 [y]);let t3:=(K2 2097152 [(W (x.b+y))]);(sl (ua5 x) (sl (!t1) (some ((.tup [(.agg [(i 0),(i 0),(i 0),(i 0)]),(b false)]),[])) (sl (K3 4194304 [y]) (sl (!t2) (some ((.tup [(.agg [(i 0),(i 0),(i 0),(i 0)]),(b false)]),[])) (sl (K3 2097152 [(W (x.b+y))]) (sl (!t3) (some ((.tup [(.agg [(i 0),(i 0),(i 0),(i 0)]),(b false)]),[])) (some ((.tup [(.agg [(i x.n.x),(i x.n.y),(i x.n.z),(i (W (x.b+y)))]),(b true)]),[]))) none)) none)) none)
noncomputable def ka7 (x:Pln) (y:Int):Pln×Bool:=U2 (two r1P r1B) (Da7 x y)
noncomputable def ka8 (x:Pln) (y:Int):Bool:=okO (two r1P r1B) (Da7 x y)
noncomputable def ob1:Sum:=na9 (S9 tP) cI (fun x y=>.guard (ka8 x y) (.ret ((two r1P r1B).enc (ka7 x y),[])))
theorem Gb6:i4 prog G 130 ob1:=mb5 (bd Ze6 Bc3) (two r1P r1B) (o:=Da7) fun x y=>A0 (by kernel_rfl)
noncomputable def cc9:List (Nat×Sum):=[(131,Gb5)]
theorem Sb2:j9 prog G cc9:=⟨Bc2,trivial⟩
noncomputable def ma2 (x:V3) (y:Pln):Int:=let t1:=(va8 y.n x);t1
noncomputable def Oa0:Sum:=na9 (S9 tV) (S9 tP) (fun x y=>.ret ((one r1I).enc (ma2 x y),[]))
theorem jb2:i4 prog G 75 Oa0:=wa2 (bd b75 Sb2) fun x y=>A0 (by kernel_rfl)
noncomputable def nc9:List (Nat×Sum):=[(75,Oa0)]
theorem dc0:j9 prog G nc9:=⟨jb2,trivial⟩
noncomputable def Da8 (x:V3) (y:Pln):Int:=let t1:=(ma2 x y);(W (0 - t1))
noncomputable def xb8:Sum:=na9 (S9 tV) (S9 tP) (fun x y=>.ret ((one r1I).enc (Da8 x y),[]))
theorem oc0:i4 prog G 77 xb8:=wa2 (bd b77 dc0) fun x y=>A0 (by kernel_rfl)
structure Ja5 where
 ca7:Int
 ca8:Int
 ca9:Int
 La8:List Pln
 Fa2:Int
 Fa3:Int
 Fa4:Int
noncomputable def xb9:List (Nat×Sum):=[(129,Da6),(75,Oa0),(130,ob1)]
theorem oc1:j9 prog G xb9:=⟨Ya3,jb2,Gb6,trivial⟩
structure P1 where
 Fa2:Int
 Fa3:Int
 Fa4:Int
 X8:List Pln
 o0:Int
structure o2 where
 ph:Nat
 ia2:Int
 ns8:Nat
 eh0:List (List b7)
noncomputable def Sb3 (p:P1) (s:o2):St:=⟨(.unk::(.unk::((.fn 100075 [(i p.Fa2),(i p.Fa3),(i p.Fa4)])::(ra 5 ((.v (.slice none 0 0))::(ra 7 ((eL tP p.X8)::((i p.o0)::((i s.ia2)::(ra 19 [])))))))))),[]⟩
noncomputable def Sb4 (p:P1) (s:o2):St:=⟨(.unk::(.unk::((.fn 100075 [(i p.Fa2),(i p.Fa3),(i p.Fa4)])::(ra 5 ((.sl 0 0 s.ns8 0)::(ra 7 ((eL tP p.X8)::((i p.o0)::((i s.ia2)::(ra 19 [])))))))))),[⟨73,4,s.eh0,true,false,0⟩]⟩
noncomputable def dc1 (p:P1) (s:o2):St:=(sel (Nat.beq s.ph 1) (Sb4 p s) (Sb3 p s))
noncomputable def O2 {α:Type} (k:o2→α) (e:Nat→α) (z:α) (p:P1) (s:o2):α:=let t1:=(ma2 (⟨p.Fa2,p.Fa3,p.Fa4⟩:V3) (gL tP p.X8 s.ia2.toNat));let t2:=(ka7 (gL tP p.X8 s.ia2.toNat) t1);(sl (decide (s.ia2 < p.o0)) (sl (inB s.ia2 (List.length p.X8)) (sl (ka8 (gL tP p.X8 s.ia2.toNat) t1) (sl (!t2.2) (e 1) (k ⟨1,(W (s.ia2+1)),1,[[(i t2.1.n.x),(i t2.1.n.y),(i t2.1.n.z),(i t2.1.b)]]⟩)) z) z) (e 2))
noncomputable def O3 {α:Type} (k:o2→α) (e:Nat→α) (z:α) (p:P1) (s:o2):α:=let t1:=(ma2 (⟨p.Fa2,p.Fa3,p.Fa4⟩:V3) (gL tP p.X8 s.ia2.toNat));let t2:=(ka7 (gL tP p.X8 s.ia2.toNat) t1);(sl (decide (s.ia2 < p.o0)) (sl (inB s.ia2 (List.length p.X8)) (sl (ka8 (gL tP p.X8 s.ia2.toNat) t1) (sl (!t2.2) (e 1) (sl (Nat.beq s.ns8 (len s.eh0)&&Nat.ble ((s.ns8+1)*32) room) (k ⟨1,(W (s.ia2+1)),(s.ns8+1),(app s.eh0 [[(i t2.1.n.x),(i t2.1.n.y),(i t2.1.n.z),(i t2.1.b)]])⟩) z)) z) z) (e 3))
noncomputable def ta0 (p:P1) (s:o2):Stp o2:=(sel (Nat.beq s.ph 1) (O3 .next .exit .fail p s) (O2 .next .exit .fail p s))
noncomputable def Oa1:Lo P1 o2:=⟨En xb9,0,Fe9,[1,1,1,0,1,4,4],[2,8,16,17,18],.p,[⟨((.s (.o .unk))::((.s (.o .unk))::((.fn 100075 [(.o (.int .i64)),(.o (.int .i64)),(.o (.int .i64))])::(ru2 5 ((.s (.o .nil))::(ru2 7 ((.s (.c 4 (nL tP)))::((.s (.o (.int .i64)))::((.s (.o (.int .i64)))::(ru2 19 [])))))))))),[],fun a H=>(⟨(toI (slT (cellsOf (slT a 2)) 0)),(toI (slT (cellsOf (slT a 2)) 1)),(toI (slT (cellsOf (slT a 2)) 2)),(rL tP (slT a 16)),(toI (slT a 17))⟩,⟨0,(toI (slT a 18)),0,[]⟩)⟩,⟨((.s (.o .unk))::((.s (.o .unk))::((.fn 100075 [(.o (.int .i64)),(.o (.int .i64)),(.o (.int .i64))])::(ru2 5 ((.s (.o (.sl 0 0 (some 0) none)))::(ru2 7 ((.s (.c 4 (nL tP)))::((.s (.o (.int .i64)))::((.s (.o (.int .i64)))::(ru2 19 [])))))))))),[⟨73,4,true,none⟩],fun a H=>(⟨(toI (slT (cellsOf (slT a 2)) 0)),(toI (slT (cellsOf (slT a 2)) 1)),(toI (slT (cellsOf (slT a 2)) 2)),(rL tP (slT a 16)),(toI (slT a 17))⟩,⟨1,(toI (slT a 18)),(slN (slT a 8)),(elT H 0)⟩)⟩],ta0,[(none,fun p s=>⟨[(.tup [(.v (.slice none 0 0)),(b false)])],[]⟩),(some 0,fun p s=>⟨(.unk::(.unk::((.fn 100075 [(i p.Fa2),(i p.Fa3),(i p.Fa4)])::(ra 5 ((.v (.slice none 0 0))::(ra 7 ((eL tP p.X8)::((i p.o0)::((i s.ia2)::((b (decide (s.ia2 < p.o0)))::(ra 18 []))))))))))),[]⟩),(some 0,fun p s=>⟨(.unk::(.unk::((.fn 100075 [(i p.Fa2),(i p.Fa3),(i p.Fa4)])::(ra 5 ((.sl 0 0 s.ns8 0)::(ra 7 ((eL tP p.X8)::((i p.o0)::((i s.ia2)::((b (decide (s.ia2 < p.o0)))::(ra 18 []))))))))))),[⟨73,4,s.eh0,true,false,0⟩]⟩)],dc1⟩
theorem dc2:Oa1.Ok:=Lo.ok [] (by kernel_rfl) .nil rfl (.cons (fun a H=>by kernel_rfl) (.cons (fun a H=>by kernel_rfl) .nil)) fun p s=>(.sel (Nat.beq s.ph 1) (.of @O3 (fun F _ _ _ _ _=>by unfold O3;(repeat' apply o9 (f:=F))<;>rfl) (by kernel_rfl)) (.of @O2 (fun F _ _ _ _ _=>by unfold O2;(repeat' apply o9 (f:=F))<;>rfl) (by kernel_rfl)))
structure Ja6 where
 alt:Nat
 bs1:Bool
 ns0:Nat
 eh0:List (List b7)
noncomputable def na3 {α:Type} (kk:Ja6→α) (x:Ja5):α:=let t1:=(ga1 (⟨x.ca7,x.ca8,x.ca9⟩:V3));let t2:=(lp (ta0 (⟨x.Fa2,x.Fa3,x.Fa4,(rt tP x.La8),(↑(List.length x.La8):Int)⟩:P1)) (⟨0,0,0,[]⟩:o2));(sl (ga2 (⟨x.ca7,x.ca8,x.ca9⟩:V3)) (sl (!t1) (kk ⟨1,false,0,[]⟩) (sl ((cnE tP x.La8)&&true) (sl (Nat.beq t2.1 1) (kk ⟨1,false,0,[]⟩) (sl (Nat.beq t2.1 2) (kk ⟨1,true,0,[]⟩) (sl (Nat.beq t2.1 3) (kk ⟨2,false,t2.2.ns8,t2.2.eh0⟩) (kk ⟨0,false,0,[]⟩)))) (kk ⟨0,false,0,[]⟩))) (kk ⟨0,false,0,[]⟩))
noncomputable def fb5 (x:Ja5):Ja6:=na3 (fun r=>r) x
noncomputable def Ya4 (x:Ja5) (r:Ja6):DT (b7×List b9):=(.ite (Nat.beq r.alt 1) (.ret ((.tup [(.v (.slice none 0 0)),(b r.bs1)]),[])) (.ite (Nat.beq r.alt 2) (.ret ((.tup [(.sl 0 0 r.ns0 0),(b true)]),[⟨73,4,r.eh0,true,false,0⟩])) .fail))
theorem Lc6 {α β:Type} (F:α→β) (kk:Ja6→α) (x:Ja5):F (na3 kk x)=na3 (fun r=>F (kk r)) x:=by unfold na3;(repeat' apply o9 (f:=F))<;>rfl
noncomputable def Gb7:Sum:=Ua3 ⟨[(.agg [(.o (.int .i64)),(.o (.int .i64)),(.o (.int .i64))]),(.s (.c 4 (nL tP))),(.fn 100075 [(.o (.int .i64)),(.o (.int .i64)),(.o (.int .i64))])],[],fun a H=>(⟨(toI (slT (cellsOf (slT a 0)) 0)),(toI (slT (cellsOf (slT a 0)) 1)),(toI (slT (cellsOf (slT a 0)) 2)),(rL tP (slT a 1)),(toI (slT (cellsOf (slT a 2)) 0)),(toI (slT (cellsOf (slT a 2)) 1)),(toI (slT (cellsOf (slT a 2)) 2))⟩,())⟩ (fun x=>Ya4 x (fb5 x))
theorem Bc4:i4 prog G 74 Gb7:=P8 (enc:=fun x=>⟨[(.agg [(i x.ca7),(i x.ca8),(i x.ca9)]),(eL tP x.La8),(.fn 100075 [(i x.Fa2),(i x.Fa3),(i x.Fa4)])],[]⟩) (fun a H=>by kernel_rfl) (bd b74 oc1) fun x=>Pa9 (.s .p (.s .p (.s .p (.s (.s .p (.b (.u Oa1.ls))) .p)))) [Oa1.pr] (by kernel_rfl) (.cons dc2 .nil) (Eq.trans (b:=na3 (fun r=>(Ya4 x r).run) x) (by kernel_rfl) (Lc6 (fun r=>(Ya4 x r).run) (fun r=>r) x).symm)
noncomputable def md8:List (Nat×Sum):=[(74,Gb7)]
theorem Zc9:j9 prog G md8:=⟨Bc4,trivial⟩
noncomputable def Ya5 (x:List Pln) (y:V3):Option (b7×List b9):=let t1:=(fb5 ⟨y.x,y.y,y.z,(rt tP x),y.x,y.y,y.z⟩);(sl ((cnE tP x)&&true) (sl (Nat.beq t1.alt 1) (some ((.tup [(.v (.slice none 0 0)),(b t1.bs1)]),[])) (sl (Nat.beq t1.alt 2) (some ((.tup [(.sl 0 0 t1.ns0 0),(b true)]),[⟨73,4,t1.eh0,true,false,0⟩])) none)) none)
noncomputable def Ha4 (x:List Pln) (y:V3):List Pln×Bool:=U2 (two (r1L tP) r1B) (Ya5 x y)
noncomputable def Ha5 (x:List Pln) (y:V3):Bool:=okO (two (r1L tP) r1B) (Ya5 x y)
noncomputable def Bc5:Sum:=na9 (ta7 tP) (S9 tV) (fun x y=>.guard (Ha5 x y) (.ret ((two (r1L tP) r1B).enc (Ha4 x y),[])))
theorem md9:i4 prog G 19 Bc5:=mb5 (bd b19 Zc9) (two (r1L tP) r1B) (o:=Ya5) fun x y=>A0 (by kernel_rfl)
structure Ja7 where
 ca7:Int
 ca8:Int
 ca9:Int
 La8:List Pln
 Fa2:Int
 Fa3:Int
 Fa4:Int
noncomputable def yb0:List (Nat×Sum):=[(129,Da6),(77,xb8),(130,ob1)]
theorem oc2:j9 prog G yb0:=⟨Ya3,oc0,Gb6,trivial⟩
structure P2 where
 Fa2:Int
 Fa3:Int
 Fa4:Int
 X8:List Pln
 o0:Int
structure o3 where
 ph:Nat
 ia2:Int
 ns8:Nat
 eh0:List (List b7)
noncomputable def Sb5 (p:P2) (s:o3):St:=⟨(.unk::(.unk::((.fn 100077 [(i p.Fa2),(i p.Fa3),(i p.Fa4)])::(ra 5 ((.v (.slice none 0 0))::(ra 7 ((eL tP p.X8)::((i p.o0)::((i s.ia2)::(ra 19 [])))))))))),[]⟩
noncomputable def Sb6 (p:P2) (s:o3):St:=⟨(.unk::(.unk::((.fn 100077 [(i p.Fa2),(i p.Fa3),(i p.Fa4)])::(ra 5 ((.sl 0 0 s.ns8 0)::(ra 7 ((eL tP p.X8)::((i p.o0)::((i s.ia2)::(ra 19 [])))))))))),[⟨73,4,s.eh0,true,false,0⟩]⟩
noncomputable def dc3 (p:P2) (s:o3):St:=(sel (Nat.beq s.ph 1) (Sb6 p s) (Sb5 p s))
noncomputable def O4 {α:Type} (k:o3→α) (e:Nat→α) (z:α) (p:P2) (s:o3):α:=let t1:=(Da8 (⟨p.Fa2,p.Fa3,p.Fa4⟩:V3) (gL tP p.X8 s.ia2.toNat));let t2:=(ka7 (gL tP p.X8 s.ia2.toNat) t1);(sl (decide (s.ia2 < p.o0)) (sl (inB s.ia2 (List.length p.X8)) (sl (ka8 (gL tP p.X8 s.ia2.toNat) t1) (sl (!t2.2) (e 1) (k ⟨1,(W (s.ia2+1)),1,[[(i t2.1.n.x),(i t2.1.n.y),(i t2.1.n.z),(i t2.1.b)]]⟩)) z) z) (e 2))
noncomputable def O5 {α:Type} (k:o3→α) (e:Nat→α) (z:α) (p:P2) (s:o3):α:=let t1:=(Da8 (⟨p.Fa2,p.Fa3,p.Fa4⟩:V3) (gL tP p.X8 s.ia2.toNat));let t2:=(ka7 (gL tP p.X8 s.ia2.toNat) t1);(sl (decide (s.ia2 < p.o0)) (sl (inB s.ia2 (List.length p.X8)) (sl (ka8 (gL tP p.X8 s.ia2.toNat) t1) (sl (!t2.2) (e 1) (sl (Nat.beq s.ns8 (len s.eh0)&&Nat.ble ((s.ns8+1)*32) room) (k ⟨1,(W (s.ia2+1)),(s.ns8+1),(app s.eh0 [[(i t2.1.n.x),(i t2.1.n.y),(i t2.1.n.z),(i t2.1.b)]])⟩) z)) z) z) (e 3))
noncomputable def ta1 (p:P2) (s:o3):Stp o3:=(sel (Nat.beq s.ph 1) (O5 .next .exit .fail p s) (O4 .next .exit .fail p s))
noncomputable def Oa2:Lo P2 o3:=⟨En yb0,0,Fe9,[1,1,1,0,1,4,4],[2,8,16,17,18],.p,[⟨((.s (.o .unk))::((.s (.o .unk))::((.fn 100077 [(.o (.int .i64)),(.o (.int .i64)),(.o (.int .i64))])::(ru2 5 ((.s (.o .nil))::(ru2 7 ((.s (.c 4 (nL tP)))::((.s (.o (.int .i64)))::((.s (.o (.int .i64)))::(ru2 19 [])))))))))),[],fun a H=>(⟨(toI (slT (cellsOf (slT a 2)) 0)),(toI (slT (cellsOf (slT a 2)) 1)),(toI (slT (cellsOf (slT a 2)) 2)),(rL tP (slT a 16)),(toI (slT a 17))⟩,⟨0,(toI (slT a 18)),0,[]⟩)⟩,⟨((.s (.o .unk))::((.s (.o .unk))::((.fn 100077 [(.o (.int .i64)),(.o (.int .i64)),(.o (.int .i64))])::(ru2 5 ((.s (.o (.sl 0 0 (some 0) none)))::(ru2 7 ((.s (.c 4 (nL tP)))::((.s (.o (.int .i64)))::((.s (.o (.int .i64)))::(ru2 19 [])))))))))),[⟨73,4,true,none⟩],fun a H=>(⟨(toI (slT (cellsOf (slT a 2)) 0)),(toI (slT (cellsOf (slT a 2)) 1)),(toI (slT (cellsOf (slT a 2)) 2)),(rL tP (slT a 16)),(toI (slT a 17))⟩,⟨1,(toI (slT a 18)),(slN (slT a 8)),(elT H 0)⟩)⟩],ta1,[(none,fun p s=>⟨[(.tup [(.v (.slice none 0 0)),(b false)])],[]⟩),(some 0,fun p s=>⟨(.unk::(.unk::((.fn 100077 [(i p.Fa2),(i p.Fa3),(i p.Fa4)])::(ra 5 ((.v (.slice none 0 0))::(ra 7 ((eL tP p.X8)::((i p.o0)::((i s.ia2)::((b (decide (s.ia2 < p.o0)))::(ra 18 []))))))))))),[]⟩),(some 0,fun p s=>⟨(.unk::(.unk::((.fn 100077 [(i p.Fa2),(i p.Fa3),(i p.Fa4)])::(ra 5 ((.sl 0 0 s.ns8 0)::(ra 7 ((eL tP p.X8)::((i p.o0)::((i s.ia2)::((b (decide (s.ia2 < p.o0)))::(ra 18 []))))))))))),[⟨73,4,s.eh0,true,false,0⟩]⟩)],dc3⟩
theorem dc4:Oa2.Ok:=Lo.ok [] (by kernel_rfl) .nil rfl (.cons (fun a H=>by kernel_rfl) (.cons (fun a H=>by kernel_rfl) .nil)) fun p s=>(.sel (Nat.beq s.ph 1) (.of @O5 (fun F _ _ _ _ _=>by unfold O5;(repeat' apply o9 (f:=F))<;>rfl) (by kernel_rfl)) (.of @O4 (fun F _ _ _ _ _=>by unfold O4;(repeat' apply o9 (f:=F))<;>rfl) (by kernel_rfl)))
structure Ja8 where
 alt:Nat
 bs1:Bool
 ns0:Nat
 eh0:List (List b7)
noncomputable def na4 {α:Type} (kk:Ja8→α) (x:Ja7):α:=let t1:=(ga1 (⟨x.ca7,x.ca8,x.ca9⟩:V3));let t2:=(lp (ta1 (⟨x.Fa2,x.Fa3,x.Fa4,(rt tP x.La8),(↑(List.length x.La8):Int)⟩:P2)) (⟨0,0,0,[]⟩:o3));(sl (ga2 (⟨x.ca7,x.ca8,x.ca9⟩:V3)) (sl (!t1) (kk ⟨1,false,0,[]⟩) (sl ((cnE tP x.La8)&&true) (sl (Nat.beq t2.1 1) (kk ⟨1,false,0,[]⟩) (sl (Nat.beq t2.1 2) (kk ⟨1,true,0,[]⟩) (sl (Nat.beq t2.1 3) (kk ⟨2,false,t2.2.ns8,t2.2.eh0⟩) (kk ⟨0,false,0,[]⟩)))) (kk ⟨0,false,0,[]⟩))) (kk ⟨0,false,0,[]⟩))
noncomputable def fb6 (x:Ja7):Ja8:=na4 (fun r=>r) x
noncomputable def Ya6 (x:Ja7) (r:Ja8):DT (b7×List b9):=(.ite (Nat.beq r.alt 1) (.ret ((.tup [(.v (.slice none 0 0)),(b r.bs1)]),[])) (.ite (Nat.beq r.alt 2) (.ret ((.tup [(.sl 0 0 r.ns0 0),(b true)]),[⟨73,4,r.eh0,true,false,0⟩])) .fail))
theorem Lc7 {α β:Type} (F:α→β) (kk:Ja8→α) (x:Ja7):F (na4 kk x)=na4 (fun r=>F (kk r)) x:=by unfold na4;(repeat' apply o9 (f:=F))<;>rfl
noncomputable def Gb8:Sum:=Ua3 ⟨[(.agg [(.o (.int .i64)),(.o (.int .i64)),(.o (.int .i64))]),(.s (.c 4 (nL tP))),(.fn 100077 [(.o (.int .i64)),(.o (.int .i64)),(.o (.int .i64))])],[],fun a H=>(⟨(toI (slT (cellsOf (slT a 0)) 0)),(toI (slT (cellsOf (slT a 0)) 1)),(toI (slT (cellsOf (slT a 0)) 2)),(rL tP (slT a 1)),(toI (slT (cellsOf (slT a 2)) 0)),(toI (slT (cellsOf (slT a 2)) 1)),(toI (slT (cellsOf (slT a 2)) 2))⟩,())⟩ (fun x=>Ya6 x (fb6 x))
theorem Bc6:i4 prog G 74 Gb8:=P8 (enc:=fun x=>⟨[(.agg [(i x.ca7),(i x.ca8),(i x.ca9)]),(eL tP x.La8),(.fn 100077 [(i x.Fa2),(i x.Fa3),(i x.Fa4)])],[]⟩) (fun a H=>by kernel_rfl) (bd b74 oc2) fun x=>Pa9 (.s .p (.s .p (.s .p (.s (.s .p (.b (.u Oa2.ls))) .p)))) [Oa2.pr] (by kernel_rfl) (.cons dc4 .nil) (Eq.trans (b:=na4 (fun r=>(Ya6 x r).run) x) (by kernel_rfl) (Lc7 (fun r=>(Ya6 x r).run) (fun r=>r) x).symm)
noncomputable def Lc8:List (Nat×Sum):=[(74,Gb8)]
theorem Bc7:j9 prog G Lc8:=⟨Bc6,trivial⟩
noncomputable def Da9 (x:List Pln) (y:V3):Option (b7×List b9):=let t1:=(fb6 ⟨y.x,y.y,y.z,(rt tP x),y.x,y.y,y.z⟩);(sl ((cnE tP x)&&true) (sl (Nat.beq t1.alt 1) (some ((.tup [(.v (.slice none 0 0)),(b t1.bs1)]),[])) (sl (Nat.beq t1.alt 2) (some ((.tup [(.sl 0 0 t1.ns0 0),(b true)]),[⟨73,4,t1.eh0,true,false,0⟩])) none)) none)
noncomputable def Ea0 (x:List Pln) (y:V3):List Pln×Bool:=U2 (two (r1L tP) r1B) (Da9 x y)
noncomputable def Ea1 (x:List Pln) (y:V3):Bool:=okO (two (r1L tP) r1B) (Da9 x y)
noncomputable def Sb7:Sum:=na9 (ta7 tP) (S9 tV) (fun x y=>.guard (Ea1 x y) (.ret ((two (r1L tP) r1B).enc (Ea0 x y),[])))
theorem Lc9:i4 prog G 21 Sb7:=mb5 (bd b21 Bc7) (two (r1L tP) r1B) (o:=Da9) fun x y=>A0 (by kernel_rfl)
end Go.Ev.Ce
end
namespace Go.Ev.Ce
open Go Go.Ev Go.Ev.L Go.Proofs
noncomputable def rm (p:Pln) (x:Pt):Int:=W (p.b*x.pw - (p.n.x*x.px+p.n.y*x.py+p.n.z*x.pz))
structure Bd (p:Pln):Prop where
 x1:-4608≤p.n.x
 x2:p.n.x≤4608
 y1:-4608≤p.n.y
 y2:p.n.y≤4608
 z1:-4608≤p.n.z
 z2:p.n.z≤4608
 b1:-2097152≤p.b
 b2:p.b≤2097152
def mv (p q r:Pln):V3 :=
 ⟨(d8 q.n r.n).x*p.b+(d8 r.n p.n).x*q.b+(d8 p.n q.n).x*r.b,
  (d8 q.n r.n).y*p.b+(d8 r.n p.n).y*q.b+(d8 p.n q.n).y*r.b,
  (d8 q.n r.n).z*p.b+(d8 r.n p.n).z*q.b+(d8 p.n q.n).z*r.b⟩
def gc (v:V3) (w:Int):Int:=(Nat.gcd (Nat.gcd v.x.natAbs v.y.natAbs) (Nat.gcd v.z.natAbs w.natAbs):Nat)
def mpt (p q r:Pln):Pt×Bool :=
 if mw p q r=0 then (⟨0,0,0,0⟩,false)
 else if mw p q r < 0 then (⟨Int.tdiv (-(mv p q r).x) (gc (mv p q r) (mw p q r)),Int.tdiv (-(mv p q r).y) (gc (mv p q r) (mw p q r)),Int.tdiv (-(mv p q r).z) (gc (mv p q r) (mw p q r)),Int.tdiv (-(mw p q r)) (gc (mv p q r) (mw p q r))⟩,true)
 else (⟨Int.tdiv (mv p q r).x (gc (mv p q r) (mw p q r)),Int.tdiv (mv p q r).y (gc (mv p q r) (mw p q r)),Int.tdiv (mv p q r).z (gc (mv p q r) (mw p q r)),Int.tdiv (mw p q r) (gc (mv p q r) (mw p q r))⟩,true)
def Sm (n:Int) (x:Int):Prop:=-n≤x∧x≤n
theorem yb1 {a b:V3} (ha:Sm 4608 a.x∧Sm 4608 a.y∧Sm 4608 a.z) (hb:Sm 4608 b.x∧Sm 4608 b.y∧Sm 4608 b.z):Sm 42467328 (d8 a b).x∧Sm 42467328 (d8 a b).y∧Sm 42467328 (d8 a b).z:=by
 obtain⟨⟨a1,a2⟩,⟨a3,a4⟩,a5,a6⟩:=ha
 obtain⟨⟨b1,b2⟩,⟨b3,b4⟩,b5,b6⟩:=hb
 have h1:=mb a3 a4 b5 b6;have h2:=mb a5 a6 b3 b4;have h3:=mb a5 a6 b1 b2;have h4:=mb a1 a2 b5 b6;have h5:=mb a1 a2 b3 b4;have h6:=mb a3 a4 b1 b2
 unfold Sm d8
 simp only
 omega
theorem Bd.n {p:Pln} (h:Bd p):Sm 4608 p.n.x∧Sm 4608 p.n.y∧Sm 4608 p.n.z:=⟨⟨h.x1,h.x2⟩,⟨h.y1,h.y2⟩,h.z1,h.z2⟩
theorem Se2 {p q r:Pln} (hp:Bd p) (hq:Bd q) (hr:Bd r):Sm 600000000000 (mw p q r):=by
 obtain⟨⟨c1,c2⟩,⟨c3,c4⟩,c5,c6⟩:=yb1 hq.n hr.n
 have h1:=mb hp.x1 hp.x2 c1 c2;have h2:=mb hp.y1 hp.y2 c3 c4;have h3:=mb hp.z1 hp.z2 c5 c6
 unfold Sm mw dot
 omega
theorem Se3 {p q r:Pln} (hp:Bd p) (hq:Bd q) (hr:Bd r):Sm 300000000000000 (mv p q r).x∧Sm 300000000000000 (mv p q r).y∧Sm 300000000000000 (mv p q r).z:=by
 obtain⟨⟨c1,c2⟩,⟨c3,c4⟩,c5,c6⟩:=yb1 hq.n hr.n
 obtain⟨⟨d1,d2⟩,⟨d3,d4⟩,d5,d6⟩:=yb1 hr.n hp.n
 obtain⟨⟨e1,e2⟩,⟨e3,e4⟩,e5,e6⟩:=yb1 hp.n hq.n
 have a1:=mb c1 c2 hp.b1 hp.b2;have a2:=mb c3 c4 hp.b1 hp.b2;have a3:=mb c5 c6 hp.b1 hp.b2
 have b1:=mb d1 d2 hq.b1 hq.b2;have b2:=mb d3 d4 hq.b1 hq.b2;have b3:=mb d5 d6 hq.b1 hq.b2
 have f1:=mb e1 e2 hr.b1 hr.b2;have f2:=mb e3 e4 hr.b1 hr.b2;have f3:=mb e5 e6 hr.b1 hr.b2
 unfold Sm mv
 simp only
 omega
theorem se0 (a b:V3):aa0 a b=⟨W (d8 a b).x,W (d8 a b).y,W (d8 a b).z⟩:=by
 unfold aa0 d8
 simp only[zd2,ae1]
theorem se1 (a b:V3):Ka7 a b=⟨W (d8 a b).x,W (d8 a b).y,W (d8 a b).z⟩:=by
 unfold Ka7 d8
 simp only[zd2,ae1]
theorem zd3 {v:V3} {w:Int} (h:w≠0):0 < gc v w:=by
 unfold gc
 have:0 < Nat.gcd v.z.natAbs w.natAbs:=Nat.gcd_pos_of_pos_right _ (by omega)
 have:=Nat.gcd_pos_of_pos_right (Nat.gcd v.x.natAbs v.y.natAbs) this
 omega
theorem Se4 {v:V3} {w:Int} (h:w≠0):gc v w≤w.natAbs:=by
 unfold gc
 have h1:Nat.gcd v.z.natAbs w.natAbs≤w.natAbs:=Nat.gcd_le_right _ (by omega)
 have h2:0 < Nat.gcd v.z.natAbs w.natAbs:=Nat.gcd_pos_of_pos_right _ (by omega)
 have h3:=Nat.gcd_le_right (m:=Nat.gcd v.x.natAbs v.y.natAbs) (n:=Nat.gcd v.z.natAbs w.natAbs) h2
 omega
theorem Sb8 {x:Int} (h:Sm 1000000000000000000 x):W x=x:=U3 (by have:=h.1;omega) (by have:=h.2;omega)
theorem Sm.mono {n m x:Int} (h:Sm n x) (hn:n≤m):Sm m x:=⟨by have:=h.1;omega,by have:=h.2;omega⟩
theorem ga3 {n x g:Int} (h:Sm n x) (hg:0 < g):Sm n (Int.tdiv x g):=by
 have h1:(Int.tdiv x g).natAbs≤x.natAbs:=by rw[Int.natAbs_tdiv];exact Nat.div_le_self _ _
 have:=h.1;have:=h.2
 constructor<;>omega
theorem zd4 {p q r:Pln} (hp:Bd p) (hq:Bd q) (hr:Bd r) (h:(mpt p q r).2=true):0 < (mpt p q r).1.pw∧Sm 300000000000000 (mpt p q r).1.px∧Sm 300000000000000 (mpt p q r).1.py∧Sm 300000000000000 (mpt p q r).1.pz∧(mpt p q r).1.pw≤600000000000:=by
 have hw:=Se2 hp hq hr
 obtain⟨v1,v2,v3⟩:=Se3 hp hq hr
 have neg:∀ {n x:Int},Sm n x→Sm n (-x):=fun h=>⟨by have:=h.2;omega,by have:=h.1;omega⟩
 have pos:∀ {x:Int},0 < x→x.natAbs=(mw p q r).natAbs→0 < Int.tdiv x (gc (mv p q r) (mw p q r)):=fun {x} hx he=>by
  have h0:mw p q r≠0:=by omega
  have h1:=zd3 (v:=mv p q r) h0
  have h2:=Se4 (v:=mv p q r) h0
  rw[Int.tdiv_eq_ediv_of_nonneg (by omega)]
  exact Int.ediv_pos_of_pos_of_dvd hx (by omega) (by
   rw[← Int.dvd_natAbs,he]
   exact Int.natCast_dvd_natCast.2 (Nat.dvd_trans (Nat.gcd_dvd_right _ _) (Nat.gcd_dvd_right _ _)))
 unfold mpt at h ⊢
 by_cases h0:mw p q r=0
 ·rw[if_pos h0] at h;cases h
 ·rw[if_neg h0]
  have hg:=zd3 (v:=mv p q r) h0
  by_cases h1:mw p q r < 0
  ·rw[if_pos h1]
   exact⟨pos (by omega) (by omega),ga3 (neg v1) hg,ga3 (neg v2) hg,ga3 (neg v3) hg,(ga3 (neg hw) hg).2⟩
  ·rw[if_neg h1]
   exact⟨pos (by omega) rfl,ga3 v1 hg,ga3 v2 hg,ga3 v3 hg,(ga3 hw hg).2⟩
end Go.Ev.Ce
namespace Go.Ev.Ce
open Go Go.Ev Go.Ev.L Go.Proofs
noncomputable def inn (l:List Pln) (x:Pt):Bool:=l.all fun p=>!decide (rm p x < 0)
def eqX (x q:Pt):Bool:=q.px==x.px&&(q.py==x.py&&(q.pz==x.pz&&(q.pw==x.pw&&true)))
theorem Fd8 (x q:Pt):eqX x q=true↔q=x:=by
 unfold eqX
 simp only[Bool.and_true,Bool.and_eq_true,beq_iff_eq]
 exact⟨fun⟨h1,h2,h3,h4⟩=>by cases q;cases x;simp_all,fun h=>by subst h;exact⟨rfl,rfl,rfl,rfl⟩⟩
def se2 (l:List Pt) (x:Pt):Bool:=l.any (eqX x)
theorem ae5 (l:List Pt) (x:Pt):se2 l x=true↔x∈l:=by
 unfold se2
 rw[List.any_eq_true]
 exact⟨fun⟨q,h,e⟩=>(Fd8 x q).1 e ▸ h,fun h=>⟨x,h,(Fd8 x x).2 rfl⟩⟩
def smb (n x:Int):Bool:=!decide (x < -n)&&!decide (x > n)
theorem Ra6 (n x:Int):smb n x=true↔Sm n x:=by unfold smb Sm;simp only[Bool.and_eq_true,Bool.not_eq_true',decide_eq_false_iff_not];omega
theorem Bc8 (n:Int) (l:List Int) (hn:0≤n∧n≤1000000000) (hl:l.length≤1000000000):pa6 n l=some (b (l.all (smb n)),[]):=by
 have hW:W (0 - n)=-n:=by rw[U3 (by omega) (by omega)];omega
 have h:=ac6 (step:=fa1 ⟨n,l,(l.length:Int)⟩) (mk:=fun j=>(⟨(j:Int)⟩:H8)) (c:=fun x=>!smb n x) (u:=1) (fin:=2) tI l hl
  (fun j hj=>by
   simp only[fa1,ba6,Int.toNat_natCast,y7 hj (by omega),hW]
   rw[bt (Ac4 hj),bt (i5 hj)]
   unfold smb
   cases decide (gL tI l j < -n)<;>cases decide (gL tI l j > n)<;>rfl)
  (by simp only[fa1,ba6];rw[bf (Rb4 (Nat.lt_irrefl _))]) 0 (Nat.zero_le _)
 rw[List.drop_zero] at h
 unfold pa6
 simp only[p9,l7]
 rw[show (⟨0⟩:H8)=⟨((0:Nat):Int)⟩ from rfl,h]
 have e:(l.any fun x=>!smb n x)=!l.all (smb n):=by rw[List.not_all_eq_any_not]
 rw[e]
 cases l.all (smb n)<;>rfl
theorem jb3 (n:Int) (l:List Int) (hn:0≤n∧n≤1000000000) (hl:l.length≤1000000000):K2 n l=l.all (smb n):=by unfold K2;rw[Bc8 n l hn hl];rfl
theorem jb4 (n:Int) (l:List Int) (hn:0≤n∧n≤1000000000) (hl:l.length≤1000000000):K3 n l=true:=by unfold K3;rw[Bc8 n l hn hl];rfl
theorem cb5 {n:Int} (h:Sm 1000000000000000000 n):R3 n=(n.natAbs:Int):=by
 unfold R3
 obtain⟨h1,h2⟩:=h
 rw[U3 (by omega) (by omega)]
 split<;>omega
theorem Sb9 {n:Int} (h:Sm 1000000000000000000 n):pa4 n=some (i (n.natAbs:Int),[]):=by
 unfold pa4
 obtain⟨h1,h2⟩:=h
 rw[U3 (by omega) (by omega)]
 by_cases h:n < 0
 ·rw[bt (decide_eq_true h)];congr 3;omega
 ·rw[bf (decide_eq_false h)];congr 3;omega
theorem yb2 {n:Int} (h:Sm 1000000000000000000 n):ja2 n=(n.natAbs:Int):=by unfold ja2;rw[Sb9 h];rfl
theorem yb3 {n:Int} (h:Sm 1000000000000000000 n):ja3 n=true:=by unfold ja3;rw[Sb9 h];rfl
def g3 (v:V3):Int:=(Nat.gcd (Nat.gcd v.x.natAbs v.y.natAbs) v.z.natAbs:Nat)
theorem ae6 (g n:Nat):eu (g:Int) (n:Int)=(Nat.gcd g n:Nat):=by rw[Ge8 (by omega) (by omega)];rfl
theorem Mc0 (P:U7) (g n:Nat) (hn:n≤1000000000000000000):lp (R4 P) ⟨(g:Int),(n:Int)⟩=(1,⟨(Nat.gcd g n:Nat),0⟩):=by
 have:=hc7 (step:=R4 P) (mk:=fun g n=>(⟨g,n⟩:J5)) (fun g n h=>by
  have h0:n≠0:=by omega
  simp[R4,Y2,Jb3,h,h0]) (fun g=>by simp[R4,Y2,Jb3]) (g:Int) (n:Int) (by omega) (by omega) (by omega)
 rw[this,ae6]
theorem Bc9 (l:List Int) (hl:l.length≤1000000000) (hb:∀ x∈l,Sm 1000000000000000000 x):la1 l=some (i (l.foldl (fun g x=>Nat.gcd g x.natAbs) 0:Nat),[]):=by
 have h := re7 (step := ba7 ⟨(l.length : Int)⟩) (mk := fun j (a : Nat) => (⟨(a : Int), l, (j : Int)⟩ : D7)) (f := fun g x => Nat.gcd g x.natAbs) (fin := 2) tI l (fun _ _ => True) hl (fun j a hj _ => ⟨by
   have hm:=hb _ (eb9 tI hj)
   have hne:(gL tI l j==(-9223372036854775808:Int))=false:=by
    have:=hm.1
    rw[beq_eq_false_iff_ne];omega
   have hs:(gL tI l j).natAbs≤1000000000000000000:=by obtain⟨h1,h2⟩:=hm;omega
   simp only[ba7,Y3,Int.toNat_natCast,p9,l7,cb5 hm,Mc0 _ _ _ hs,y7 hj (by omega)]
   rw[bt (Ac4 hj),bt (i5 hj),bf hne]
   rfl,trivial⟩) (fun a _=>by simp only[ba7,Y3];rw[bf (Rb4 (Nat.lt_irrefl _))]) 0 (Nat.zero_le _) 0 trivial
 have h:=h.1
 rw[List.drop_zero] at h
 unfold la1
 simp only[p9,l7]
 rw[show (⟨0,l,0⟩:D7)=⟨((0:Nat):Int),l,((0:Nat):Int)⟩ from rfl,h]
 rfl
def okp (p:Pln):Bool:=[p.n.x,p.n.y,p.n.z].all (smb 4608)&&(g3 p.n==1&&[p.b].all (smb 2097152))
theorem He5 (p:Pln):Bd p↔[p.n.x,p.n.y,p.n.z].all (smb 4608)=true∧[p.b].all (smb 2097152)=true:=by
 simp only[List.all_cons,List.all_nil,Bool.and_true,Bool.and_eq_true,Ra6,Sm]
 exact⟨fun h=>⟨⟨⟨h.x1,h.x2⟩,⟨h.y1,h.y2⟩,h.z1,h.z2⟩,h.b1,h.b2⟩,fun⟨⟨⟨a,b⟩,⟨c,d⟩,e,f⟩,g,h⟩=>⟨a,b,c,d,e,f,g,h⟩⟩
theorem fb7 {p:Pln} (h:okp p=true):Bd p:=by
 unfold okp at h
 rw[Bool.and_eq_true,Bool.and_eq_true] at h
 exact (He5 p).2 ⟨h.1,h.2.2⟩
theorem sm3 {v:V3} (h:[v.x,v.y,v.z].all (smb 4608)=true):Sm 4608 v.x∧Sm 4608 v.y∧Sm 4608 v.z:=by
 simpa only[List.all_cons,List.all_nil,Bool.and_true,Bool.and_eq_true,Ra6] using h
theorem nd0 (p:Pln):ua3 p=some (b (okp p),[]):=by
 unfold ua3 okp
 have l3:[p.n.x,p.n.y,p.n.z].length≤1000000000:=by simp
 have l1:[p.b].length≤1000000000:=by simp
 simp only[jb3 4608 _ (by omega) l3,jb4 4608 _ (by omega) l3,jb3 2097152 _ (by omega) l1,jb4 2097152 _ (by omega) l1]
 cases hw:[p.n.x,p.n.y,p.n.z].all (smb 4608) with
 | false=>rfl
 | true =>
  obtain⟨h1,h2,h3⟩:=sm3 hw
  have hd:=Bc9 [p.n.x,p.n.y,p.n.z] l3 (by
   intro x hx
   simp only[List.mem_cons,List.not_mem_nil,or_false] at hx
   rcases hx with rfl | rfl | rfl
   ·exact h1.mono (by omega)
   ·exact h2.mono (by omega)
   ·exact h3.mono (by omega))
  have hg:([p.n.x,p.n.y,p.n.z].foldl (fun g x=>Nat.gcd g x.natAbs) 0:Nat)=Nat.gcd (Nat.gcd p.n.x.natAbs p.n.y.natAbs) p.n.z.natAbs:=by
   simp only[List.foldl_cons,List.foldl_nil,Nat.gcd_zero_left]
  have hp:X2 [p.n.x,p.n.y,p.n.z]=g3 p.n:=by unfold X2;rw[hd,hg];rfl
  have hgd:X3 [p.n.x,p.n.y,p.n.z]=true:=by unfold X3;rw[hd];rfl
  rw[hp,hgd]
  cases g3 p.n==1<;>rfl
theorem Fd9 (p:Pln):ua4 p=okp p:=by unfold ua4;rw[nd0 p];rfl
theorem Gd0 (p:Pln):ua5 p=true:=by unfold ua5;rw[nd0 p];rfl
theorem dc5 (P:fa0) (g n:Nat) (hn:n≤1000000000000000000):lp (Z9 P) ⟨(g:Int),(n:Int)⟩=(1,⟨(Nat.gcd g n:Nat),0⟩):=by
 have:=hc7 (step:=Z9 P) (mk:=fun g n=>(⟨g,n⟩:M8)) (fun g n h=>by
  have h0:n≠0:=by omega
  simp[Z9,pa5,Jb3,h,h0]) (fun g=>by simp[Z9,pa5,Jb3]) (g:Int) (n:Int) (by omega) (by omega) (by omega)
 rw[this,ae6]
theorem ad1 {v : V3} (h1 : Sm 1000000000000000000 v.x) (h2 : Sm 1000000000000000000 v.y) (h3 : Sm 1000000000000000000 v.z) :
  Ua9 v=if g3 v=0 then some (.tup [.agg (tV.row ⟨0,0,0⟩),i 0],[]) else some (.tup [.agg (tV.row ⟨W (Int.tdiv v.x (g3 v)),W (Int.tdiv v.y (g3 v)),W (Int.tdiv v.z (g3 v))⟩),i (g3 v)],[]):=by
 have ne:∀ {x:Int},Sm 1000000000000000000 x→(x==(-9223372036854775808:Int))=false:=fun {x} h=>by
  have:=h.1
  rw[beq_eq_false_iff_ne];omega
 have bd:∀ {x:Int},Sm 1000000000000000000 x→x.natAbs≤1000000000000000000:=fun {x} h=>by obtain⟨h1,h2⟩:=h;omega
 have l1:=dc5 ⟨0,v.x,v.y,v.z,v.x,v.y,v.z⟩ 0 v.x.natAbs (bd h1)
 rw[Nat.gcd_zero_left] at l1
 have l2:=dc5 ⟨1,v.x,v.y,v.z,v.x,v.y,v.z⟩ v.x.natAbs v.y.natAbs (bd h2)
 have l3:=dc5 ⟨2,v.x,v.y,v.z,v.x,v.y,v.z⟩ (Nat.gcd v.x.natAbs v.y.natAbs) v.z.natAbs (bd h3)
 unfold Ua9
 simp only[yb2 h1,yb2 h2,yb2 h3,yb3 h1,yb3 h2,yb3 h3]
 rw[show (⟨0,(v.x.natAbs:Int)⟩:M8)=⟨((0:Nat):Int),(v.x.natAbs:Int)⟩ from rfl]
 simp only[l1,l2,l3,ne h1,ne h2,ne h3]
 rw[show ((Nat.gcd (Nat.gcd v.x.natAbs v.y.natAbs) v.z.natAbs:Nat):Int)=g3 v from rfl]
 by_cases h:g3 v=0
 ·rw[if_pos h,show (g3 v==0)=true from by rw[h];rfl];rfl
 ·rw[if_neg h,show (g3 v==0)=false from by rw[beq_eq_false_iff_ne];exact h];rfl
theorem Cc0 {v:V3} (h1:Sm 1000000000000000000 v.x) (h2:Sm 1000000000000000000 v.y) (h3:Sm 1000000000000000000 v.z):(ya7 v).2=g3 v:=by
 unfold ya7
 rw[ad1 h1 h2 h3]
 split
 ·rename_i h;rw[h];rfl
 ·rfl
theorem He6 {v:V3} (h1:Sm 1000000000000000000 v.x) (h2:Sm 1000000000000000000 v.y) (h3:Sm 1000000000000000000 v.z) (h:g3 v≠0):ya7 v=(⟨W (Int.tdiv v.x (g3 v)),W (Int.tdiv v.y (g3 v)),W (Int.tdiv v.z (g3 v))⟩,g3 v):=by
 unfold ya7
 rw[ad1 h1 h2 h3,if_neg h]
 rfl
theorem ae7 {v:V3} (h1:Sm 1000000000000000000 v.x) (h2:Sm 1000000000000000000 v.y) (h3:Sm 1000000000000000000 v.z):Va0 v=true:=by
 unfold Va0
 rw[ad1 h1 h2 h3]
 split<;>rfl
theorem Rc9 (p:Pln):Ka8 p=some (b (okp p),[]):=by
 unfold Ka8 okp
 cases hw:[p.n.x,p.n.y,p.n.z].all (smb 4608) with
 | false =>
  simp only[List.all_cons,List.all_nil,Bool.and_true,smb] at hw
  cases h1:decide (p.n.x < -4608)<;>cases h2:decide (p.n.x > 4608)<;>cases h3:decide (p.n.y < -4608)<;>cases h4:decide (p.n.y > 4608)<;>cases h5:decide (p.n.z < -4608)<;>cases h6:decide (p.n.z > 4608)<;>simp only[h1,h2,h3,h4,h5,h6] at hw ⊢<;>first | rfl | cases hw
 | true =>
  obtain⟨h1,h2,h3⟩:=sm3 hw
  rw[bf (decide_eq_false (by have:=h1.1;omega)),bf (decide_eq_false (by have:=h1.2;omega)),bf (decide_eq_false (by have:=h2.1;omega)),bf (decide_eq_false (by have:=h2.2;omega)),bf (decide_eq_false (by have:=h3.1;omega)),bf (decide_eq_false (by have:=h3.2;omega))]
  have k1:=h1.mono (m:=1000000000000000000) (by omega)
  have k2:=h2.mono (m:=1000000000000000000) (by omega)
  have k3:=h3.mono (m:=1000000000000000000) (by omega)
  rw[bt (ae7 k1 k2 k3),Cc0 k1 k2 k3]
  cases g3 p.n==1 with
  | false=>rfl
  | true =>
   simp only[List.all_cons,List.all_nil,Bool.and_true,smb,Bool.true_and]
   rw[y9]
   by_cases ha:p.b < -2097152
   ·rw[bf (decide_eq_false (by omega)),show decide (p.b < -2097152)=true from decide_eq_true ha];rfl
   ·rw[bt (decide_eq_true (by omega)),show decide (p.b < -2097152)=false from decide_eq_false ha]
    congr 3
    by_cases hc:p.b≤2097152
    ·rw[decide_eq_true hc,decide_eq_false (by omega)];rfl
    ·rw[decide_eq_false hc,decide_eq_true (by omega)];rfl
theorem ae8 (p:Pln):bb6 p=okp p:=by unfold bb6;rw[Rc9 p];rfl
theorem nd1 (p:Pln):bb7 p=true:=by unfold bb7;rw[Rc9 p];rfl
def chk (l:List Pln):Int:=if (l.length:Int) > 48 then 2 else if l.all okp then 0 else 12
theorem nd2 {l:List Pln}:chk l=0↔l.length≤48∧∀ p∈l,okp p=true:=by
 unfold chk
 by_cases hn:(l.length:Int) > 48
 ·rw[if_pos hn]
  exact⟨fun h=>absurd h (by decide),fun h=>by omega⟩
 ·rw[if_neg hn]
  cases h:l.all okp with
  | true=>exact⟨fun _=>⟨by omega,List.all_eq_true.1 h⟩,fun _=>rfl⟩
  | false=>exact⟨fun h=>absurd h (by decide),fun h'=>by rw[List.all_eq_true.2 h'.2] at h;cases h⟩
end Go.Ev.Ce
namespace Go.Ev.Ce
open Go Go.Ev Go.Ev.L Go.Proofs
theorem btD {p:Prop} {inst:Decidable p} (h:p) {α:Type} (t e:α):sl (@decide p inst) t e=t:=bt (decide_eq_true h) t e
theorem bfD {p:Prop} {inst:Decidable p} (h:¬ p) {α:Type} (t e:α):sl (@decide p inst) t e=e:=bf (decide_eq_false h) t e
theorem l5 {j n:Nat} (h:j < n):(j:Int) < (n:Int):=Int.ofNat_lt.2 h
theorem p5 {j n:Nat} (h:¬ j < n):¬ (j:Int) < (n:Int):=fun h'=>h (Int.ofNat_lt.1 h')
noncomputable def Tb0 (r:List Pln) (p q:Pln) (out:List Pt) (s:Pln):List Pt :=
 if (mpt p q s).2&&(!se2 out (mpt p q s).1&&inn r (mpt p q s).1) then out++[(mpt p q s).1] else out
noncomputable def Nd9 (r:List Pln) (p q:Pln) (l:List Pln) (out:List Pt):List Pt:=l.foldl (Tb0 r p q) out
noncomputable def nd3 (r:List Pln) (p:Pln):List Pln→List Pt→List Pt
 | [],out=>out
 | q::l,out=>nd3 r p l (Nd9 r p q l out)
noncomputable def zd5 (r:List Pln):List Pln→List Pt→List Pt
 | [],out=>out
 | p::l,out=>zd5 r l (nd3 r p l out)
noncomputable def cor (r:List Pln):List Pt:=zd5 r r []
def Bds (r:List Pln):Prop:=∀ p∈r,Bd p
noncomputable def ph (out:List Pt):Nat:=match out with
 | []=>0
 | _::_=>1
theorem Gd1 {α:Type} (t:Ty α) (l:List α) (n k:Nat):gL t (l.drop n) k=gL t l (n+k):=by simp[gL,List.getD_eq_getElem?_getD,List.getElem?_drop]
theorem Ha6 {ρ:Type} (R:RR ρ) {x:b7×List b9} {r:ρ} (h:R.rd x=some r):U2 R (some x)=r:=by
 show Option.rec (motive:=fun _=>ρ) R.d (fun x=>x) (R.rd x)=r
 rw[h]
theorem Ya7 {ρ:Type} (R:RR ρ) {x:b7×List b9} {r:ρ} (h:R.rd x=some r):okO R (some x)=true:=by
 show Option.rec (motive:=fun _=>Bool) false (fun _=>true) (R.rd x)=true
 rw[h]
@[reducible] noncomputable def flK:List (Nat×CK):=[(0,(.int .i64)),(1,(.int .i64)),(2,(.int .i64)),(3,(.int .i64))]
structure C2 (P:hb8) (r:List Pln) (p q:Pln) (lo:Nat):Prop where
 ns:P.ef0=(r.drop lo).length
 gs:P.ef1=fun k=>tP.row (gL tP r (lo+k))
 is:P.ef2=((r.drop lo).length:Int)
 p1:(⟨⟨P.C9,P.D0,P.D1⟩,P.Vb9⟩:Pln)=p
 q1:(⟨⟨P.ya0,P.ya1,P.ya2⟩,P.ye9⟩:Pln)=q
 r1:P.Qd5=r
theorem He7 (s:Pln):((Nat.ble 4 (len (tP.row s)))&&(ba3 [(CK.int .i64),(CK.int .i64),(CK.int .i64),(CK.int .i64)] (tP.row s)))=true:=rfl
structure C1 (P:hb9) (r:List Pln) (p:Pln) (a:Nat):Prop where
 i3:P.is3=(a:Int)
 ns:P.Ue4=(r.drop (a+1)).length
 gs:P.Ue5=fun k=>tP.row (gL tP r (a+1+k))
 is:P.Le6=((r.drop (a+1)).length:Int)
 p1:(⟨⟨P.C9,P.D0,P.D1⟩,P.Vb9⟩:Pln)=p
end Go.Ev.Ce
namespace Go.Ev.Ce
open Go Go.Ev Go.Ev.L Go.Proofs
theorem Se5 {α:Type} (t:Ty α) (l:List α):(one (r1L t)).rd (eL t l,[])=some l:=by
 show Bool.rec (motive:=fun _=>Option (List α)) none (some (rt t l)) (Bool.and (Nat.beq t.es t.es) (okE t l))=_
 rw[p9,Ua0,Nat.beq_refl]
 rfl
noncomputable def ws:List Pln:=[⟨⟨1,0,0⟩,24⟩,⟨⟨-1,0,0⟩,24⟩,⟨⟨0,1,0⟩,24⟩,⟨⟨0,-1,0⟩,24⟩,⟨⟨0,0,1⟩,24⟩,⟨⟨0,0,-1⟩,24⟩]
theorem Se6:Bds ws:=by
 intro p hp
 have:okp p=true:=by
  have h:ws.all okp=true:=by decide
  exact List.all_eq_true.1 h p hp
 exact fb7 this
noncomputable def oc3 (t:Nat) (d:List Pln):List (List b7):=app (bL tP d) (List.replicate (t - d.length) cf4)
noncomputable def pos (X:List Pt) (p:Pln):Bool:=X.any fun x=>decide (rm p x > 0)
noncomputable def se3 (r:List Pln):Bool:=r.all (pos (cor r))
theorem se4 {c:List Pln} (h:(chk c==0)=true):Bds (c++ws)∧(c++ws).length≤200:=by
 rw[beq_iff_eq,nd2] at h
 refine⟨fun p hp=>?_,by rw[List.length_append,show ws.length=6 from rfl];omega⟩
 rcases List.mem_append.1 hp with hp | hp
 ·exact fb7 (h.2 p hp)
 ·exact Se6 p hp
noncomputable def pts (c:List Pln):List Pt:=if chk c==0 then cor (c++ws) else []
noncomputable def ful (c:List Pln):Bool:=(chk c==0)&&se3 (c++ws)
end Go.Ev.Ce
namespace Go.Ev.Ce
open Go Go.Ev Go.Ev.L Go.Proofs
theorem nd4 {Q:Pt→Prop} (r:List Pln) (p q:Pln):∀ (l:List Pln) (out:List Pt),(∀ s∈l,(mpt p q s).2=true→inn r (mpt p q s).1=true→Q (mpt p q s).1)→(∀ x∈out,Q x)→∀ x∈Nd9 r p q l out,Q x
 | [],out,_,h=>h
 | s::l,out,hs,h=>nd4 r p q l (Tb0 r p q out s) (fun t ht=>hs t (List.mem_cons_of_mem _ ht)) fun x hx=>by
  unfold Tb0 at hx
  split at hx
  ·rename_i hc
   rw[Bool.and_eq_true,Bool.and_eq_true] at hc
   rcases List.mem_append.1 hx with hx | hx
   ·exact h x hx
   ·rw[List.mem_singleton] at hx
    subst hx
    exact hs s List.mem_cons_self hc.1 hc.2.2
  ·exact h x hx
theorem nd5 {Q:Pt→Prop} (r:List Pln) (p:Pln):∀ (l:List Pln) (out:List Pt),(∀ q∈l,∀ s∈l,(mpt p q s).2=true→inn r (mpt p q s).1=true→Q (mpt p q s).1)→(∀ x∈out,Q x)→∀ x∈nd3 r p l out,Q x
 | [],out,_,h=>h
 | q::l,out,hs,h=>nd5 r p l _ (fun a ha t ht=>hs a (List.mem_cons_of_mem _ ha) t (List.mem_cons_of_mem _ ht)) (nd4 r p q l out (fun t ht=>hs q List.mem_cons_self t (List.mem_cons_of_mem _ ht)) h)
theorem nd6 {Q:Pt→Prop} (r:List Pln):∀ (l:List Pln) (out:List Pt),(∀ p∈l,∀ q∈l,∀ s∈l,(mpt p q s).2=true→inn r (mpt p q s).1=true→Q (mpt p q s).1)→(∀ x∈out,Q x)→∀ x∈zd5 r l out,Q x
 | [],out,_,h=>h
 | p::l,out,hs,h=>nd6 r l _ (fun a ha c hc t ht=>hs a (List.mem_cons_of_mem _ ha) c (List.mem_cons_of_mem _ hc) t (List.mem_cons_of_mem _ ht)) (nd5 r p l out (fun c hc t ht=>hs p List.mem_cons_self c (List.mem_cons_of_mem _ hc) t (List.mem_cons_of_mem _ ht)) h)
theorem Gd2 {Q:Pt→Prop} {r:List Pln} (hs:∀ p∈r,∀ q∈r,∀ s∈r,(mpt p q s).2=true→inn r (mpt p q s).1=true→Q (mpt p q s).1):∀ x∈cor r,Q x :=
 nd6 r r [] hs fun x hx=>by cases hx
structure Okx (x:Pt):Prop where
 w1:0 < x.pw
 w2:x.pw≤600000000000
 c1:Sm 300000000000000 x.px
 c2:Sm 300000000000000 x.py
 c3:Sm 300000000000000 x.pz
theorem ad2 {r:List Pln} (hb:Bds r):∀ x∈cor r,Okx x:=Gd2 fun p hp q hq s hs h _=>by
 obtain⟨h1,h2,h3,h4,h5⟩:=zd4 (hb p hp) (hb q hq) (hb s hs) h
 exact⟨h1,h5,h2,h3,h4⟩
theorem nd7 {x y:Int} (hy:0 < y):Int.tmod x y+y*Int.tdiv x y=x∧-y < Int.tmod x y∧Int.tmod x y < y:=by
 refine⟨Int.tmod_add_mul_tdiv x y,?_,Int.tmod_lt_of_pos x hy⟩
 have:=Int.lt_tmod_of_pos x hy
 omega
theorem ae9 (x:Int) {y:Int} (hy:0 < y) (hy2:y≤4000000000000000000):hb7 x y=some (i (x % y),[]):=by
 have hz:(y==0)=false:=by rw[beq_eq_false_iff_ne];omega
 obtain⟨h1,h2,h3⟩:=nd7 (x:=x) hy
 unfold hb7
 rw[bfD (by omega),bf hz,bf hz,U3 (by omega) (by omega),Int.tmod_eq_emod_of_nonneg (by omega)]
 congr 3
 rw[Int.add_emod_right]
 conv=>rhs;rw[← h1]
 rw[Int.add_mul_emod_self_left]
theorem Se7 (x:Int) {y:Int} (hy:0 < y) (hy2:y≤4000000000000000000):Bb6 x y=x % y:=by unfold Bb6;rw[ae9 x hy hy2];rfl
theorem Se8 (x:Int) {y:Int} (hy:0 < y) (hy2:y≤4000000000000000000):Bb7 x y=true:=by unfold Bb7;rw[ae9 x hy hy2];rfl
theorem Sm.neg {n x:Int} (h:Sm n x):Sm n (-x):=⟨by have:=h.2;omega,by have:=h.1;omega⟩
theorem be0 (x:Pln):(x.n.x==x.n.x&&(x.n.y==x.n.y&&(x.n.z==x.n.z&&(x.b==x.b&&true))))=true:=by simp
theorem Gd3 (l:List Pln) (hl:l.length≤1000000000):Va7 l l=some (b true,[]):=by
 have h:=ac6 (step:=ua8 ⟨l,l⟩) (mk:=fun j=>(⟨(j:Int)⟩:Z1)) (c:=fun _=>false) (u:=1) (fin:=2) tP l hl
  (fun j hj=>by
   simp only[ua8,pa7,Int.toNat_natCast,y7 hj (by omega),be0]
   rw[btD (l5 hj),bt (i5 hj),bt (i5 hj)]
   rfl)
  (by simp only[ua8,pa7];rw[bfD (p5 (Nat.lt_irrefl _))]) 0 (Nat.zero_le _)
 rw[List.drop_zero,show (l.any fun _=>false)=false by simp] at h
 unfold Va7
 simp only[p9,l7]
 rw[show (⟨0⟩:Z1)=⟨((0:Nat):Int)⟩ from rfl,h,bf (by simp)]
 rfl
theorem be1 (l:List Pln) (hl:l.length≤1000000000):Va8 l l=true:=by unfold Va8;rw[Gd3 l hl];rfl
theorem be2 (l:List Pln) (hl:l.length≤1000000000):Va9 l l=true:=by unfold Va9;rw[Gd3 l hl];rfl
end Go.Ev.Ce
namespace Go.Ev.Ce
open Go Go.Ev Go.Ev.L Go.Proofs
def Nx {σ:Type} (x:Stp σ) (E:Nat→Prop) (N:σ→Prop):Prop:=(∃ t,x=.exit t∧E t)∨∃ s,x=.next s∧N s
theorem Nx.sl {σ:Type} {c:Bool} {t e:Stp σ} {E:Nat→Prop} {N:σ→Prop} (h1:c=true→Nx t E N) (h2:c=false→Nx e E N):Nx (sl c t e) E N:=by cases c;exact h2 rfl;exact h1 rfl
theorem Nx.ex {σ:Type} {t:Nat} {E:Nat→Prop} {N:σ→Prop} (h:E t):Nx (.exit t) E N:=.inl ⟨t,rfl,h⟩
theorem Nx.nx {σ:Type} {s:σ} {E:Nat→Prop} {N:σ→Prop} (h:N s):Nx (.next s) E N:=.inr ⟨s,rfl,h⟩
theorem T1 {σ τ : Type} {step : σ → Stp σ} {mk : Nat → τ → σ} (n : Nat) (I : Nat → τ → Prop) (E : Nat → σ → Prop) (hn : n ≤ 1000000000)
  (h:∀ j a,j < n→I j a→Nx (step (mk j a)) (fun t=>E t (mk j a)) (fun s=>∃ a',s=mk (j+1) a'∧I (j+1) a'))
  (hf:∀ j a,n≤j→I j a→∃ t,step (mk j a)=.exit t∧E t (mk j a)) (j0:Nat) (a:τ) (hi:I j0 a):∃ t s,lp step (mk j0 a)=(t,s)∧E t s:=by
 have key:=ac5 (step:=step) (I:=fun m s=>∃ j a,m=n - j∧s=mk j a∧I j a) (Q:=E) (fun m s ⟨j,a,hm,hs,ha⟩=>by
  subst hs
  by_cases hlt:j < n
  ·rcases h j a hlt ha with h1 | ⟨s',h1,a',h2,h3⟩
   ·exact .inl h1
   ·subst h2
    exact .inr ⟨_,n - (j+1),by omega,h1,j+1,a',rfl,rfl,h3⟩
  ·exact .inl (hf j a (by omega) ha)) (n - j0) (mk j0 a) (by omega) ⟨j0,a,rfl,rfl,hi⟩
 exact⟨_,_,rfl,key⟩
def Rd {ρ:Type} (R:RR ρ) (o:Option (b7×List b9)) (P:ρ→Prop):Prop:=∃ x r,o=some x∧R.rd x=some r∧P r
theorem Rd.p {ρ:Type} {R:RR ρ} {o:Option (b7×List b9)} {P:ρ→Prop} (h:Rd R o P):P (U2 R o):=by
 obtain⟨x,r,h1,h2,h3⟩:=h
 rw[h1,Ha6 R h2]
 exact h3
theorem Rd.g {ρ:Type} {R:RR ρ} {o:Option (b7×List b9)} {P:ρ→Prop} (h:Rd R o P):okO R o=true:=by
 obtain⟨x,r,h1,h2,h3⟩:=h
 rw[h1]
 exact Ya7 R h2
theorem Rd.sl {ρ:Type} {R:RR ρ} {c:Bool} {t e:Option (b7×List b9)} {P:ρ→Prop} (h1:c=true→Rd R t P) (h2:c=false→Rd R e P):Rd R (sl c t e) P:=by cases c;exact h2 rfl;exact h1 rfl
theorem Ja9 (n : Int) (l : List Int) (j : Int) (h1 : 0 ≤ j) (h2 : j ≤ 1000000) (hn : 0 < n) (hn2 : n ≤ 1000000) :
  ∃ v j',A4 ⟨n,l,j⟩=⟨1,v,j'⟩∧0≤v∧v < n∧j≤j'∧j'≤j+1:=by
 unfold A4 ea1
 simp only
 by_cases h:j≥(l.length:Int)
 ·rw[btD h]
  exact⟨0,j,rfl,by omega,hn,by omega,by omega⟩
 ·rw[bfD h]
  have hW:W (W (j+1) - 1)=j:=by rw[zd2,U3 (by omega) (by omega)];omega
  have hW2:W (j+1)=j+1:=U3 (by omega) (by omega)
  have hin:inB j l.length=true:=by rw[re5];exact decide_eq_true (by omega)
  rw[hW,hW2,hin,Se8 _ hn (by omega),Se7 _ hn (by omega)]
  exact⟨_,_,rfl,Int.emod_nonneg _ (by omega),Int.emod_lt_of_pos _ hn,by omega,by omega⟩
def inV (v:V3):Bool:=smb 24 v.x&&(smb 24 v.y&&smb 24 v.z)
theorem Ea2 (v:V3):inV v=true↔Sm 24 v.x∧Sm 24 v.y∧Sm 24 v.z:=by unfold inV;rw[Bool.and_eq_true,Bool.and_eq_true,Ra6,Ra6,Ra6]
theorem be3 (v:V3):wb5 v=some (b (inV v),[]):=by
 unfold wb5 inV smb
 cases h1:decide (v.x < -24)<;>cases h2:decide (v.x > 24)<;>cases h3:decide (v.y < -24)<;>cases h4:decide (v.y > 24)<;>cases h5:decide (v.z < -24)<;>cases h6:decide (v.z > 24)<;>rfl
theorem Be2 (v:V3):Va3 v=inV v:=by unfold Va3;rw[be3];rfl
theorem be4 (v:V3):Va4 v=true:=by unfold Va4;rw[be3];rfl
def sub (a b:V3):V3:=⟨a.x - b.x,a.y - b.y,a.z - b.z⟩
theorem Gd4 {a b:V3} (ha:inV a=true) (hb:inV b=true):Ga7 a b=sub a b∧Sm 48 (sub a b).x∧Sm 48 (sub a b).y∧Sm 48 (sub a b).z:=by
 rw[Ea2] at ha hb
 obtain⟨⟨a1,a2⟩,⟨a3,a4⟩,a5,a6⟩:=ha
 obtain⟨⟨b1,b2⟩,⟨b3,b4⟩,b5,b6⟩:=hb
 unfold Ga7 sub
 rw[U3 (by omega) (by omega),U3 (by omega) (by omega),U3 (by omega) (by omega)]
 exact⟨rfl,⟨by show _≤a.x - b.x;omega,by show a.x - b.x≤_;omega⟩,⟨by show _≤a.y - b.y;omega,by show a.y - b.y≤_;omega⟩,⟨by show _≤a.z - b.z;omega,by show a.z - b.z≤_;omega⟩⟩
theorem fb8 {a b c : V3} (ha : inV a = true) (hb : inV b = true) (hc : inV c = true) :
  Ka7 (Ga7 b a) (Ga7 c a)=d8 (sub b a) (sub c a)∧Sm 4608 (d8 (sub b a) (sub c a)).x∧Sm 4608 (d8 (sub b a) (sub c a)).y∧Sm 4608 (d8 (sub b a) (sub c a)).z:=by
 obtain⟨e1,⟨u1,u2⟩,⟨u3,u4⟩,u5,u6⟩:=Gd4 hb ha
 obtain⟨e2,⟨v1,v2⟩,⟨v3,v4⟩,v5,v6⟩:=Gd4 hc ha
 rw[e1,e2,se1]
 generalize sub b a=p at *
 generalize sub c a=q at *
 have h1:=mb u3 u4 v5 v6;have h2:=mb u5 u6 v3 v4;have h3:=mb u5 u6 v1 v2;have h4:=mb u1 u2 v5 v6;have h5:=mb u1 u2 v3 v4;have h6:=mb u3 u4 v1 v2
 have k:Sm 4608 (d8 p q).x∧Sm 4608 (d8 p q).y∧Sm 4608 (d8 p q).z:=by unfold Sm d8;simp only;omega
 obtain⟨k1,k2,k3⟩:=k
 rw[Sb8 (k1.mono (by omega)),Sb8 (k2.mono (by omega)),Sb8 (k3.mono (by omega))]
 exact⟨rfl,k1,k2,k3⟩
def C8 (a b c:V3):Pln×Bool :=
 if inV a&&(inV b&&inV c) then
  if g3 (d8 (sub b a) (sub c a))=0 then (⟨⟨0,0,0⟩,0⟩,false)
  else (⟨⟨Int.tdiv (d8 (sub b a) (sub c a)).x (g3 (d8 (sub b a) (sub c a))),Int.tdiv (d8 (sub b a) (sub c a)).y (g3 (d8 (sub b a) (sub c a))),Int.tdiv (d8 (sub b a) (sub c a)).z (g3 (d8 (sub b a) (sub c a)))⟩,
   dot ⟨Int.tdiv (d8 (sub b a) (sub c a)).x (g3 (d8 (sub b a) (sub c a))),Int.tdiv (d8 (sub b a) (sub c a)).y (g3 (d8 (sub b a) (sub c a))),Int.tdiv (d8 (sub b a) (sub c a)).z (g3 (d8 (sub b a) (sub c a)))⟩ a⟩,true)
 else (⟨⟨0,0,0⟩,0⟩,false)
theorem Cb0 (v:V3):0≤g3 v:=by unfold g3;omega
theorem Cc1 (a c d:V3):ua7 a c d=some (.tup [.agg (tP.row (C8 a c d).1),b (C8 a c d).2],[]):=by
 unfold ua7 C8
 simp only[Be2,be4]
 cases ha:inV a with
 | false=>rfl
 | true =>
  cases hc:inV c with
  | false=>rfl
  | true =>
   cases hd:inV d with
   | false=>rfl
   | true =>
    obtain⟨e,k1,k2,k3⟩:=fb8 ha hc hd
    rw[e]
    generalize d8 (sub c a) (sub d a)=n at *
    have m1:=k1.mono (m:=1000000000000000000) (by omega)
    have m2:=k2.mono (m:=1000000000000000000) (by omega)
    have m3:=k3.mono (m:=1000000000000000000) (by omega)
    rw[ae7 m1 m2 m3,Cc0 m1 m2 m3]
    by_cases h0:g3 n=0
    ·rw[show (g3 n==0)=true from by rw[h0];rfl]
     simp only[Bool.and_self,if_true,h0]
     rfl
    ·have hp:=Cb0 n
     have q1:=ga3 (g:=g3 n) k1 (by omega)
     have q2:=ga3 (g:=g3 n) k2 (by omega)
     have q3:=ga3 (g:=g3 n) k3 (by omega)
     rw[show (g3 n==0)=false from by rw[beq_eq_false_iff_ne];exact h0,He6 m1 m2 m3 h0]
     simp only[Bool.and_self,if_true,h0,if_false]
     rw[Sb8 (q1.mono (by omega)),Sb8 (q2.mono (by omega)),Sb8 (q3.mono (by omega))]
     have hdot:Ga1 ⟨Int.tdiv n.x (g3 n),Int.tdiv n.y (g3 n),Int.tdiv n.z (g3 n)⟩ a=dot ⟨Int.tdiv n.x (g3 n),Int.tdiv n.y (g3 n),Int.tdiv n.z (g3 n)⟩ a:=by
      unfold Ga1
      simp only[Kb7,ac4]
      obtain⟨⟨a1,a2⟩,⟨a3,a4⟩,a5,a6⟩:=(Ea2 a).1 ha
      have r1:=mb q1.1 q1.2 a1 a2;have r2:=mb q2.1 q2.2 a3 a4;have r3:=mb q3.1 q3.2 a5 a6
      rw[U3 (by omega) (by omega)]
      rfl
     rw[hdot]
     rfl
theorem Od0 (a b c:V3):Ia6 a b c=C8 a b c:=by unfold Ia6;rw[Cc1];rfl
theorem Sc0 (a b c:V3):Ia7 a b c=true:=by unfold Ia7;rw[Cc1];rfl
theorem se5 (p:Pln) (v:V3):Rd (one r1I) (ya8 p v) (fun _=>True):=by
 unfold ya8
 simp only[nd1,be4,y9]
 exact Rd.sl (fun _=>⟨_,_,rfl,rfl,trivial⟩) fun _=>Rd.sl (fun _=>⟨_,_,rfl,rfl,trivial⟩) fun _=>Rd.sl (fun _=>⟨_,_,rfl,rfl,trivial⟩) fun _=>Rd.sl (fun _=>⟨_,_,rfl,rfl,trivial⟩) fun _=>⟨_,_,rfl,rfl,trivial⟩
theorem be5 (p:Pln) (v:V3):Kb4 p v=true:=(se5 p v).g
theorem Se9 (P:ka1) (hl:P.f9.length≤1000000000):∃ t s,lp (y6 P) ⟨0⟩=(t,s)∧(t=1∨t=2∨t=3):=by
 obtain⟨l,x1,x2,x3,x4,x5,x6,x7,x8⟩:=P
 refine T1 (step:=y6 ⟨l,x1,x2,x3,x4,x5,x6,x7,x8⟩) (mk:=fun j (_:Unit)=>(⟨(j:Int)⟩:Y7)) l.length (fun _ _=>True) (fun t _=>t=1∨t=2∨t=3) hl (fun j a hj _=>?_) (fun j a hj _=>?_) 0 () trivial
 ·simp only[y6,T6,be5,Int.toNat_natCast,y7 hj (show l.length≤4611686018427387904 from Nat.le_trans hl (by omega))]
  rw[btD (l5 hj),bt (i5 hj),y9]
  exact Nx.sl (fun _=>Nx.sl (fun _=>.ex (by simp)) fun _=>.nx ⟨(),rfl,trivial⟩) fun _=>.ex (by simp)
 ·simp only[y6,T6]
  rw[bfD (by omega)]
  exact⟨_,rfl,by simp⟩
theorem Te0 (l:List V3) (hl:l.length≤1000000000) (a c:Nat) (ha:a < l.length) (hc:c < a):∃ t s,lp (M4 ⟨(a:Int),(c:Int)⟩) ⟨l,0⟩=(t,s)∧((t=1∨t=2)∧s.f9=l):=by
 refine T1 (step:=M4 ⟨(a:Int),(c:Int)⟩) (mk:=fun j (_:Unit)=>(⟨l,(j:Int)⟩:Y8)) c (fun _ _=>True) (fun t s=>(t=1∨t=2)∧s.f9=l) (by omega) (fun j x hj _=>?_) (fun j x hj _=>?_) 0 () trivial
 ·simp only[M4,ba8,Sc0,Int.toNat_natCast,p9,l7,y7 hj (show c≤4611686018427387904 by omega)]
  rw[btD (l5 hj),bt (i5 ha),bt (i5 (show c < l.length by omega)),bt (i5 (show j < l.length by omega)),y9]
  generalize hP:ka1.mk _ _ _ _ _ _ _ _ _=P3
  obtain⟨t,s,h1,h2⟩:=Se9 P3 (by subst hP;exact hl)
  rw[h1]
  rcases h2 with rfl | rfl | rfl
  ·exact .ex (by simp)
  ·exact .nx ⟨(),rfl,trivial⟩
  ·exact .nx ⟨(),rfl,trivial⟩
 ·simp only[M4,ba8]
  rw[bfD (by omega)]
  exact⟨_,rfl,by simp⟩
theorem Te1 (l:List V3) (hl:l.length≤1000000000) (a:Nat) (ha:a < l.length):∃ t s,lp (M5 ⟨(a:Int)⟩) ⟨l,0⟩=(t,s)∧((t=1∨t=2)∧s.f9=l):=by
 refine T1 (step:=M5 ⟨(a:Int)⟩) (mk:=fun j (_:Unit)=>(⟨l,(j:Int)⟩:Y9)) a (fun _ _=>True) (fun t s=>(t=1∨t=2)∧s.f9=l) (by omega) (fun j x hj _=>?_) (fun j x hj _=>?_) 0 () trivial
 ·simp only[M5,ba9,p9,l7,y7 hj (show a≤4611686018427387904 by omega)]
  obtain⟨t,s,h1,h2,h3⟩:=Te0 l hl a j ha hj
  rw[btD (l5 hj),h1]
  rcases h2 with rfl | rfl
  ·exact .ex (by simp)
  ·exact .nx ⟨(),by rw[h3],trivial⟩
 ·simp only[M5,ba9]
  rw[bfD (by omega)]
  exact⟨_,rfl,by simp⟩
theorem ab9 (l:List V3) (hl:l.length≤1000000000):Rd (one r1B) (ya9 l) (fun _=>True):=by
 have key:∃ t s,lp (M6 ⟨⟩) ⟨l,0⟩=(t,s)∧(t=1∨t=2):=by
  refine T1 (step:=M6 ⟨⟩) (mk:=fun j (_:Unit)=>(⟨l,(j:Int)⟩:Z0)) l.length (fun _ _=>True) (fun t s=>(t=1∨t=2)) hl (fun j x hj _=>?_) (fun j x hj _=>?_) 0 () trivial
  ·simp only[M6,ca0,p9,l7,y7 hj (show l.length≤4611686018427387904 by omega)]
   obtain⟨t,s,h1,h2,h3⟩:=Te1 l hl j hj
   rw[btD (l5 hj),h1]
   rcases h2 with rfl | rfl
   ·exact .ex (by simp)
   ·exact .nx ⟨(),by rw[h3],trivial⟩
  ·simp only[M6,ca0]
   rw[bfD (by omega)]
   exact⟨_,rfl,by simp⟩
 obtain⟨t,s,h1,h2⟩:=key
 unfold ya9
 simp only[p9,l7]
 rw[h1]
 rcases h2 with rfl | rfl<;>exact⟨_,_,rfl,rfl,trivial⟩
theorem be6 (l:List V3) (hl:l.length≤1000000000):Ga8 l=true:=(ab9 l hl).g
end Go.Ev.Ce
namespace Go.Ev.Ce
open Go Go.Ev Go.Ev.L Go.Proofs
structure Fc (ph:Nat) (out:List Pln) (m:Nat):Prop where
 h:(ph=0∧out=[])∨ph=1
 l:out.length≤m
theorem Fc.more {ph m m':Nat} {out:List Pln} (h:Fc ph out m) (hm:m≤m'):Fc ph out m':=⟨h.h,Nat.le_trans h.l hm⟩
def phV (out:List V3):Nat:=match out with
 | []=>0
 | _::_=>1
theorem rc9 (out:List V3) (x:V3):phV (out++[x])=1:=by cases out<;>rfl
theorem Tb1 (l:List V3) (x1 x2 x3:Int):app (bL tV l) [[i x1,i x2,i x3]]=bL tV (l++[⟨x1,x2,x3⟩]):=Ua1 tV l [⟨x1,x2,x3⟩]
theorem se6 {l:List V3} {m:Nat} (h:m < l.length):(((Nat.blt (0+m) (len (bL tV l)))&&(Nat.ble (0+3) (len (i7 (bL tV l) (0+m)))))&&(ba3 [(CK.int .i64),(CK.int .i64),(CK.int .i64)] (g8 (i7 (bL tV l) (0+m)) 0)))=true:=by
 rw[Nat.zero_add,R2 tV h,Ba3,show Nat.blt m l.length=true from by rw[Nat.blt_eq];exact h]
 rfl
theorem Be3 {l:List V3} {m:Nat} (h:m < l.length):(((Nat.blt (0+m) (len (bL tV l)))&&(Nat.ble (2+1) (len (i7 (bL tV l) (0+m)))))&&(ba3 [(CK.int .i64)] (g8 (i7 (bL tV l) (0+m)) 2)))=true:=by
 rw[Nat.zero_add,R2 tV h,Ba3,show Nat.blt m l.length=true from by rw[Nat.blt_eq];exact h]
 rfl
theorem nd8 {n:Nat} {l:List V3} (hn:l.length=n) (h:n≤1000000000):(Nat.beq n (len (bL tV l))&&Nat.ble ((n+1)*24) room)=true:=by
 subst hn
 rw[Ba3,Nat.beq_refl,Bool.true_and,Nat.ble_eq]
 unfold room
 omega
theorem se7 (x : List Int) (N : Nat) (h4 : 4 ≤ N) (h8 : N ≤ 8) (j0 : Int) (hj0 : 0 ≤ j0 ∧ j0 ≤ 10) :
  ∃ idx out,lp (ea2 ⟨(N:Int)⟩) ⟨0,0,x,j0,0,[]⟩=(2,⟨1,(N:Int),x,idx,N,bL tV out⟩)∧out.length=N:=by
 have key:=T1 (step:=ea2 ⟨(N:Int)⟩) (mk:=fun j (a:Int×List V3)=>(⟨phV a.2,(j:Int),x,a.1,a.2.length,bL tV a.2⟩:p7)) N
  (fun j a=>a.2.length=j∧0≤a.1∧a.1≤10+4*j∧j≤N) (fun t s=>t=2∧∃ idx out,s=⟨1,(N:Int),x,idx,N,bL tV out⟩∧out.length=N) (by omega) (fun j a hj ha=>?_) (fun j a hj ha=>?_) 0 (j0,[]) ⟨rfl,hj0.1,by omega,by omega⟩
 ·obtain⟨t,s,e1,rfl,idx,out,e2,e3⟩:=key
  exact⟨idx,out,by rw[← e2];exact e1,e3⟩
 ·obtain⟨at0,out⟩:=a
  obtain⟨ho,ha1,ha2,_⟩:=ha
  simp only at ho ha1 ha2
  have hn:=y7 hj (show N≤4611686018427387904 by omega)
  obtain⟨v1,j1,d1,_,_,c1,b1⟩:=Ja9 17 x at0 ha1 (by omega) (by omega) (by omega)
  obtain⟨v2,j2,d2,_,_,c2,b2⟩:=Ja9 17 x j1 (by omega) (by omega) (by omega) (by omega)
  obtain⟨v3,j3,d3,_,_,c3,b3⟩:=Ja9 17 x j2 (by omega) (by omega) (by omega) (by omega)
  obtain⟨v4,j4,d4,_,_,c4,b4⟩:=Ja9 6 x j3 (by omega) (by omega) (by omega) (by omega)
  have leaf : ∀ (E : Nat → Prop) (x1 x2 x3 : Int), Nx (.next (⟨1, ((j + 1 : Nat) : Int), x, j4, j + 1, bL tV (out ++ [⟨x1, x2, x3⟩])⟩ : p7)) E
    (fun s=>∃ a':Int×List V3,s=⟨phV a'.2,((j+1:Nat):Int),x,a'.1,a'.2.length,bL tV a'.2⟩∧a'.2.length=j+1∧0≤a'.1∧a'.1≤10+4*((j+1:Nat):Int)∧j+1≤N):=fun E x1 x2 x3=>by
   have hl:(out++[(⟨x1,x2,x3⟩:V3)]).length=j+1:=by simp[ho]
   exact .nx ⟨(j4,out++[⟨x1,x2,x3⟩]),by simp only[rc9,hl],hl,by show 0≤j4;omega,by show j4≤_;omega,by omega⟩
  cases out with
  | nil =>
   have hj0':j=0:=by simpa using ho.symm
   subst hj0'
   show Nx (R5 Stp.next Stp.exit Stp.fail _ _) _ _
   simp only[R5,p9,l7,d1,d2,d3,d4,hn]
   rw[btD (l5 hj)]
   have f1:decide (((0:Nat):Int) > 1)=false:=rfl
   have f2:decide (((0:Nat):Int) > 0)=false:=rfl
   have f3:decide (((0:Nat):Int) > 2)=false:=rfl
   have lf:∀ (E:Nat→Prop) (x1 x2 x3:Int),Nx (.next (⟨1,((0+1:Nat):Int),x,j4,1,[[i x1,i x2,i x3]]⟩:p7)) E _:=leaf
   simp only[f1,f2,f3,Ta8,Nat.beq_refl,Bool.and_true,y9]
   refine Nx.sl (fun _=>?_) (fun _=>?_)<;>refine Nx.sl (fun _=>?_) (fun _=>?_)
   all_goals first
    | exact lf _ _ _ _
    | (refine Nx.sl (fun _=>?_) (fun _=>?_)<;>exact lf _ _ _ _)
  | cons o os =>
   have h1:1≤j:=by simp only[List.length_cons] at ho;omega
   generalize hO:o::os=O at *
   have hph:phV O=1:=by subst hO;rfl
   have w1:W ((j:Int) - 1)=((j - 1:Nat):Int):=by rw[U3 (by omega) (by omega)];omega
   have i1:inB ((j - 1:Nat):Int) j=true:=i5 (by omega)
   have r1:=se6 (l:=O) (m:=j - 1) (by omega)
   have r1':=Be3 (l:=O) (m:=j - 1) (by omega)
   have rr:=nd8 ho (by omega)
   have f2:∀ {inst:Decidable ((j:Int) > 0)},@decide ((j:Int) > 0) inst=true:=decide_eq_true (by omega)
   show Nx (sel (Nat.beq (phV O) 1) (p4 Stp.next Stp.exit Stp.fail _ _) _) _ _
   rw[hph]
   show Nx (p4 Stp.next Stp.exit Stp.fail _ _) _ _
   by_cases h2:2≤j
   ·have w2:W ((j:Int) - 2)=((j - 2:Nat):Int):=by rw[U3 (by omega) (by omega)];omega
    have i2:inB ((j - 2:Nat):Int) j=true:=i5 (by omega)
    have r2:=se6 (l:=O) (m:=j - 2) (by omega)
    simp only[p4,p9,l7,d1,d2,d3,d4,hn,ho,w1,w2,i1,i2,Int.toNat_natCast,r1,r1',r2,rr,Tb1]
    rw[btD (l5 hj)]
    simp only[Nat.beq_refl,Bool.and_true,y9]
    repeat' (first | exact leaf _ _ _ _ | refine Nx.sl (fun _=>?_) (fun _=>?_))
   ·have hj1:j=1:=by omega
    subst hj1
    simp only[p4,p9,l7,d1,d2,d3,d4,hn,ho,w1,i1,Int.toNat_natCast,r1,r1',rr,Tb1]
    have f1:decide (((1:Nat):Int) > 1)=false:=rfl
    rw[btD (l5 hj)]
    simp only[f1,Ta8,Nat.beq_refl,Bool.and_true,y9]
    repeat' (first | exact leaf _ _ _ _ | refine Nx.sl (fun _=>?_) (fun _=>?_))
 ·obtain⟨at0,out⟩:=a
  obtain⟨ho,ha1,ha2,hjN⟩:=ha
  simp only at ho ha1 ha2
  have hj':j=N:=by omega
  subst hj'
  cases out with
  | nil=>simp only[List.length_nil] at ho;omega
  | cons o os =>
   refine⟨2,?_,rfl,at0,o::os,by rw[ho];rfl,ho⟩
   show p4 Stp.next Stp.exit Stp.fail _ _=_
   simp only[p4]
   rw[bfD (by omega)]
theorem ad3 {l:List V3} {n:Nat} {r:List (List b7)} {P:List V3→Prop} (hn:n=l.length) (hr:r=bL tV l) (h:P l):Rd (one (r1L tV)) (some (.sl 0 0 n 0,[⟨27,3,r,true,false,0⟩])) P:=by
 subst hn hr
 refine⟨_,l,rfl,?_,h⟩
 show Bool.rec (motive:=fun _=>Option (List V3)) none (some (slR tV (bL tV l) 0 l.length)) (Bool.and true (okS tV (bL tV l) 0 l.length))=_
 rw[db6,mb4]
 rfl
theorem Sc1 (x:List Int):Rd (one (r1L tV)) (ka2 x) (fun r=>4≤r.length∧r.length≤8):=by
 obtain⟨v,j,e1,a1,b1,c1,d1⟩:=Ja9 5 x 0 (by omega) (by omega) (by omega) (by omega)
 have hN:W (4+v)=(((4+v).toNat:Nat):Int):=by rw[U3 (by omega) (by omega)];omega
 obtain⟨idx,out,e2,e3⟩:=se7 x (4+v).toNat (by omega) (by omega) j (by omega)
 unfold ka2
 simp only[p9,l7,e1,hN,e2]
 have h4:4≤(4+v).toNat:=by omega
 have h8:(4+v).toNat≤8:=by omega
 generalize (4+v).toNat=N at *
 have s1:lsL tV N (fun k=>i7 (bL tV out) (0+k))=out:=by rw[← e3];exact db6 tV out
 have s2:okL tV N (fun k=>i7 (bL tV out) (0+k))=true:=by rw[← e3];exact mb4 tV out
 have gf:Ga8 out=true:=be6 out (by omega)
 rw[s1,s2,gf]
 simp only[Nat.beq_refl,Bool.and_true,y9,show Nat.beq 2 1=false from rfl,Ta8]
 refine Rd.sl (fun _=>?_) fun _=>ad3 e3.symm rfl ⟨by omega,by omega⟩
 have i0:inB 0 N=true:=i5 (j:=0) (by omega)
 have i1:inB 1 N=true:=i5 (j:=1) (by omega)
 have i2:inB 2 N=true:=i5 (j:=2) (by omega)
 have i3:inB 3 N=true:=i5 (j:=3) (by omega)
 have sp:∀ (v:V3) (x1 x2 x3:Int),P7 (tV.row v) 0 [i x1,i x2,i x3]=tV.row ⟨x1,x2,x3⟩:=fun _ _ _ _=>rfl
 have rl:∀ v:V3,Nat.ble (0+3) (len (tV.row v))=true:=fun _=>rfl
 have ck:∀ v:V3,ba3 [(CK.int .i64),(CK.int .i64),(CK.int .i64)] (g8 (tV.row v) 0)=true:=fun _=>rfl
 have gr:∀ (l:List V3) (k:Nat),l.length=N→k < 4→i7 (bL tV l) k=tV.row (gL tV l k):=fun l k hl hk=>R2 tV (by omega)
 have bl:∀ (l:List V3) (k:Nat),l.length=N→k < 4→Nat.blt k (len (bL tV l))=true:=fun l k hl hk=>by rw[Ba3,Nat.blt_eq];omega
 have ls:∀ (l:List V3) (k:Nat) (v:V3),l.length=N→(l.set k v).length=N:=fun l k v hl=>by rw[List.length_set];exact hl
 rw[gr out 0 e3 (by omega),gr out 1 e3 (by omega)]
 simp only[sp,Ka6]
 rw[gr _ 2 (ls out 1 _ e3) (by omega)]
 simp only[sp,Ka6]
 rw[gr _ 3 (ls _ 2 _ (ls out 1 _ e3)) (by omega)]
 simp only[sp,Ka6,rl,ck,i0,i1,i2,i3,bl out 0 e3 (by omega),bl out 1 e3 (by omega),bl _ 2 (ls out 1 _ e3) (by omega),bl _ 3 (ls _ 2 _ (ls out 1 _ e3)) (by omega),Bool.and_true,y9]
 exact ad3 (by simp only[List.length_set];omega) rfl (by simp only[List.length_set];omega)
theorem be7 (x:List Int):Qa1 x=true:=(Sc1 x).g
theorem Cc2 (x:List Int):4≤(d9 x).length∧(d9 x).length≤8:=(Sc1 x).p
end Go.Ev.Ce
namespace Go.Ev.Ce
open Go Go.Ev Go.Ev.L Go.Proofs
theorem He8 {α:Type} (t:Ty α) (k:Nat) (l:List α):(one (r1L t)).rd (.sl 0 0 l.length 0,[⟨k,t.es,bL t l,true,false,0⟩])=some l:=by
 show Bool.rec (motive:=fun _=>Option (List α)) none (some (slR t (bL t l) 0 l.length)) (Bool.and (Nat.beq t.es t.es) (okS t (bL t l) 0 l.length))=_
 rw[db6,mb4,Nat.beq_refl]
 rfl
end Go.Ev.Ce
namespace Go.Ev.Ce
open Go Go.Ev Go.Ev.L Go.Proofs
theorem yb4 (v:V3):ja9 v=inV v∧ka0 v=true:=by
 have h3:[v.x,v.y,v.z].length≤1000000000:=by simp
 have:Va1 v=some (b (inV v),[]):=by
  unfold Va1 inV
  simp only[jb3 24 _ (by omega) h3,jb4 24 _ (by omega) h3,y9]
  simp only[List.all_cons,List.all_nil,Bool.and_true]
 unfold ja9 ka0
 rw[this]
 exact⟨rfl,rfl⟩
noncomputable def has (c:List Pln) (v:V3):Bool:=(chk c==0)&&(inV v&&inn c ⟨v.x,v.y,v.z,1⟩)
noncomputable def apart (a c:List Pln):Bool:=!((chk a==0)&&(chk c==0))||!se3 (a++c++ws)
noncomputable def cf9 (a c:List Pln):Bool:=ful a&&((chk c==0)&&(pts a).all (inn c))
end Go.Ev.Ce
namespace Go.Ev.Ce
open Go Go.Ev Go.Ev.L Go.Proofs
noncomputable def onc (X:List Pt) (p:Pln):Nat:=X.countP fun x=>rm p x==0
noncomputable def keep (X:List Pt) (p:Pln):Bool:=!decide ((onc X p:Int) < 3)
theorem Tb2 {α:Type} (c:α→Bool):∀ l:List α,(l.take (l.findIdx c)).filter (fun x=>!c x)=l.take (l.findIdx c)
 | []=>rfl
 | x::l=>by
  rw[List.findIdx_cons]
  cases h:c x with
  | true=>rfl
  | false =>
   simp only[cond_false,List.take_succ_cons,List.filter_cons,h,Bool.not_false,if_true]
   rw[Tb2 c l]
theorem zd6 {α:Type} (l:List α) (j:Nat) (h:j < l.length):l.take (j+1)=l.take j++[l[j]]:=by rw[List.take_succ_eq_append_getElem h]
theorem Ea3 {α:Type} (t:Ty α) {l:List α} {j:Nat} (h:j < l.length):l.take (j+1)=l.take j++[gL t l j]:=by rw[zd6 l j h,wb8 t h]
theorem dc6 {α:Type} (t:Ty α) {l r:List α} {j:Nat} (h:l.drop j=r.drop j):gL t l j=gL t r j:=by
 have h1:=Gd1 t l j 0
 have h2:=Gd1 t r j 0
 rw[Nat.add_zero] at h1 h2
 rw[← h1,← h2,h]
theorem Tb3 {α:Type} {l r:List α} {j:Nat} (h:l.drop j=r.drop j) (k:Nat):l.drop (j+k)=r.drop (j+k):=by rw[← List.drop_drop,← List.drop_drop,h]
structure Del (l:List Pln) (f:Pln→Bool) (cur:List Pln) (m j:Nat):Prop where
 len:cur.length=l.length
 t:cur.take m=(l.take j).filter f
 d:cur.drop j=l.drop j
 le:m≤j
 lm:m≤l.length
theorem se8 (l:List Pln) (n:Nat):g8 (bL tP l) n=bL tP (l.drop n):=by unfold bL;rw[F5,o1,o1,List.map_drop]
def eqP (x y:Pln):Bool:=x.n.x==y.n.x&&(x.n.y==y.n.y&&(x.n.z==y.n.z&&(x.b==y.b&&true)))
theorem Tb4 (x y:Pln):eqP x y=true↔x=y:=by
 unfold eqP
 simp only[Bool.and_true,Bool.and_eq_true,beq_iff_eq]
 refine⟨fun⟨h1,h2,h3,h4⟩=>?_,fun h=>by subst h;exact⟨rfl,rfl,rfl,rfl⟩⟩
 obtain⟨⟨x1,x2,x3⟩,x4⟩:=x
 obtain⟨⟨y1,y2,y3⟩,y4⟩:=y
 simp only at h1 h2 h3 h4
 subst h1 h2 h3 h4
 rfl
def ddF:Pln→List Pln→List Pln
 | _,[]=>[]
 | a,x::l=>if eqP x a then ddF x l else x::ddF x l
def dd:List Pln→List Pln
 | []=>[]
 | x::l=>x::ddF x l
structure Cmp (l:List Pln) (n:Nat) (cur:List Pln) (m j:Nat) (R:List Pln):Prop where
 len:cur.length=l.length
 t:cur.take m++ddF (gL tP l (j - 1)) ((l.take n).drop j)=R
 d:cur.drop (j - 1)=l.drop (j - 1)
 le:m+1≤j
theorem be8 (l:List Pln) (n:Nat) (hn:n≤l.length):slR tP (bL tP l) 0 n=l.take n:=Xb3 tP (by rw[List.length_take];omega) fun k hk=>by
 rw[Nat.zero_add,R2 tP (by omega)]
 congr 1
 simp[gL,List.getD_eq_getElem?_getD,List.getElem?_take,hk]
theorem be9 (l:List Pln) (n:Nat) (hn:n≤l.length):okS tP (bL tP l) 0 n=true:=Ta9 tP (f:=fun k=>gL tP l k) fun k hk=>by rw[Nat.zero_add,R2 tP (by omega)]
end Go.Ev.Ce
namespace Go.Ev.Ce
open Go Go.Ev Go.Ev.L Go.Proofs Go.Sort
theorem Cc3 (l:List Pln):List.Perm (Fb3 l) l:=List.mergeSort_perm l _
theorem Od1 (x y z:Pln) (h1:(!ltOf eb1 y x)=true) (h2:(!ltOf eb1 z y)=true):(!ltOf eb1 z x)=true:=by
 simp only[Bool.not_eq_true',Ga5,decide_eq_false_iff_not] at *
 unfold LtP at *
 omega
theorem Od2 (x y:Pln):((!ltOf eb1 y x)||!ltOf eb1 x y)=true:=by
 simp only[Bool.or_eq_true,Bool.not_eq_true',Ga5,decide_eq_false_iff_not]
 unfold LtP
 omega
theorem ad4 (l:List Pln):(Fb3 l).Pairwise fun x y=>(!ltOf eb1 y x)=true:=List.pairwise_mergeSort Od1 Od2 l
instance:DecidableEq Pln:=fun x y=>decidable_of_iff _ (Tb4 x y)
def PC:List Pt:=[⟨0,0,0,1⟩,⟨0,0,1,4⟩,⟨0,1,0,3⟩,⟨1,0,0,2⟩]
end Go.Ev.Ce
section
namespace Go.Ev.Ce
open Go Go.Ev Go.Ev.L Go.Proofs
set_option maxRecDepth 100000
structure Db6 where
structure yb5 where
structure yb6 where
structure Db7 where
 alt:Nat
structure dc7 where
structure Tb5 where
structure Tb6 where
structure dc8 where
 alt:Nat
structure Mc1 where
structure Mc2 where
 alt:Nat
structure Hc2 where
 ba2:List Pt
structure sc0 where
 ba2:List Pt
structure sc1 where
structure Hc3 where
 alt:Nat
 ba2:List Pt
structure Cc4 where
 ba2:List Pt
structure Cc5 where
 alt:Nat
 ba2:List Pt
structure Sc2 where
structure Sc3 where
structure ed0 where
structure ed1 where
end Go.Ev.Ce
end
section
namespace Go.Ev.Ce
open Go Go.Ev Go.Ev.L Go.Proofs
set_option maxRecDepth 100000
structure ce0 where
 is1:Int
structure ce1 where
 ph:Nat
 is7:Int
 n5:List Int
 c7:Int
 ns6:Nat
 eh1:List (List b7)
structure se9 where
 n8:List Pln
 ke5:List Pt
 is5:Int
 Ce6:List Pln
structure te0 where
 ph:Nat
 is6:Int
 is7:Int
structure te1 where
structure te2 where
 ph:Nat
 n8:List Pln
 ke5:List Pt
 is5:Int
 Ce6:List Pln
end Go.Ev.Ce
end
namespace Go.Ev.Ce
open Go Go.Ev Go.Ev.L Go.Proofs
def Pa2 (l:List Pln):Prop:=l.Pairwise LtP
theorem Sc4 {x y z:Pln} (h1:LtP x y) (h2:LtP y z):LtP x z:=by unfold LtP at *;omega
theorem ad5 (x:Pln):¬ LtP x x:=by unfold LtP;omega
theorem Gd5 (x y:Pln):LtP x y∨x=y∨LtP y x:=by
 by_cases h1:LtP x y
 ·exact .inl h1
 ·by_cases h2:LtP y x
  ·exact .inr (.inr h2)
  ·refine .inr (.inl ?_)
   unfold LtP at h1 h2
   have e1:x.n.x=y.n.x:=by omega
   have e2:x.n.y=y.n.y:=by omega
   have e3:x.n.z=y.n.z:=by omega
   have e4:x.b=y.b:=by omega
   cases x with | mk n b=>cases y with | mk m c=>cases n;cases m;simp_all
theorem Cb1:∀ {l r:List Pln},Pa2 l→Pa2 r→(∀ p,p∈l↔p∈r)→l=r
 | [],[],_,_,_=>rfl
 | [],b::r,_,_,h=>by have:=(h b).2 List.mem_cons_self;cases this
 | a::l,[],_,_,h=>by have:=(h a).1 List.mem_cons_self;cases this
 | a::l,b::r,hl,hr,h=>by
  obtain⟨hl1,hl2⟩:=List.pairwise_cons.1 hl
  obtain⟨hr1,hr2⟩:=List.pairwise_cons.1 hr
  have hab:a=b:=by
   rcases List.mem_cons.1 ((h a).1 List.mem_cons_self) with e | h1
   ·exact e
   ·rcases List.mem_cons.1 ((h b).2 List.mem_cons_self) with e | h2
    ·exact e.symm
    ·exact absurd (Sc4 (hr1 a h1) (hl1 b h2)) (ad5 b)
  subst hab
  rw[Cb1 hl2 hr2 fun p=>?_]
  constructor
  ·intro hp
   rcases List.mem_cons.1 ((h p).1 (List.mem_cons_of_mem _ hp)) with e | h1
   ·subst e;exact absurd (hl1 p hp) (ad5 p)
   ·exact h1
  ·intro hp
   rcases List.mem_cons.1 ((h p).2 (List.mem_cons_of_mem _ hp)) with e | h1
   ·subst e;exact absurd (hr1 p hp) (ad5 p)
   ·exact h1
def ad6:List Pln→Pln→List Pln
 | [],y=>[y]
 | a::l,y=>if eb1 a y < 0 then a::ad6 l y else if eqP a y then a::l else y::a::l
theorem yb7 (y p:Pln):∀ x,p∈ad6 x y↔p=y∨p∈x
 | []=>by simp[ad6]
 | a::l=>by
  unfold ad6
  have ih:=yb7 y p l
  split
  ·simp only[List.mem_cons,ih]
   constructor
   ·rintro (h | h | h)
    ·exact .inr (.inl h)
    ·exact .inl h
    ·exact .inr (.inr h)
   ·rintro (h | h | h)
    ·exact .inr (.inl h)
    ·exact .inl h
    ·exact .inr (.inr h)
  ·split
   ·rename_i h
    rw[Tb4] at h
    subst h
    simp only[List.mem_cons]
    constructor
    ·exact fun h=>.inr h
    ·rintro (h | h)
     ·exact .inl h
     ·exact h
   ·simp only[List.mem_cons]
theorem Tb7 (y:Pln):∀ {x},Pa2 x→Pa2 (ad6 x y)
 | [],_=>List.pairwise_singleton _ _
 | a::l,h=>by
  obtain⟨h1,h2⟩:=List.pairwise_cons.1 h
  unfold ad6
  split
  ·rename_i hc
   rw[Zc1] at hc
   refine List.pairwise_cons.2 ⟨fun p hp=>?_,Tb7 y h2⟩
   rcases (yb7 y p l).1 hp with e | hp
   ·subst e;exact hc
   ·exact h1 p hp
  ·rename_i hc
   rw[Zc1] at hc
   split
   ·exact h
   ·rename_i hne
    have hlt:LtP y a:=by
     rcases Gd5 y a with h | h | h
     ·exact h
     ·exact absurd ((Tb4 _ _).2 h.symm) hne
     ·exact absurd h hc
    refine List.pairwise_cons.2 ⟨fun p hp=>?_,h⟩
    rcases List.mem_cons.1 hp with e | hp
    ·subst e;exact hlt
    ·exact Sc4 hlt (h1 p hp)
end Go.Ev.Ce
namespace Go.Ev.Ce
open Go Go.Ev Go.Ev.L Go.Proofs
theorem Gd6 {σ:Type} {step:σ→Stp σ} {s:σ} {t:Nat} (h:step s=.exit t):lp step s=(t,s):=by rw[Vd2];exact wc0 h
theorem Od3:Fb3 []=[]:=List.eq_nil_of_length_eq_zero (Bb8 [])
end Go.Ev.Ce
namespace Go.Ev.Ce
def rmZ (p:Pln) (x:Pt):Int:=p.b*x.pw - (p.n.x*x.px+p.n.y*x.py+p.n.z*x.pz)
structure Inr (r:List Pln) (x:Pt):Prop where
 w:0 < x.pw
 h:∀ p∈r,0≤rmZ p x
def da2 (p:Pln):Pln:=⟨⟨-p.n.x,-p.n.y,-p.n.z⟩,-p.b⟩
theorem Ya8 (p:Pln) (x:Pt):rmZ (da2 p) x=-rmZ p x:=by unfold rmZ da2;grind
structure Cn (r:List Pln) (x:Pt):Prop extends Inr r x where
 c:∃ p q s,p∈r∧q∈r∧s∈r∧mw p q s≠0∧rmZ p x=0∧rmZ q x=0∧rmZ s x=0
def Bdd (r:List Pln):Prop:=∀ d:V3,d≠⟨0,0,0⟩→∃ p∈r,0 < dot p.n d
def go (x:Pt) (q:Pln) (d:V3):Pt:=⟨x.px*dot q.n d+rmZ q x*d.x,x.py*dot q.n d+rmZ q x*d.y,x.pz*dot q.n d+rmZ q x*d.z,x.pw*dot q.n d⟩
theorem nd9 (p q:Pln) (x:Pt) (d:V3):rmZ p (go x q d)=dot q.n d*rmZ p x - rmZ q x*dot p.n d:=by simp only[rmZ,go,dot];grind
theorem Ka0 {a b c:Int} (hc:0 < c) (h:a*c≤b*c):a≤b:=Int.le_of_mul_le_mul_right h hc
theorem first (x:Pt) (d:V3):∀ r:List Pln,(∀ p∈r,0≤rmZ p x)→(∃ p∈r,0 < dot p.n d)→∃ q∈r,0 < dot q.n d∧∀ p∈r,0 < dot p.n d→rmZ q x*dot p.n d≤rmZ p x*dot q.n d
 | [],_,h=>by obtain⟨p,hp,_⟩:=h;cases hp
 | a::r,hx,h=>by
  by_cases hr:∃ p∈r,0 < dot p.n d
  ·obtain⟨q,hq,h1,h2⟩:=first x d r (fun p hp=>hx p (List.mem_cons_of_mem _ hp)) hr
   by_cases ha:0 < dot a.n d
   ·by_cases hc:rmZ q x*dot a.n d≤rmZ a x*dot q.n d
    ·refine⟨q,List.mem_cons_of_mem _ hq,h1,fun p hp h3=>?_⟩
     rcases List.mem_cons.1 hp with rfl | hp
     ·exact hc
     ·exact h2 p hp h3
    ·refine⟨a,List.mem_cons_self,ha,fun p hp h3=>?_⟩
     rcases List.mem_cons.1 hp with rfl | hp
     ·exact Int.le_refl _
     ·have h4:=h2 p hp h3
      have h5:rmZ a x*dot q.n d < rmZ q x*dot a.n d:=by omega
      have h6:=Int.mul_le_mul_of_nonneg_right h4 (Int.le_of_lt ha)
      have h7:=Int.mul_lt_mul_of_pos_right h5 h3
      have e1:rmZ q x*dot p.n d*dot a.n d=rmZ q x*dot a.n d*dot p.n d:=by grind
      have e2:rmZ a x*dot q.n d*dot p.n d=rmZ a x*dot p.n d*dot q.n d:=by grind
      have e3:rmZ p x*dot q.n d*dot a.n d=rmZ p x*dot a.n d*dot q.n d:=by grind
      refine Ka0 h1 ?_
      omega
   ·refine⟨q,List.mem_cons_of_mem _ hq,h1,fun p hp h3=>?_⟩
    rcases List.mem_cons.1 hp with rfl | hp
    ·exact absurd h3 ha
    ·exact h2 p hp h3
  ·have ha : 0 < dot a.n d := by
    obtain⟨p,hp,h3⟩:=h
    rcases List.mem_cons.1 hp with rfl | hp
    ·exact h3
    ·exact absurd ⟨p,hp,h3⟩ hr
   refine⟨a,List.mem_cons_self,ha,fun p hp h3=>?_⟩
   rcases List.mem_cons.1 hp with rfl | hp
   ·exact Int.le_refl _
   ·exact absurd ⟨p,hp,h3⟩ hr
theorem step {r:List Pln} {x:Pt} (hx:Inr r x) (d:V3) (h:∃ p∈r,0 < dot p.n d):∃ q∈r,0 < dot q.n d∧Inr r (go x q d):=by
 obtain⟨q,hq,h1,h2⟩:=first x d r hx.h h
 refine⟨q,hq,h1,⟨Int.mul_pos hx.w h1,fun p hp=>?_⟩⟩
 rw[nd9]
 have h3:=hx.h p hp
 have h4:=hx.h q hq
 by_cases h5:0 < dot p.n d
 ·have:=h2 p hp h5
  have e:rmZ p x*dot q.n d=dot q.n d*rmZ p x:=Int.mul_comm _ _
  omega
 ·have h6:=Int.mul_nonneg (Int.le_of_lt h1) h3
  have h7:rmZ q x*dot p.n d≤0:=Int.mul_nonpos_of_nonneg_of_nonpos h4 (by omega)
  omega
theorem ce2 {h q:Pln} {x:Pt} {d:V3} (h1:0≤rmZ q x) (h2:0≤dot h.n d):rmZ h (go x q d)*x.pw≤rmZ h x*(go x q d).pw∨x.pw≤0:=by
 rcases Int.lt_or_le 0 x.pw with hw | hw
 ·left
  rw[nd9]
  have:=Int.mul_nonneg h1 h2
  have h3:=Int.mul_nonneg this (Int.le_of_lt hw)
  have e:rmZ h x*(go x q d).pw=dot q.n d*rmZ h x*x.pw:=by unfold go;grind
  have e2:(dot q.n d*rmZ h x - rmZ q x*dot h.n d)*x.pw=dot q.n d*rmZ h x*x.pw - rmZ q x*dot h.n d*x.pw:=by grind
  omega
 ·exact .inr hw
def neg (d:V3):V3:=⟨-d.x,-d.y,-d.z⟩
theorem sc2 (a d:V3):dot a (neg d)=-dot a d:=by unfold dot neg;grind
theorem ad7 {d:V3} (h:d≠⟨0,0,0⟩):neg d≠⟨0,0,0⟩:=fun h'=>h (by
 cases d;unfold neg at h';simp only[V3.mk.injEq] at h' ⊢;omega)
theorem turn (h:Pln) {d:V3} (hd:d≠⟨0,0,0⟩):∃ e,e≠(⟨0,0,0⟩:V3)∧0≤dot h.n e∧∀ a,dot a d=0→dot a e=0:=by
 by_cases h1:0≤dot h.n d
 ·exact⟨d,hd,h1,fun _ h=>h⟩
 ·exact⟨neg d,ad7 hd,by rw[sc2];omega,fun a h=>by rw[sc2,h];rfl⟩
theorem te3 {n:V3} (hn:n≠⟨0,0,0⟩):∃ d,d≠(⟨0,0,0⟩:V3)∧dot n d=0:=by
 by_cases h:n.x=0∧n.y=0
 ·exact⟨⟨1,0,0⟩,by simp,by unfold dot;simp[h.1]⟩
 ·refine⟨⟨n.y,-n.x,0⟩,fun h'=>h ?_,by unfold dot;grind⟩
  simp only[V3.mk.injEq] at h'
  omega
theorem V3.ext' {a b:V3} (h1:a.x=b.x) (h2:a.y=b.y) (h3:a.z=b.z):a=b:=by cases a;cases b;simp_all
theorem od0 {m n d:V3} (hm:m≠⟨0,0,0⟩) (h1:dot m d=0) (h2:dot n d≠0):d8 m n≠⟨0,0,0⟩:=fun h=>by
 unfold d8 at h
 simp only[V3.mk.injEq] at h
 obtain⟨c1,c2,c3⟩:=h
 unfold dot at h1 h2
 have e1:m.x*(n.x*d.x+n.y*d.y+n.z*d.z)=0:=by grind
 have e2:m.y*(n.x*d.x+n.y*d.y+n.z*d.z)=0:=by grind
 have e3:m.z*(n.x*d.x+n.y*d.y+n.z*d.z)=0:=by grind
 have k:∀ {a:Int},a*(n.x*d.x+n.y*d.y+n.z*d.z)=0→a=0:=fun h=>(Int.mul_eq_zero.1 h).resolve_right h2
 exact hm (V3.ext' (k e1) (k e2) (k e3))
theorem hc9 (a b:V3):dot a (d8 a b)=0:=by unfold dot d8;grind
theorem ic0 (a b:V3):dot b (d8 a b)=0:=by unfold dot d8;grind
theorem ce3 {p q:Pln} {x:Pt} {d:V3} (h:rmZ p x=0) (h':dot p.n d=0):rmZ p (go x q d)=0:=by rw[nd9,h,h'];simp
theorem ce4 (q:Pln) (x:Pt) (d:V3):rmZ q (go x q d)=0:=by rw[nd9];grind
theorem Te2 {q:Pln} {d:V3} (h:0 < dot q.n d):q.n≠⟨0,0,0⟩:=fun h'=>by rw[h'] at h;unfold dot at h;simp at h
theorem Be4 {a b c u v w:Int} (hu:0 < u) (hv:0 < v) (hw:0 < w) (h1:a*v≤b*u) (h2:b*w≤c*v):a*w≤c*u:=by
 have h3:=Int.mul_le_mul_of_nonneg_right h1 (Int.le_of_lt hw)
 have h4:=Int.mul_le_mul_of_nonneg_right h2 (Int.le_of_lt hu)
 have e1:a*v*w=a*w*v:=by grind
 have e2:b*u*w=b*w*u:=by grind
 have e3:c*v*u=c*u*v:=by grind
 exact Ka0 hv (by omega)
theorem zd7 {r:List Pln} (hb:Bdd r) (h:Pln) {x:Pt} (hx:Inr r x):∃ v,Cn r v∧rmZ h v*x.pw≤rmZ h x*v.pw:=by
 obtain⟨d0,n0,p0,_⟩:=turn h (d:=⟨1,0,0⟩) (by simp)
 obtain⟨q1,m1,k1,i1⟩:=step hx d0 (hb d0 n0)
 have l1:=(ce2 (h:=h) (x:=x) (hx.h q1 m1) p0).resolve_right (by have:=hx.w;omega)
 obtain⟨e1,ne1,he1⟩:=te3 (Te2 k1)
 obtain⟨d1,n1,p1,z1⟩:=turn h ne1
 obtain⟨q2,m2,k2,i2⟩:=step i1 d1 (hb d1 n1)
 have l2:=(ce2 (h:=h) (x:=go x q1 d0) (i1.h q2 m2) p1).resolve_right (by have:=i1.w;omega)
 have hc:=od0 (Te2 k1) (z1 _ he1) (n:=q2.n) (by omega)
 obtain⟨d2,n2,p2,z2⟩:=turn h hc
 obtain⟨q3,m3,k3,i3⟩:=step i2 d2 (hb d2 n2)
 have l3:=(ce2 (h:=h) (x:=go (go x q1 d0) q2 d1) (i2.h q3 m3) p2).resolve_right (by have:=i2.w;omega)
 have a1:rmZ q1 (go (go x q1 d0) q2 d1)=0:=ce3 (ce4 _ _ _) (z1 _ he1)
 refine⟨_,⟨i3,q3,q1,q2,m3,m1,m2,fun h0=>?_,ce4 _ _ _,ce3 a1 (z2 _ (hc9 _ _)),ce3 (ce4 _ _ _) (z2 _ (ic0 _ _))⟩,?_⟩
 ·have:dot q3.n d2=0:=z2 _ h0
  omega
 ·exact Be4 i3.w i2.w hx.w l3 (Be4 i2.w i1.w hx.w l2 l1)
theorem ma3 {r:List Pln} (hb:Bdd r) {h:Pln} (hv:∀ v,Cn r v→0≤rmZ h v) {x:Pt} (hx:Inr r x):0≤rmZ h x:=by
 obtain⟨v,h1,h2⟩:=zd7 hb h hx
 have h3:=Int.mul_nonneg (hv v h1) (Int.le_of_lt hx.w)
 exact Ka0 h1.w (by rw[Int.zero_mul];omega)
def mid (x y:Pt):Pt:=⟨x.px*y.pw+y.px*x.pw,x.py*y.pw+y.py*x.pw,x.pz*y.pw+y.pz*x.pw,2*(x.pw*y.pw)⟩
theorem ce5 (p:Pln) (x y:Pt):rmZ p (mid x y)=rmZ p x*y.pw+rmZ p y*x.pw:=by unfold rmZ mid;grind
theorem Inr.mid {r:List Pln} {x y:Pt} (hx:Inr r x) (hy:Inr r y):Inr r (mid x y):=⟨by unfold Ce.mid;exact Int.mul_pos (by decide) (Int.mul_pos hx.w hy.w),fun p hp=>by
 rw[ce5]
 exact Int.add_nonneg (Int.mul_nonneg (hx.h p hp) (Int.le_of_lt hy.w)) (Int.mul_nonneg (hy.h p hp) (Int.le_of_lt hx.w))⟩
def ce6 (r:List Pln):Prop:=∃ x:Pt,0 < x.pw∧∀ p∈r,0 < rmZ p x
theorem Gd7 {r:List Pln}:∀ (l:List Pln),(∀ p∈l,p∈r)→(∃ x,Inr r x)→(∀ p∈l,∃ v,Inr r v∧0 < rmZ p v)→∃ x,Inr r x∧∀ p∈l,0 < rmZ p x
 | [],_,h,_=>by obtain⟨x,h⟩:=h;exact⟨x,h,fun p hp=>by cases hp⟩
 | a::l,hl,h,hv=>by
  obtain⟨x,h1,h2⟩:=Gd7 l (fun p hp=>hl p (List.mem_cons_of_mem _ hp)) h (fun p hp=>hv p (List.mem_cons_of_mem _ hp))
  obtain⟨y,h3,h4⟩:=hv a List.mem_cons_self
  refine⟨mid x y,h1.mid h3,fun p hp=>?_⟩
  rw[ce5]
  rcases List.mem_cons.1 hp with rfl | hp
  ·have:=Int.mul_nonneg (h1.h p (hl p List.mem_cons_self)) (Int.le_of_lt h3.w)
   have:=Int.mul_pos h4 h1.w
   omega
  ·have:=Int.mul_pos (h2 p hp) h3.w
   have:=Int.mul_nonneg (h3.h p (hl p (List.mem_cons_of_mem _ hp))) (Int.le_of_lt h1.w)
   omega
theorem ce7 {r:List Pln} (hb:Bdd r) (h0:r≠[]):ce6 r↔∀ p∈r,∃ v,Cn r v∧0 < rmZ p v:=by
 constructor
 ·intro ⟨x,hw,hx⟩ p hp
  by_cases h:∃ v,Cn r v∧0 < rmZ p v
  ·exact h
  ·have hx':Inr r x:=⟨hw,fun q hq=>Int.le_of_lt (hx q hq)⟩
   have:=ma3 hb (h:=da2 p) (fun v hv=>by
    rw[Ya8]
    have:¬ 0 < rmZ p v:=fun h'=>h ⟨v,hv,h'⟩
    omega) hx'
   rw[Ya8] at this
   have:=hx p hp
   omega
 ·intro h
  obtain⟨p,hp⟩:=List.exists_mem_of_ne_nil r h0
  obtain⟨v,hv,_⟩:=h p hp
  obtain⟨x,h1,h2⟩:=Gd7 r (fun _ h=>h) ⟨v,hv.toInr⟩ fun p hp=>by
   obtain⟨v,hv,h⟩:=h p hp
   exact⟨v,hv.toInr,h⟩
  exact⟨x,h1.w,h2⟩
structure Eqv (x v:Pt):Prop where
 e1:x.px*v.pw=v.px*x.pw
 e2:x.py*v.pw=v.py*x.pw
 e3:x.pz*v.pw=v.pz*x.pw
theorem Eqv.rm {x v:Pt} (h:Eqv x v) (p:Pln):rmZ p x*v.pw=rmZ p v*x.pw:=by
 obtain⟨e1,e2,e3⟩:=h
 unfold rmZ
 grind
theorem Eqv.inr {r:List Pln} {x v:Pt} (h:Eqv x v) (hw:0 < x.pw) (hv:Inr r v):Inr r x:=⟨hw,fun p hp=>by
 have:=h.rm p
 have h2:=Int.mul_nonneg (hv.h p hp) (Int.le_of_lt hw)
 exact Ka0 hv.w (by rw[Int.zero_mul];omega)⟩
end Go.Ev.Ce
namespace Go.Ev.Ce
open Go Go.Ev Go.Ev.L Go.Proofs
theorem te4 {p:Pln} {x:Pt} (hp:Bd p) (hx:Okx x):rm p x=rmZ p x:=by
 unfold rm rmZ
 obtain⟨w1,w2,⟨a1,a2⟩,⟨a3,a4⟩,a5,a6⟩:=hx
 have h0:=mb hp.b1 hp.b2 (show -600000000000≤x.pw by omega) w2
 have h1:=mb hp.x1 hp.x2 a1 a2
 have h2:=mb hp.y1 hp.y2 a3 a4
 have h3:=mb hp.z1 hp.z2 a5 a6
 exact U3 (by omega) (by omega)
theorem Gd8 {r:List Pln} (hb:Bds r) {x:Pt} (hx:Okx x):inn r x=true↔Inr r x:=by
 unfold inn
 rw[List.all_eq_true]
 constructor
 ·intro h
  refine⟨hx.w1,fun p hp=>?_⟩
  have:=h p hp
  rw[te4 (hb p hp) hx] at this
  simpa using this
 ·intro h p hp
  rw[te4 (hb p hp) hx]
  simpa using h.h p hp
theorem Be5 {p q s:Pln} (h:(mpt p q s).2=true):mw p q s≠0∧∃ k:Int,k≠0∧k*(mpt p q s).1.px=(mv p q s).x∧k*(mpt p q s).1.py=(mv p q s).y∧k*(mpt p q s).1.pz=(mv p q s).z∧k*(mpt p q s).1.pw=mw p q s:=by
 unfold mpt at h ⊢
 by_cases h0:mw p q s=0
 ·rw[if_pos h0] at h;cases h
 refine⟨h0,?_⟩
 have hg:=zd3 (v:=mv p q s) h0
 have dv:∀ {x:Int},(gc (mv p q s) (mw p q s))∣x→gc (mv p q s) (mw p q s)*Int.tdiv x (gc (mv p q s) (mw p q s))=x:=fun h=>Int.mul_tdiv_cancel' h
 have d1:gc (mv p q s) (mw p q s)∣(mv p q s).x:=by
  rw[← Int.dvd_natAbs];exact Int.natCast_dvd_natCast.2 (Nat.dvd_trans (Nat.gcd_dvd_left _ _) (Nat.gcd_dvd_left _ _))
 have d2:gc (mv p q s) (mw p q s)∣(mv p q s).y:=by
  rw[← Int.dvd_natAbs];exact Int.natCast_dvd_natCast.2 (Nat.dvd_trans (Nat.gcd_dvd_left _ _) (Nat.gcd_dvd_right _ _))
 have d3:gc (mv p q s) (mw p q s)∣(mv p q s).z:=by
  rw[← Int.dvd_natAbs];exact Int.natCast_dvd_natCast.2 (Nat.dvd_trans (Nat.gcd_dvd_right _ _) (Nat.gcd_dvd_left _ _))
 have d4:gc (mv p q s) (mw p q s)∣mw p q s:=by
  rw[← Int.dvd_natAbs];exact Int.natCast_dvd_natCast.2 (Nat.dvd_trans (Nat.gcd_dvd_right _ _) (Nat.gcd_dvd_right _ _))
 rw[if_neg h0]
 by_cases h1:mw p q s < 0
 ·rw[if_pos h1]
  have e:∀ {x:Int},(gc (mv p q s) (mw p q s))∣x→-(gc (mv p q s) (mw p q s))*Int.tdiv (-x) (gc (mv p q s) (mw p q s))=x:=fun {x} h=>by
   rw[Int.neg_mul,dv ((Int.dvd_neg).2 h),Int.neg_neg]
  exact⟨-(gc (mv p q s) (mw p q s)),by omega,e d1,e d2,e d3,e d4⟩
 ·rw[if_neg h1]
  exact⟨gc (mv p q s) (mw p q s),by omega,dv d1,dv d2,dv d3,dv d4⟩
theorem ce8 {p q s:Pln} (h:(mpt p q s).2=true):rmZ p (mpt p q s).1=0∧rmZ q (mpt p q s).1=0∧rmZ s (mpt p q s).1=0:=by
 obtain⟨_,k,hk,e1,e2,e3,e4⟩:=Be5 h
 generalize (mpt p q s).1=x at *
 have f:∀ a:Pln,a.b*mw p q s - (a.n.x*(mv p q s).x+a.n.y*(mv p q s).y+a.n.z*(mv p q s).z)=0→rmZ a x=0:=fun a ha=>by
  rw[← e1,← e2,← e3,← e4] at ha
  have:k*rmZ a x=0:=by rw[← ha];unfold rmZ;grind
  exact (Int.mul_eq_zero.1 this).resolve_left hk
 refine⟨f p ?_,f q ?_,f s ?_⟩<;>(simp only[mw,mv,dot,d8];grind)
theorem te5 {p q s:Pln} (h:mw p q s≠0):(mpt p q s).2=true:=by
 unfold mpt
 rw[if_neg h]
 split<;>rfl
theorem ce9 {p q s:Pln} {x:Pt} (h1:rmZ p x=0) (h2:rmZ q x=0) (h3:rmZ s x=0):mw p q s*x.px=(mv p q s).x*x.pw∧mw p q s*x.py=(mv p q s).y*x.pw∧mw p q s*x.pz=(mv p q s).z*x.pw:=by
 have i1:(mv p q s).x*x.pw - mw p q s*x.px=(d8 q.n s.n).x*rmZ p x+(d8 s.n p.n).x*rmZ q x+(d8 p.n q.n).x*rmZ s x:=by simp only[mw,mv,dot,d8,rmZ];grind
 have i2:(mv p q s).y*x.pw - mw p q s*x.py=(d8 q.n s.n).y*rmZ p x+(d8 s.n p.n).y*rmZ q x+(d8 p.n q.n).y*rmZ s x:=by simp only[mw,mv,dot,d8,rmZ];grind
 have i3:(mv p q s).z*x.pw - mw p q s*x.pz=(d8 q.n s.n).z*rmZ p x+(d8 s.n p.n).z*rmZ q x+(d8 p.n q.n).z*rmZ s x:=by simp only[mw,mv,dot,d8,rmZ];grind
 rw[h1,h2,h3] at i1 i2 i3
 simp only[Int.mul_zero,Int.add_zero] at i1 i2 i3
 omega
theorem He9 {p q s:Pln} {x v:Pt} (h:mw p q s≠0) (h1:rmZ p x=0) (h2:rmZ q x=0) (h3:rmZ s x=0) (k1:rmZ p v=0) (k2:rmZ q v=0) (k3:rmZ s v=0):Eqv x v:=by
 obtain⟨a1,a2,a3⟩:=ce9 h1 h2 h3
 obtain⟨c1,c2,c3⟩:=ce9 k1 k2 k3
 have f:∀ {a c m:Int},mw p q s*a=m*x.pw→mw p q s*c=m*v.pw→a*v.pw=c*x.pw:=fun {a c m} ha hc=>by
  have:mw p q s*(a*v.pw - c*x.pw)=0:=by grind
  have:=(Int.mul_eq_zero.1 this).resolve_left h
  omega
 exact⟨f a1 c1,f a2 c2,f a3 c3⟩
theorem Od4 {r:List Pln} {p q:Pln} {out:List Pt} {s:Pln} {x:Pt} (h:x∈out):x∈Tb0 r p q out s:=by
 unfold Tb0
 split
 ·exact List.mem_append_left _ h
 ·exact h
theorem Cc6 {r:List Pln} {p q:Pln} {x:Pt}:∀ {l:List Pln} {out:List Pt},x∈out→x∈Nd9 r p q l out
 | [],_,h=>h
 | s::l,out,h=>Cc6 (l:=l) (out:=Tb0 r p q out s) (Od4 h)
theorem Tb8 {r:List Pln} {p:Pln} {x:Pt}:∀ {l:List Pln} {out:List Pt},x∈out→x∈nd3 r p l out
 | [],_,h=>h
 | _::l,_,h=>Tb8 (l:=l) (Cc6 h)
theorem od1 {r:List Pln} {x:Pt}:∀ {l:List Pln} {out:List Pt},x∈out→x∈zd5 r l out
 | [],_,h=>h
 | _::l,_,h=>od1 (l:=l) (Tb8 h)
theorem Od5 {r:List Pln} {p q:Pln} {out:List Pt} {s:Pln} (h1:(mpt p q s).2=true) (h2:inn r (mpt p q s).1=true):(mpt p q s).1∈Tb0 r p q out s:=by
 unfold Tb0
 rw[h1,h2]
 cases h:se2 out (mpt p q s).1 with
 | true=>simpa using (ae5 _ _).1 h
 | false=>simp
theorem Cc7 {r:List Pln} {p q s:Pln} (h1:(mpt p q s).2=true) (h2:inn r (mpt p q s).1=true):∀ {l:List Pln} {out:List Pt},s∈l→(mpt p q s).1∈Nd9 r p q l out
 | [],_,h=>by cases h
 | t::l,out,h=>by
  show _∈Nd9 r p q l (Tb0 r p q out t)
  rcases List.mem_cons.1 h with rfl | h
  ·exact Cc6 (Od5 h1 h2)
  ·exact Cc7 h1 h2 h
structure Hit (r:List Pln) (Q:Pt→Prop) (p q s:Pln):Prop where
 h1:(mpt p q s).2=true
 h2:inn r (mpt p q s).1=true
 h3:Q (mpt p q s).1
theorem od2 {r:List Pln} {Q:Pt→Prop} {p q s:Pln} (hq:Hit r Q p q s) (hs:Hit r Q p s q) (hne:q≠s):∀ {l:List Pln} {out:List Pt},q∈l→s∈l→∃ x∈nd3 r p l out,Q x
 | [],_,h,_=>by cases h
 | t::l,out,hql,hsl=>by
  show ∃ x∈nd3 r p l (Nd9 r p t l out),Q x
  rcases List.mem_cons.1 hql with rfl | h1
  ·have h2:=(List.mem_cons.1 hsl).resolve_left fun h=>hne h.symm
   exact⟨_,Tb8 (Cc7 hq.h1 hq.h2 h2),hq.h3⟩
  ·rcases List.mem_cons.1 hsl with rfl | h2
   ·exact⟨_,Tb8 (Cc7 hs.h1 hs.h2 h1),hs.h3⟩
   ·exact od2 hq hs hne (l:=l) h1 h2
theorem od3 {r : List Pln} {Q : Pt → Prop} {p q s : Pln} (H : ∀ a c d, (a = p ∨ a = q ∨ a = s) → (c = p ∨ c = q ∨ c = s) → (d = p ∨ d = q ∨ d = s) → a ≠ c → c ≠ d → a ≠ d → Hit r Q a c d) (h1 : p ≠ q) (h2 : q ≠ s) (h3 : p ≠ s) :
  ∀ {l:List Pln} {out:List Pt},p∈l→q∈l→s∈l→∃ x∈zd5 r l out,Q x
 | [],_,h,_,_=>by cases h
 | t::l,out,hp,hq,hs=>by
  have fin:∀ {a c d:Pln} {out:List Pt},(a=p∨a=q∨a=s)→(c=p∨c=q∨c=s)→(d=p∨d=q∨d=s)→a≠c→c≠d→a≠d→c∈l→d∈l→∃ x∈zd5 r l (nd3 r a l out),Q x:=fun ha hc hd n1 n2 n3 m1 m2=>by
   obtain⟨x,hx,hQ⟩:=od2 (H _ _ _ ha hc hd n1 n2 n3) (H _ _ _ ha hd hc n3 n2.symm n1) n2 (out:=_) m1 m2
   exact⟨x,od1 hx,hQ⟩
  show ∃ x∈zd5 r l (nd3 r t l out),Q x
  rcases List.mem_cons.1 hp with rfl | hp'
  ·exact fin (.inl rfl) (.inr (.inl rfl)) (.inr (.inr rfl)) h1 h2 h3 ((List.mem_cons.1 hq).resolve_left (Ne.symm h1)) ((List.mem_cons.1 hs).resolve_left (Ne.symm h3))
  ·rcases List.mem_cons.1 hq with rfl | hq'
   ·exact fin (.inr (.inl rfl)) (.inl rfl) (.inr (.inr rfl)) (Ne.symm h1) h3 h2 hp' ((List.mem_cons.1 hs).resolve_left (Ne.symm h2))
   ·rcases List.mem_cons.1 hs with rfl | hs'
    ·exact fin (.inr (.inr rfl)) (.inl rfl) (.inr (.inl rfl)) (Ne.symm h3) h1 (Ne.symm h2) hp' hq'
    ·exact od3 H h1 h2 h3 hp' hq' hs'
theorem Te3 {p q s:Pln} (h:mw p q s≠0):p≠q∧q≠s∧p≠s:=by
 refine⟨fun e=>h ?_,fun e=>h ?_,fun e=>h ?_⟩<;>(subst e;simp only[mw,dot,d8];grind)
theorem Ie0 {r:List Pln} (hb:Bds r):∀ x∈cor r,Cn r x:=Gd2 fun p hp q hq s hs h hi=>by
 obtain⟨w1,w2,w3,w4,w5⟩:=zd4 (hb p hp) (hb q hq) (hb s hs) h
 obtain⟨e1,e2,e3⟩:=ce8 h
 exact⟨(Gd8 hb ⟨w1,w5,w2,w3,w4⟩).1 hi,p,q,s,hp,hq,hs,(Be5 h).1,e1,e2,e3⟩
theorem Ie1 {r:List Pln} (hb:Bds r) {v:Pt} (hv:Cn r v):∃ x∈cor r,Eqv x v:=by
 obtain⟨p,q,s,hp,hq,hs,hw,e1,e2,e3⟩:=hv.c
 obtain⟨n1,n2,n3⟩:=Te3 hw
 refine od3 (fun a c d ha hc hd m1 m2 m3=>?_) n1 n2 n3 hp hq hs
 have hm:∀ {a},(a=p∨a=q∨a=s)→a∈r∧rmZ a v=0:=fun h=>by
  rcases h with rfl | rfl | rfl
  ·exact⟨hp,e1⟩
  ·exact⟨hq,e2⟩
  ·exact⟨hs,e3⟩
 have hw':mw a c d≠0:=by
  have k:mw a c d=mw p q s∨mw a c d=-mw p q s:=by
   rcases ha with rfl | rfl | rfl<;>rcases hc with rfl | rfl | rfl<;>rcases hd with rfl | rfl | rfl<;>first | exact absurd rfl m1 | exact absurd rfl m2 | exact absurd rfl m3 | exact .inl rfl | (left;simp only[mw,dot,d8];grind;done) | (right;simp only[mw,dot,d8];grind;done)
  rcases k with k | k<;>omega
 have h:=te5 hw'
 obtain⟨w1,w2,w3,w4,w5⟩:=zd4 (hb a (hm ha).1) (hb c (hm hc).1) (hb d (hm hd).1) h
 obtain⟨f1,f2,f3⟩:=ce8 h
 have he:=He9 hw' f1 f2 f3 (hm ha).2 (hm hc).2 (hm hd).2
 exact⟨h,(Gd8 hb ⟨w1,w5,w2,w3,w4⟩).2 (he.inr w1 hv.toInr),he⟩
theorem de0 (c:List Pln):Bdd (c++ws):=fun d hd=>by
 have k:∀ {n:V3} {m:Int},(⟨n,m⟩:Pln)∈ws→0 < dot n d→∃ p∈c++ws,0 < dot p.n d:=fun h h'=>⟨_,List.mem_append_right _ h,h'⟩
 by_cases h1:0 < d.x
 ·exact k (n:=⟨1,0,0⟩) (m:=24) (by simp[ws]) (by unfold dot;simp;omega)
 by_cases h2:d.x < 0
 ·exact k (n:=⟨-1,0,0⟩) (m:=24) (by simp[ws]) (by unfold dot;simp;omega)
 by_cases h3:0 < d.y
 ·exact k (n:=⟨0,1,0⟩) (m:=24) (by simp[ws]) (by unfold dot;simp;omega)
 by_cases h4:d.y < 0
 ·exact k (n:=⟨0,-1,0⟩) (m:=24) (by simp[ws]) (by unfold dot;simp;omega)
 by_cases h5:0 < d.z
 ·exact k (n:=⟨0,0,1⟩) (m:=24) (by simp[ws]) (by unfold dot;simp;omega)
 by_cases h6:d.z < 0
 ·exact k (n:=⟨0,0,-1⟩) (m:=24) (by simp[ws]) (by unfold dot;simp;omega)
 exact absurd (V3.ext' (by show d.x=0;omega) (by show d.y=0;omega) (by show d.z=0;omega)) hd
theorem Gd9 {r:List Pln} (hb:Bds r) {p:Pln} (hp:Bd p):pos (cor r) p=true↔∃ v,Cn r v∧0 < rmZ p v:=by
 unfold pos
 rw[List.any_eq_true]
 constructor
 ·rintro⟨x,hx,h⟩
  rw[te4 hp (ad2 hb x hx)] at h
  exact⟨x,Ie0 hb x hx,by simpa using h⟩
 ·rintro⟨v,hv,h⟩
  obtain⟨x,hx,he⟩:=Ie1 hb hv
  refine⟨x,hx,?_⟩
  rw[te4 hp (ad2 hb x hx)]
  have h1:=he.rm p
  have h2:=Int.mul_pos h (ad2 hb x hx).w1
  have:0 < rmZ p x:=Int.lt_of_mul_lt_mul_right (by rw[Int.zero_mul];omega:0*v.pw < rmZ p x*v.pw) (Int.le_of_lt hv.w)
  simpa using this
theorem Od6 {r:List Pln} (hb:Bds r) (hd:Bdd r) (h0:r≠[]):se3 r=true↔ce6 r:=by
 rw[ce7 hd h0]
 unfold se3
 rw[List.all_eq_true]
 exact⟨fun h p hp=>(Gd9 hb (hb p hp)).1 (h p hp),fun h p hp=>(Gd9 hb (hb p hp)).2 (h p hp)⟩
end Go.Ev.Ce
