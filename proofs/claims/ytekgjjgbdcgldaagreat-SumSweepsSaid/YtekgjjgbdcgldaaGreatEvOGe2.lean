/- Own work: a part of the proof. -/
import Derived.Test.YtekgjjgbdcgldaaGreatEvODM
import Derived.Test.YtekgjjgbdcgldaaGreatEvSp2
set_option linter.unusedVariables false
set_option linter.unusedSimpArgs false
set_option linter.unnecessarySimpa false
set_option linter.unusedSectionVars false
section
namespace Go.Ev.Ce
open Go Go.Ev Go.Ev.L Go.Proofs
set_option maxRecDepth 100000
noncomputable def Ja8:List (Nat×Sum):=[(118,nb7),(92,pb8),(177,Na3),(52,Rb6),(120,Gb3),(121,Aa3),(119,qa3)]
theorem Bc2:j7 prog G Ja8:=⟨Gb4,bc5,ib3,Lc1,Ac6,eb6,xa7,trivial⟩
structure O0 where
 is3:Int
 is4:Int
 is9:Int
 r8:Int
 T4:Int
 n9:Int
 xa1:Int
 b8:List V3
 d9:List V3
structure A8 where
 ph:Nat
 B4:Int
 eh4:List (List b7)
 w7:Nat
 eh5:List (List b7)
noncomputable def bc6 (p:O0) (s:A8):St:=⟨(.unk::((.ptr 0 0 0 0)::(.unk::((i p.is3)::((i p.is4)::(ra 4 ((i p.is9)::((i p.r8)::(ra 5 ((i p.T4)::((i p.n9)::(ra 5 ((i p.xa1)::((i s.B4)::(ra 35 ((i 0)::(.unk::((.ptr 1 0 0 0)::((.v (.slice none 0 0))::((i 0)::(.unk::((.ptr 2 0 0 0)::((.ptr 3 0 0 0)::(ra 28 [])))))))))))))))))))))))),[⟨0,1,[[(eL tV p.b8)]],true,false,0⟩,⟨0,1,[[(eL tV p.d9)]],true,false,0⟩,⟨0,0,[[(.ptr 4 0 0 0)]],true,false,0⟩,⟨0,0,[[(.v (.slice none 0 0))]],true,false,0⟩,⟨143,0,s.eh4,true,false,0⟩]⟩
noncomputable def bc7 (p:O0) (s:A8):St:=⟨(.unk::((.ptr 0 0 0 0)::(.unk::((i p.is3)::((i p.is4)::(ra 4 ((i p.is9)::((i p.r8)::(ra 5 ((i p.T4)::((i p.n9)::(ra 5 ((i p.xa1)::((i s.B4)::(ra 35 ((i 0)::(.unk::((.ptr 1 0 0 0)::((.v (.slice none 0 0))::((i 0)::(.unk::((.ptr 2 0 0 0)::((.ptr 3 0 0 0)::(ra 28 [])))))))))))))))))))))))),[⟨0,1,[[(eL tV p.b8)]],true,false,0⟩,⟨0,1,[[(eL tV p.d9)]],true,false,0⟩,⟨0,0,[[(.ptr 4 0 0 0)]],true,false,0⟩,⟨0,0,[[(.sl 5 0 s.w7 0)]],true,false,0⟩,⟨143,0,s.eh4,true,false,0⟩,⟨73,4,s.eh5,true,false,0⟩]⟩
noncomputable def mc9 (p:O0) (s:A8):St:=(sel (Nat.beq s.ph 1) (bc7 p s) (bc6 p s))
noncomputable def S4 {α:Type} (k:A8→α) (e:Nat→α) (z:α) (p:O0) (s:A8):α:=let t1:=(H6 (gL tV p.b8 s.B4.toNat) (gL tV p.b8 p.is4.toNat) (gL tV p.b8 p.is3.toNat));let t2:=(sa7 t1.1);let t3:=(ba0 (rt tV p.d9) t2);let t4:=(ba0 (rt tV p.d9) t1.1);(sl (decide (s.B4 < p.xa1)) (sl (inB s.B4 (List.length p.b8)) (sl (inB p.is4 (List.length p.b8)) (sl (inB p.is3 (List.length p.b8)) (sl (ea5 (gL tV p.b8 s.B4.toNat) (gL tV p.b8 p.is4.toNat) (gL tV p.b8 p.is3.toNat)) (sl t1.2 (sl t1.2 (sl (Aa0 4 [(0,(.int .i64)),(1,(.int .i64)),(2,(.int .i64)),(3,(.int .i64))] [(i t1.1.n.x),(i t1.1.n.y),(i t1.1.n.z),(i t1.1.b)] s.eh4) (sl (Aa0 4 [(0,(.int .i64)),(1,(.int .i64)),(2,(.int .i64)),(3,(.int .i64))] [(i t2.n.x),(i t2.n.y),(i t2.n.z),(i t2.b)] s.eh4) (k ⟨0,(W (s.B4+1)),s.eh4,0,[]⟩) (sl (okE tV p.d9) (sl (H8 (rt tV p.d9) t2) (sl (!t3) (k ⟨1,(W (s.B4+1)),(T9 [(0,(.int .i64)),(1,(.int .i64)),(2,(.int .i64)),(3,(.int .i64))] [(i t2.n.x),(i t2.n.y),(i t2.n.z),(i t2.b)] [(i t2.n.x),(i t2.n.y),(i t2.n.z),(i t2.b),(b true)] s.eh4),1,[[(i t2.n.x),(i t2.n.y),(i t2.n.z),(i t2.b)]]⟩) (k ⟨0,(W (s.B4+1)),(T9 [(0,(.int .i64)),(1,(.int .i64)),(2,(.int .i64)),(3,(.int .i64))] [(i t2.n.x),(i t2.n.y),(i t2.n.z),(i t2.b)] [(i t2.n.x),(i t2.n.y),(i t2.n.z),(i t2.b),(b true)] s.eh4),0,[]⟩)) z) z)) (sl (okE tV p.d9) (sl (H8 (rt tV p.d9) t1.1) (sl (!t4) (sl (Aa0 4 [(0,(.int .i64)),(1,(.int .i64)),(2,(.int .i64)),(3,(.int .i64))] [(i t2.n.x),(i t2.n.y),(i t2.n.z),(i t2.b)] (T9 [(0,(.int .i64)),(1,(.int .i64)),(2,(.int .i64)),(3,(.int .i64))] [(i t1.1.n.x),(i t1.1.n.y),(i t1.1.n.z),(i t1.1.b)] [(i t1.1.n.x),(i t1.1.n.y),(i t1.1.n.z),(i t1.1.b),(b true)] s.eh4)) (k ⟨1,(W (s.B4+1)),(T9 [(0,(.int .i64)),(1,(.int .i64)),(2,(.int .i64)),(3,(.int .i64))] [(i t1.1.n.x),(i t1.1.n.y),(i t1.1.n.z),(i t1.1.b)] [(i t1.1.n.x),(i t1.1.n.y),(i t1.1.n.z),(i t1.1.b),(b true)] s.eh4),1,[[(i t1.1.n.x),(i t1.1.n.y),(i t1.1.n.z),(i t1.1.b)]]⟩) (sl (okE tV p.d9) (sl (H8 (rt tV p.d9) t2) (sl (!t3) (k ⟨1,(W (s.B4+1)),(T9 [(0,(.int .i64)),(1,(.int .i64)),(2,(.int .i64)),(3,(.int .i64))] [(i t2.n.x),(i t2.n.y),(i t2.n.z),(i t2.b)] [(i t2.n.x),(i t2.n.y),(i t2.n.z),(i t2.b),(b true)] (T9 [(0,(.int .i64)),(1,(.int .i64)),(2,(.int .i64)),(3,(.int .i64))] [(i t1.1.n.x),(i t1.1.n.y),(i t1.1.n.z),(i t1.1.b)] [(i t1.1.n.x),(i t1.1.n.y),(i t1.1.n.z),(i t1.1.b),(b true)] s.eh4)),2,[[(i t1.1.n.x),(i t1.1.n.y),(i t1.1.n.z),(i t1.1.b)],[(i t2.n.x),(i t2.n.y),(i t2.n.z),(i t2.b)]]⟩) (k ⟨1,(W (s.B4+1)),(T9 [(0,(.int .i64)),(1,(.int .i64)),(2,(.int .i64)),(3,(.int .i64))] [(i t2.n.x),(i t2.n.y),(i t2.n.z),(i t2.b)] [(i t2.n.x),(i t2.n.y),(i t2.n.z),(i t2.b),(b true)] (T9 [(0,(.int .i64)),(1,(.int .i64)),(2,(.int .i64)),(3,(.int .i64))] [(i t1.1.n.x),(i t1.1.n.y),(i t1.1.n.z),(i t1.1.b)] [(i t1.1.n.x),(i t1.1.n.y),(i t1.1.n.z),(i t1.1.b),(b true)] s.eh4)),1,[[(i t1.1.n.x),(i t1.1.n.y),(i t1.1.n.z),(i t1.1.b)]]⟩)) z) z)) (sl (Aa0 4 [(0,(.int .i64)),(1,(.int .i64)),(2,(.int .i64)),(3,(.int .i64))] [(i t2.n.x),(i t2.n.y),(i t2.n.z),(i t2.b)] (T9 [(0,(.int .i64)),(1,(.int .i64)),(2,(.int .i64)),(3,(.int .i64))] [(i t1.1.n.x),(i t1.1.n.y),(i t1.1.n.z),(i t1.1.b)] [(i t1.1.n.x),(i t1.1.n.y),(i t1.1.n.z),(i t1.1.b),(b true)] s.eh4)) (k ⟨0,(W (s.B4+1)),(T9 [(0,(.int .i64)),(1,(.int .i64)),(2,(.int .i64)),(3,(.int .i64))] [(i t1.1.n.x),(i t1.1.n.y),(i t1.1.n.z),(i t1.1.b)] [(i t1.1.n.x),(i t1.1.n.y),(i t1.1.n.z),(i t1.1.b),(b true)] s.eh4),0,[]⟩) (sl (okE tV p.d9) (sl (H8 (rt tV p.d9) t2) (sl (!t3) (k ⟨1,(W (s.B4+1)),(T9 [(0,(.int .i64)),(1,(.int .i64)),(2,(.int .i64)),(3,(.int .i64))] [(i t2.n.x),(i t2.n.y),(i t2.n.z),(i t2.b)] [(i t2.n.x),(i t2.n.y),(i t2.n.z),(i t2.b),(b true)] (T9 [(0,(.int .i64)),(1,(.int .i64)),(2,(.int .i64)),(3,(.int .i64))] [(i t1.1.n.x),(i t1.1.n.y),(i t1.1.n.z),(i t1.1.b)] [(i t1.1.n.x),(i t1.1.n.y),(i t1.1.n.z),(i t1.1.b),(b true)] s.eh4)),1,[[(i t2.n.x),(i t2.n.y),(i t2.n.z),(i t2.b)]]⟩) (k ⟨0,(W (s.B4+1)),(T9 [(0,(.int .i64)),(1,(.int .i64)),(2,(.int .i64)),(3,(.int .i64))] [(i t2.n.x),(i t2.n.y),(i t2.n.z),(i t2.b)] [(i t2.n.x),(i t2.n.y),(i t2.n.z),(i t2.b),(b true)] (T9 [(0,(.int .i64)),(1,(.int .i64)),(2,(.int .i64)),(3,(.int .i64))] [(i t1.1.n.x),(i t1.1.n.y),(i t1.1.n.z),(i t1.1.b)] [(i t1.1.n.x),(i t1.1.n.y),(i t1.1.n.z),(i t1.1.b),(b true)] s.eh4)),0,[]⟩)) z) z))) z) z)) (k ⟨0,(W (s.B4+1)),s.eh4,0,[]⟩)) (sl t1.2 z (k ⟨0,(W (s.B4+1)),s.eh4,0,[]⟩))) z) z) z) z) (e 1))
noncomputable def S5 {α:Type} (k:A8→α) (e:Nat→α) (z:α) (p:O0) (s:A8):α:=let t1:=(H6 (gL tV p.b8 s.B4.toNat) (gL tV p.b8 p.is4.toNat) (gL tV p.b8 p.is3.toNat));let t2:=(sa7 t1.1);let t3:=(ba0 (rt tV p.d9) t2);let t4:=(ba0 (rt tV p.d9) t1.1);let a0:=(Nat.beq s.w7 (len s.eh5)&&Nat.ble ((s.w7+1)*32) room);(sl (decide (s.B4 < p.xa1)) (sl (inB s.B4 (List.length p.b8)) (sl (inB p.is4 (List.length p.b8)) (sl (inB p.is3 (List.length p.b8)) (sl (ea5 (gL tV p.b8 s.B4.toNat) (gL tV p.b8 p.is4.toNat) (gL tV p.b8 p.is3.toNat)) (sl t1.2 (sl t1.2 (sl (Aa0 4 [(0,(.int .i64)),(1,(.int .i64)),(2,(.int .i64)),(3,(.int .i64))] [(i t1.1.n.x),(i t1.1.n.y),(i t1.1.n.z),(i t1.1.b)] s.eh4) (sl (Aa0 4 [(0,(.int .i64)),(1,(.int .i64)),(2,(.int .i64)),(3,(.int .i64))] [(i t2.n.x),(i t2.n.y),(i t2.n.z),(i t2.b)] s.eh4) (k ⟨1,(W (s.B4+1)),s.eh4,s.w7,s.eh5⟩) (sl (okE tV p.d9) (sl (H8 (rt tV p.d9) t2) (sl (!t3) (sl a0 (k ⟨1,(W (s.B4+1)),(T9 [(0,(.int .i64)),(1,(.int .i64)),(2,(.int .i64)),(3,(.int .i64))] [(i t2.n.x),(i t2.n.y),(i t2.n.z),(i t2.b)] [(i t2.n.x),(i t2.n.y),(i t2.n.z),(i t2.b),(b true)] s.eh4),(s.w7+1),(app s.eh5 [[(i t2.n.x),(i t2.n.y),(i t2.n.z),(i t2.b)]])⟩) z) (k ⟨1,(W (s.B4+1)),(T9 [(0,(.int .i64)),(1,(.int .i64)),(2,(.int .i64)),(3,(.int .i64))] [(i t2.n.x),(i t2.n.y),(i t2.n.z),(i t2.b)] [(i t2.n.x),(i t2.n.y),(i t2.n.z),(i t2.b),(b true)] s.eh4),s.w7,s.eh5⟩)) z) z)) (sl (okE tV p.d9) (sl (H8 (rt tV p.d9) t1.1) (sl (!t4) (sl a0 (sl (Aa0 4 [(0,(.int .i64)),(1,(.int .i64)),(2,(.int .i64)),(3,(.int .i64))] [(i t2.n.x),(i t2.n.y),(i t2.n.z),(i t2.b)] (T9 [(0,(.int .i64)),(1,(.int .i64)),(2,(.int .i64)),(3,(.int .i64))] [(i t1.1.n.x),(i t1.1.n.y),(i t1.1.n.z),(i t1.1.b)] [(i t1.1.n.x),(i t1.1.n.y),(i t1.1.n.z),(i t1.1.b),(b true)] s.eh4)) (k ⟨1,(W (s.B4+1)),(T9 [(0,(.int .i64)),(1,(.int .i64)),(2,(.int .i64)),(3,(.int .i64))] [(i t1.1.n.x),(i t1.1.n.y),(i t1.1.n.z),(i t1.1.b)] [(i t1.1.n.x),(i t1.1.n.y),(i t1.1.n.z),(i t1.1.b),(b true)] s.eh4),(s.w7+1),(app s.eh5 [[(i t1.1.n.x),(i t1.1.n.y),(i t1.1.n.z),(i t1.1.b)]])⟩) (sl (okE tV p.d9) (sl (H8 (rt tV p.d9) t2) (sl (!t3) (sl (Nat.beq (s.w7+1) (len (app s.eh5 [[(i t1.1.n.x),(i t1.1.n.y),(i t1.1.n.z),(i t1.1.b)]]))&&Nat.ble (((s.w7+1)+1)*32) room) (k ⟨1,(W (s.B4+1)),(T9 [(0,(.int .i64)),(1,(.int .i64)),(2,(.int .i64)),(3,(.int .i64))] [(i t2.n.x),(i t2.n.y),(i t2.n.z),(i t2.b)] [(i t2.n.x),(i t2.n.y),(i t2.n.z),(i t2.b),(b true)] (T9 [(0,(.int .i64)),(1,(.int .i64)),(2,(.int .i64)),(3,(.int .i64))] [(i t1.1.n.x),(i t1.1.n.y),(i t1.1.n.z),(i t1.1.b)] [(i t1.1.n.x),(i t1.1.n.y),(i t1.1.n.z),(i t1.1.b),(b true)] s.eh4)),((s.w7+1)+1),(app (app s.eh5 [[(i t1.1.n.x),(i t1.1.n.y),(i t1.1.n.z),(i t1.1.b)]]) [[(i t2.n.x),(i t2.n.y),(i t2.n.z),(i t2.b)]])⟩) z) (k ⟨1,(W (s.B4+1)),(T9 [(0,(.int .i64)),(1,(.int .i64)),(2,(.int .i64)),(3,(.int .i64))] [(i t2.n.x),(i t2.n.y),(i t2.n.z),(i t2.b)] [(i t2.n.x),(i t2.n.y),(i t2.n.z),(i t2.b),(b true)] (T9 [(0,(.int .i64)),(1,(.int .i64)),(2,(.int .i64)),(3,(.int .i64))] [(i t1.1.n.x),(i t1.1.n.y),(i t1.1.n.z),(i t1.1.b)] [(i t1.1.n.x),(i t1.1.n.y),(i t1.1.n.z),(i t1.1.b),(b true)] s.eh4)),(s.w7+1),(app s.eh5 [[(i t1.1.n.x),(i t1.1.n.y),(i t1.1.n.z),(i t1.1.b)]])⟩)) z) z)) z) (sl (Aa0 4 [(0,(.int .i64)),(1,(.int .i64)),(2,(.int .i64)),(3,(.int .i64))] [(i t2.n.x),(i t2.n.y),(i t2.n.z),(i t2.b)] (T9 [(0,(.int .i64)),(1,(.int .i64)),(2,(.int .i64)),(3,(.int .i64))] [(i t1.1.n.x),(i t1.1.n.y),(i t1.1.n.z),(i t1.1.b)] [(i t1.1.n.x),(i t1.1.n.y),(i t1.1.n.z),(i t1.1.b),(b true)] s.eh4)) (k ⟨1,(W (s.B4+1)),(T9 [(0,(.int .i64)),(1,(.int .i64)),(2,(.int .i64)),(3,(.int .i64))] [(i t1.1.n.x),(i t1.1.n.y),(i t1.1.n.z),(i t1.1.b)] [(i t1.1.n.x),(i t1.1.n.y),(i t1.1.n.z),(i t1.1.b),(b true)] s.eh4),s.w7,s.eh5⟩) (sl (okE tV p.d9) (sl (H8 (rt tV p.d9) t2) (sl (!t3) (sl a0 (k ⟨1,(W (s.B4+1)),(T9 [(0,(.int .i64)),(1,(.int .i64)),(2,(.int .i64)),(3,(.int .i64))] [(i t2.n.x),(i t2.n.y),(i t2.n.z),(i t2.b)] [(i t2.n.x),(i t2.n.y),(i t2.n.z),(i t2.b),(b true)] (T9 [(0,(.int .i64)),(1,(.int .i64)),(2,(.int .i64)),(3,(.int .i64))] [(i t1.1.n.x),(i t1.1.n.y),(i t1.1.n.z),(i t1.1.b)] [(i t1.1.n.x),(i t1.1.n.y),(i t1.1.n.z),(i t1.1.b),(b true)] s.eh4)),(s.w7+1),(app s.eh5 [[(i t2.n.x),(i t2.n.y),(i t2.n.z),(i t2.b)]])⟩) z) (k ⟨1,(W (s.B4+1)),(T9 [(0,(.int .i64)),(1,(.int .i64)),(2,(.int .i64)),(3,(.int .i64))] [(i t2.n.x),(i t2.n.y),(i t2.n.z),(i t2.b)] [(i t2.n.x),(i t2.n.y),(i t2.n.z),(i t2.b),(b true)] (T9 [(0,(.int .i64)),(1,(.int .i64)),(2,(.int .i64)),(3,(.int .i64))] [(i t1.1.n.x),(i t1.1.n.y),(i t1.1.n.z),(i t1.1.b)] [(i t1.1.n.x),(i t1.1.n.y),(i t1.1.n.z),(i t1.1.b),(b true)] s.eh4)),s.w7,s.eh5⟩)) z) z))) z) z)) (k ⟨1,(W (s.B4+1)),s.eh4,s.w7,s.eh5⟩)) (sl t1.2 z (k ⟨1,(W (s.B4+1)),s.eh4,s.w7,s.eh5⟩))) z) z) z) z) (e 2))
noncomputable def O9 (p:O0) (s:A8):Stp A8:=(sel (Nat.beq s.ph 1) (S5 .next .exit .fail p s) (S4 .next .exit .fail p s))
noncomputable def Xa5:Lo O0 A8:=⟨En Ja8,0,qe6,[1,1,1,1,1,0,1,4,4,1,4,4,1,1,0,4,1,1,4,4,1,1,0,4,1,1,4,4],[1,3,4,9,10,16,17,23,24,60,62,63,64,66,67],.p,[⟨((.s (.o .unk))::((.s (.o (.ptr 0 0 0 0)))::((.s (.o .unk))::((.s (.o (.int .i64)))::((.s (.o (.int .i64)))::(ru2 4 ((.s (.o (.int .i64)))::((.s (.o (.int .i64)))::(ru2 5 ((.s (.o (.int .i64)))::((.s (.o (.int .i64)))::(ru2 5 ((.s (.o (.int .i64)))::((.s (.o (.int .i64)))::(ru2 35 ((.s (.o (.lit .i64 0)))::((.s (.o .unk))::((.s (.o (.ptr 1 0 0 0)))::((.s (.o .nil))::((.s (.o (.lit .i64 0)))::((.s (.o .unk))::((.s (.o (.ptr 2 0 0 0)))::((.s (.o (.ptr 3 0 0 0)))::(ru2 28 [])))))))))))))))))))))))),[⟨0,1,true,(some [[(.c 3 (nL tV))]])⟩,⟨0,1,true,(some [[(.c 3 (nL tV))]])⟩,⟨0,0,true,(some [[(.o (.ptr 4 0 0 0))]])⟩,⟨0,0,true,(some [[(.o .nil)]])⟩,⟨143,0,true,none⟩],fun a H=>(⟨(toI (slT a 3)),(toI (slT a 4)),(toI (slT a 9)),(toI (slT a 10)),(toI (slT a 16)),(toI (slT a 17)),(toI (slT a 23)),(rL tV (slT (rwT (elT H 0) 0) 0)),(rL tV (slT (rwT (elT H 1) 0) 0))⟩,⟨0,(toI (slT a 24)),(elT H 4),0,[]⟩)⟩,⟨((.s (.o .unk))::((.s (.o (.ptr 0 0 0 0)))::((.s (.o .unk))::((.s (.o (.int .i64)))::((.s (.o (.int .i64)))::(ru2 4 ((.s (.o (.int .i64)))::((.s (.o (.int .i64)))::(ru2 5 ((.s (.o (.int .i64)))::((.s (.o (.int .i64)))::(ru2 5 ((.s (.o (.int .i64)))::((.s (.o (.int .i64)))::(ru2 35 ((.s (.o (.lit .i64 0)))::((.s (.o .unk))::((.s (.o (.ptr 1 0 0 0)))::((.s (.o .nil))::((.s (.o (.lit .i64 0)))::((.s (.o .unk))::((.s (.o (.ptr 2 0 0 0)))::((.s (.o (.ptr 3 0 0 0)))::(ru2 28 [])))))))))))))))))))))))),[⟨0,1,true,(some [[(.c 3 (nL tV))]])⟩,⟨0,1,true,(some [[(.c 3 (nL tV))]])⟩,⟨0,0,true,(some [[(.o (.ptr 4 0 0 0))]])⟩,⟨0,0,true,(some [[(.o (.sl 5 0 (some 0) none))]])⟩,⟨143,0,true,none⟩,⟨73,4,true,none⟩],fun a H=>(⟨(toI (slT a 3)),(toI (slT a 4)),(toI (slT a 9)),(toI (slT a 10)),(toI (slT a 16)),(toI (slT a 17)),(toI (slT a 23)),(rL tV (slT (rwT (elT H 0) 0) 0)),(rL tV (slT (rwT (elT H 1) 0) 0))⟩,⟨1,(toI (slT a 24)),(elT H 4),(slN (slT (rwT (elT H 3) 0) 0)),(elT H 5)⟩)⟩],O9,[(some 4,fun p s=>⟨(.unk::((.ptr 0 0 0 0)::(.unk::((i p.is3)::((i p.is4)::(ra 4 ((i p.is9)::((i p.r8)::(ra 5 ((i p.T4)::((i p.n9)::(ra 5 ((i p.xa1)::((i s.B4)::((b (decide (s.B4 < p.xa1)))::(ra 34 ((i 0)::(.unk::((.ptr 1 0 0 0)::((.v (.slice none 0 0))::((i 0)::(.unk::((.ptr 2 0 0 0)::((.ptr 3 0 0 0)::(ra 28 []))))))))))))))))))))))))),[⟨0,1,[[(eL tV p.b8)]],true,false,0⟩,⟨0,1,[[(eL tV p.d9)]],true,false,0⟩,⟨0,0,[[(.ptr 4 0 0 0)]],true,false,0⟩,⟨0,0,[[(.v (.slice none 0 0))]],true,false,0⟩,⟨143,0,s.eh4,true,false,0⟩]⟩),(some 4,fun p s=>⟨(.unk::((.ptr 0 0 0 0)::(.unk::((i p.is3)::((i p.is4)::(ra 4 ((i p.is9)::((i p.r8)::(ra 5 ((i p.T4)::((i p.n9)::(ra 5 ((i p.xa1)::((i s.B4)::((b (decide (s.B4 < p.xa1)))::(ra 34 ((i 0)::(.unk::((.ptr 1 0 0 0)::((.v (.slice none 0 0))::((i 0)::(.unk::((.ptr 2 0 0 0)::((.ptr 3 0 0 0)::(ra 28 []))))))))))))))))))))))))),[⟨0,1,[[(eL tV p.b8)]],true,false,0⟩,⟨0,1,[[(eL tV p.d9)]],true,false,0⟩,⟨0,0,[[(.ptr 4 0 0 0)]],true,false,0⟩,⟨0,0,[[(.sl 5 0 s.w7 0)]],true,false,0⟩,⟨143,0,s.eh4,true,false,0⟩,⟨73,4,s.eh5,true,false,0⟩]⟩)],mc9⟩
theorem nc0:Xa5.OkM:=Lo.okM [] (by kernel_rfl) .nil rfl (.cons (fun a H=>by kernel_rfl) (.cons (fun a H=>by kernel_rfl) .nil)) fun p s=>(.sel (Nat.beq s.ph 1) (.of @S5 (fun F _ _ _ _ _=>by unfold S5;(repeat' apply n7 (f:=F))<;>rfl) (by kernel_rfl)) (.of @S4 (fun F _ _ _ _ _=>by unfold S4;(repeat' apply n7 (f:=F))<;>rfl) (by kernel_rfl)))
structure O1 where
 is3:Int
 is9:Int
 r8:Int
 T4:Int
structure y7 where
 ph:Nat
 n9:Int
 b8:List V3
 d9:List V3
 eh4:List (List b7)
 w7:Nat
 eh5:List (List b7)
noncomputable def bc8 (p:O1) (s:y7):St:=⟨(.unk::((.ptr 0 0 0 0)::(.unk::((i p.is3)::(ra 5 ((i p.is9)::((i p.r8)::(ra 5 ((i p.T4)::((i s.n9)::(ra 42 ((i 0)::(.unk::((.ptr 1 0 0 0)::((.v (.slice none 0 0))::((i 0)::(.unk::((.ptr 2 0 0 0)::((.ptr 3 0 0 0)::(ra 28 [])))))))))))))))))))),[⟨0,1,[[(eL tV s.b8)]],true,false,0⟩,⟨0,1,[[(eL tV s.d9)]],true,false,0⟩,⟨0,0,[[(.ptr 4 0 0 0)]],true,false,0⟩,⟨0,0,[[(.v (.slice none 0 0))]],true,false,0⟩,⟨143,0,s.eh4,true,false,0⟩]⟩
noncomputable def bc9 (p:O1) (s:y7):St:=⟨(.unk::((.ptr 0 0 0 0)::(.unk::((i p.is3)::(ra 5 ((i p.is9)::((i p.r8)::(ra 5 ((i p.T4)::((i s.n9)::(ra 42 ((i 0)::(.unk::((.ptr 1 0 0 0)::((.v (.slice none 0 0))::((i 0)::(.unk::((.ptr 2 0 0 0)::((.ptr 3 0 0 0)::(ra 28 [])))))))))))))))))))),[⟨0,1,[[(eL tV s.b8)]],true,false,0⟩,⟨0,1,[[(eL tV s.d9)]],true,false,0⟩,⟨0,0,[[(.ptr 4 0 0 0)]],true,false,0⟩,⟨0,0,[[(.sl 5 0 s.w7 0)]],true,false,0⟩,⟨143,0,s.eh4,true,false,0⟩,⟨73,4,s.eh5,true,false,0⟩]⟩
noncomputable def nc1 (p:O1) (s:y7):St:=(sel (Nat.beq s.ph 1) (bc9 p s) (bc8 p s))
noncomputable def S6 {α:Type} (k:y7→α) (e:Nat→α) (z:α) (p:O1) (s:y7):α:=let t1:=(lp (O9 (⟨p.is3,s.n9,p.is9,p.r8,p.T4,s.n9,(↑(s.n9.toNat - 0):Int),(rt tV s.b8),(rt tV s.d9)⟩:O0)) (⟨0,0,s.eh4,0,[]⟩:A8));(sl (decide (s.n9 < p.T4)) (sl (inB s.n9 ((List.length s.b8)+1)) (sl ((cnE tV s.b8)&&((cnE tV s.d9)&&true)) (sl (Nat.beq t1.1 1) (k ⟨0,(W (s.n9+1)),(rt tV s.b8),(rt tV s.d9),t1.2.eh4,0,[]⟩) (sl (Nat.beq t1.1 2) (k ⟨1,(W (s.n9+1)),(rt tV s.b8),(rt tV s.d9),t1.2.eh4,t1.2.w7,t1.2.eh5⟩) z)) z) z) (e 1))
noncomputable def S7 {α:Type} (k:y7→α) (e:Nat→α) (z:α) (p:O1) (s:y7):α:=let t1:=(lp (O9 (⟨p.is3,s.n9,p.is9,p.r8,p.T4,s.n9,(↑(s.n9.toNat - 0):Int),(rt tV s.b8),(rt tV s.d9)⟩:O0)) (⟨1,0,s.eh4,s.w7,s.eh5⟩:A8));(sl (decide (s.n9 < p.T4)) (sl (inB s.n9 ((List.length s.b8)+1)) (sl ((cnE tV s.b8)&&((cnE tV s.d9)&&true)) (sl (Nat.beq t1.1 1) (k ⟨0,(W (s.n9+1)),(rt tV s.b8),(rt tV s.d9),t1.2.eh4,0,[]⟩) (sl (Nat.beq t1.1 2) (k ⟨1,(W (s.n9+1)),(rt tV s.b8),(rt tV s.d9),t1.2.eh4,t1.2.w7,t1.2.eh5⟩) z)) z) z) (e 2))
noncomputable def Y4 (p:O1) (s:y7):Stp y7:=(sel (Nat.beq s.ph 1) (S7 .next .exit .fail p s) (S6 .next .exit .fail p s))
noncomputable def Xa6:Lo O1 y7:=⟨En Ja8,0,qe6,[1,1,1,1,1,0,1,4,4,1,4,4,1,1,0,4,1,1,4,4],[1,3,9,10,16,17,60,62,63,64,66,67],(.s .p (.s .p (.s (.b (.s .p (.s .p (.b (.u Xa5.lsM))))) .p))),[⟨((.s (.o .unk))::((.s (.o (.ptr 0 0 0 0)))::((.s (.o .unk))::((.s (.o (.int .i64)))::(ru2 5 ((.s (.o (.int .i64)))::((.s (.o (.int .i64)))::(ru2 5 ((.s (.o (.int .i64)))::((.s (.o (.int .i64)))::(ru2 42 ((.s (.o (.lit .i64 0)))::((.s (.o .unk))::((.s (.o (.ptr 1 0 0 0)))::((.s (.o .nil))::((.s (.o (.lit .i64 0)))::((.s (.o .unk))::((.s (.o (.ptr 2 0 0 0)))::((.s (.o (.ptr 3 0 0 0)))::(ru2 28 [])))))))))))))))))))),[⟨0,1,true,(some [[(.c 3 (nL tV))]])⟩,⟨0,1,true,(some [[(.c 3 (nL tV))]])⟩,⟨0,0,true,(some [[(.o (.ptr 4 0 0 0))]])⟩,⟨0,0,true,(some [[(.o .nil)]])⟩,⟨143,0,true,none⟩],fun a H=>(⟨(toI (slT a 3)),(toI (slT a 9)),(toI (slT a 10)),(toI (slT a 16))⟩,⟨0,(toI (slT a 17)),(rL tV (slT (rwT (elT H 0) 0) 0)),(rL tV (slT (rwT (elT H 1) 0) 0)),(elT H 4),0,[]⟩)⟩,⟨((.s (.o .unk))::((.s (.o (.ptr 0 0 0 0)))::((.s (.o .unk))::((.s (.o (.int .i64)))::(ru2 5 ((.s (.o (.int .i64)))::((.s (.o (.int .i64)))::(ru2 5 ((.s (.o (.int .i64)))::((.s (.o (.int .i64)))::(ru2 42 ((.s (.o (.lit .i64 0)))::((.s (.o .unk))::((.s (.o (.ptr 1 0 0 0)))::((.s (.o .nil))::((.s (.o (.lit .i64 0)))::((.s (.o .unk))::((.s (.o (.ptr 2 0 0 0)))::((.s (.o (.ptr 3 0 0 0)))::(ru2 28 [])))))))))))))))))))),[⟨0,1,true,(some [[(.c 3 (nL tV))]])⟩,⟨0,1,true,(some [[(.c 3 (nL tV))]])⟩,⟨0,0,true,(some [[(.o (.ptr 4 0 0 0))]])⟩,⟨0,0,true,(some [[(.o (.sl 5 0 (some 0) none))]])⟩,⟨143,0,true,none⟩,⟨73,4,true,none⟩],fun a H=>(⟨(toI (slT a 3)),(toI (slT a 9)),(toI (slT a 10)),(toI (slT a 16))⟩,⟨1,(toI (slT a 17)),(rL tV (slT (rwT (elT H 0) 0) 0)),(rL tV (slT (rwT (elT H 1) 0) 0)),(elT H 4),(slN (slT (rwT (elT H 3) 0) 0)),(elT H 5)⟩)⟩],Y4,[(some 2,fun p s=>⟨(.unk::((.ptr 0 0 0 0)::(.unk::((i p.is3)::(ra 5 ((i p.is9)::((i p.r8)::(ra 5 ((i p.T4)::((i s.n9)::((b (decide (s.n9 < p.T4)))::(ra 41 ((i 0)::(.unk::((.ptr 1 0 0 0)::((.v (.slice none 0 0))::((i 0)::(.unk::((.ptr 2 0 0 0)::((.ptr 3 0 0 0)::(ra 28 []))))))))))))))))))))),[⟨0,1,[[(eL tV s.b8)]],true,false,0⟩,⟨0,1,[[(eL tV s.d9)]],true,false,0⟩,⟨0,0,[[(.ptr 4 0 0 0)]],true,false,0⟩,⟨0,0,[[(.v (.slice none 0 0))]],true,false,0⟩,⟨143,0,s.eh4,true,false,0⟩]⟩),(some 2,fun p s=>⟨(.unk::((.ptr 0 0 0 0)::(.unk::((i p.is3)::(ra 5 ((i p.is9)::((i p.r8)::(ra 5 ((i p.T4)::((i s.n9)::((b (decide (s.n9 < p.T4)))::(ra 41 ((i 0)::(.unk::((.ptr 1 0 0 0)::((.v (.slice none 0 0))::((i 0)::(.unk::((.ptr 2 0 0 0)::((.ptr 3 0 0 0)::(ra 28 []))))))))))))))))))))),[⟨0,1,[[(eL tV s.b8)]],true,false,0⟩,⟨0,1,[[(eL tV s.d9)]],true,false,0⟩,⟨0,0,[[(.ptr 4 0 0 0)]],true,false,0⟩,⟨0,0,[[(.sl 5 0 s.w7 0)]],true,false,0⟩,⟨143,0,s.eh4,true,false,0⟩,⟨73,4,s.eh5,true,false,0⟩]⟩)],nc1⟩
theorem nc2:Xa6.OkM:=Lo.okM [Xa5.prM] (by kernel_rfl) (.cons nc0 .nil) rfl (.cons (fun a H=>by kernel_rfl) (.cons (fun a H=>by kernel_rfl) .nil)) fun p s=>(.sel (Nat.beq s.ph 1) (.of @S7 (fun F _ _ _ _ _=>by unfold S7;(repeat' apply n7 (f:=F))<;>rfl) (by kernel_rfl)) (.of @S6 (fun F _ _ _ _ _=>by unfold S6;(repeat' apply n7 (f:=F))<;>rfl) (by kernel_rfl)))
structure U6 where
 is9:Int
structure A9 where
 ph:Nat
 r8:Int
 b8:List V3
 d9:List V3
 eh4:List (List b7)
 w7:Nat
 eh5:List (List b7)
noncomputable def cc2 (p:U6) (s:A9):St:=⟨(.unk::((.ptr 0 0 0 0)::(ra 7 ((i p.is9)::((i s.r8)::(ra 49 ((i 0)::(.unk::((.ptr 1 0 0 0)::((.v (.slice none 0 0))::((i 0)::(.unk::((.ptr 2 0 0 0)::((.ptr 3 0 0 0)::(ra 28 []))))))))))))))),[⟨0,1,[[(eL tV s.b8)]],true,false,0⟩,⟨0,1,[[(eL tV s.d9)]],true,false,0⟩,⟨0,0,[[(.ptr 4 0 0 0)]],true,false,0⟩,⟨0,0,[[(.v (.slice none 0 0))]],true,false,0⟩,⟨143,0,s.eh4,true,false,0⟩]⟩
noncomputable def cc3 (p:U6) (s:A9):St:=⟨(.unk::((.ptr 0 0 0 0)::(ra 7 ((i p.is9)::((i s.r8)::(ra 49 ((i 0)::(.unk::((.ptr 1 0 0 0)::((.v (.slice none 0 0))::((i 0)::(.unk::((.ptr 2 0 0 0)::((.ptr 3 0 0 0)::(ra 28 []))))))))))))))),[⟨0,1,[[(eL tV s.b8)]],true,false,0⟩,⟨0,1,[[(eL tV s.d9)]],true,false,0⟩,⟨0,0,[[(.ptr 4 0 0 0)]],true,false,0⟩,⟨0,0,[[(.sl 5 0 s.w7 0)]],true,false,0⟩,⟨143,0,s.eh4,true,false,0⟩,⟨73,4,s.eh5,true,false,0⟩]⟩
noncomputable def nc3 (p:U6) (s:A9):St:=(sel (Nat.beq s.ph 1) (cc3 p s) (cc2 p s))
noncomputable def S8 {α:Type} (k:A9→α) (e:Nat→α) (z:α) (p:U6) (s:A9):α:=let t1:=(lp (Y4 (⟨s.r8,p.is9,s.r8,(↑(s.r8.toNat - 0):Int)⟩:O1)) (⟨0,0,(rt tV s.b8),(rt tV s.d9),s.eh4,0,[]⟩:y7));(sl (decide (s.r8 < p.is9)) (sl (inB s.r8 ((List.length s.b8)+1)) (sl ((cnE tV s.b8)&&((cnE tV s.d9)&&true)) (sl (Nat.beq t1.1 1) (k ⟨0,(W (s.r8+1)),t1.2.b8,t1.2.d9,t1.2.eh4,0,[]⟩) (sl (Nat.beq t1.1 2) (k ⟨1,(W (s.r8+1)),t1.2.b8,t1.2.d9,t1.2.eh4,t1.2.w7,t1.2.eh5⟩) z)) z) z) (e 1))
noncomputable def S9 {α:Type} (k:A9→α) (e:Nat→α) (z:α) (p:U6) (s:A9):α:=let t1:=(lp (Y4 (⟨s.r8,p.is9,s.r8,(↑(s.r8.toNat - 0):Int)⟩:O1)) (⟨1,0,(rt tV s.b8),(rt tV s.d9),s.eh4,s.w7,s.eh5⟩:y7));(sl (decide (s.r8 < p.is9)) (sl (inB s.r8 ((List.length s.b8)+1)) (sl ((cnE tV s.b8)&&((cnE tV s.d9)&&true)) (sl (Nat.beq t1.1 1) (k ⟨0,(W (s.r8+1)),t1.2.b8,t1.2.d9,t1.2.eh4,0,[]⟩) (sl (Nat.beq t1.1 2) (k ⟨1,(W (s.r8+1)),t1.2.b8,t1.2.d9,t1.2.eh4,t1.2.w7,t1.2.eh5⟩) z)) z) z) (e 2))
noncomputable def ya2 (p:U6) (s:A9):Stp A9:=(sel (Nat.beq s.ph 1) (S9 .next .exit .fail p s) (S8 .next .exit .fail p s))
noncomputable def Xa7:Lo U6 A9:=⟨En Ja8,0,qe6,[1,1,1,1,1,0,1,4,4,1,4,4],[1,9,10,60,62,63,64,66,67],(.s .p (.s .p (.s (.b (.s .p (.s .p (.b (.u Xa6.lsM))))) .p))),[⟨((.s (.o .unk))::((.s (.o (.ptr 0 0 0 0)))::(ru2 7 ((.s (.o (.int .i64)))::((.s (.o (.int .i64)))::(ru2 49 ((.s (.o (.lit .i64 0)))::((.s (.o .unk))::((.s (.o (.ptr 1 0 0 0)))::((.s (.o .nil))::((.s (.o (.lit .i64 0)))::((.s (.o .unk))::((.s (.o (.ptr 2 0 0 0)))::((.s (.o (.ptr 3 0 0 0)))::(ru2 28 []))))))))))))))),[⟨0,1,true,(some [[(.c 3 (nL tV))]])⟩,⟨0,1,true,(some [[(.c 3 (nL tV))]])⟩,⟨0,0,true,(some [[(.o (.ptr 4 0 0 0))]])⟩,⟨0,0,true,(some [[(.o .nil)]])⟩,⟨143,0,true,none⟩],fun a H=>(⟨(toI (slT a 9))⟩,⟨0,(toI (slT a 10)),(rL tV (slT (rwT (elT H 0) 0) 0)),(rL tV (slT (rwT (elT H 1) 0) 0)),(elT H 4),0,[]⟩)⟩,⟨((.s (.o .unk))::((.s (.o (.ptr 0 0 0 0)))::(ru2 7 ((.s (.o (.int .i64)))::((.s (.o (.int .i64)))::(ru2 49 ((.s (.o (.lit .i64 0)))::((.s (.o .unk))::((.s (.o (.ptr 1 0 0 0)))::((.s (.o .nil))::((.s (.o (.lit .i64 0)))::((.s (.o .unk))::((.s (.o (.ptr 2 0 0 0)))::((.s (.o (.ptr 3 0 0 0)))::(ru2 28 []))))))))))))))),[⟨0,1,true,(some [[(.c 3 (nL tV))]])⟩,⟨0,1,true,(some [[(.c 3 (nL tV))]])⟩,⟨0,0,true,(some [[(.o (.ptr 4 0 0 0))]])⟩,⟨0,0,true,(some [[(.o (.sl 5 0 (some 0) none))]])⟩,⟨143,0,true,none⟩,⟨73,4,true,none⟩],fun a H=>(⟨(toI (slT a 9))⟩,⟨1,(toI (slT a 10)),(rL tV (slT (rwT (elT H 0) 0) 0)),(rL tV (slT (rwT (elT H 1) 0) 0)),(elT H 4),(slN (slT (rwT (elT H 3) 0) 0)),(elT H 5)⟩)⟩],ya2,[(some 0,fun p s=>⟨(.unk::((.ptr 0 0 0 0)::(ra 7 ((i p.is9)::((i s.r8)::((b (decide (s.r8 < p.is9)))::(ra 48 ((i 0)::(.unk::((.ptr 1 0 0 0)::((.v (.slice none 0 0))::((i 0)::(.unk::((.ptr 2 0 0 0)::((.ptr 3 0 0 0)::(ra 28 [])))))))))))))))),[⟨0,1,[[(eL tV s.b8)]],true,false,0⟩,⟨0,1,[[(eL tV s.d9)]],true,false,0⟩,⟨0,0,[[(.ptr 4 0 0 0)]],true,false,0⟩,⟨0,0,[[(.v (.slice none 0 0))]],true,false,0⟩,⟨143,0,s.eh4,true,false,0⟩]⟩),(some 0,fun p s=>⟨(.unk::((.ptr 0 0 0 0)::(ra 7 ((i p.is9)::((i s.r8)::((b (decide (s.r8 < p.is9)))::(ra 48 ((i 0)::(.unk::((.ptr 1 0 0 0)::((.v (.slice none 0 0))::((i 0)::(.unk::((.ptr 2 0 0 0)::((.ptr 3 0 0 0)::(ra 28 [])))))))))))))))),[⟨0,1,[[(eL tV s.b8)]],true,false,0⟩,⟨0,1,[[(eL tV s.d9)]],true,false,0⟩,⟨0,0,[[(.ptr 4 0 0 0)]],true,false,0⟩,⟨0,0,[[(.sl 5 0 s.w7 0)]],true,false,0⟩,⟨143,0,s.eh4,true,false,0⟩,⟨73,4,s.eh5,true,false,0⟩]⟩)],nc3⟩
theorem nc4:Xa7.OkM:=Lo.okM [Xa6.prM] (by kernel_rfl) (.cons nc2 .nil) rfl (.cons (fun a H=>by kernel_rfl) (.cons (fun a H=>by kernel_rfl) .nil)) fun p s=>(.sel (Nat.beq s.ph 1) (.of @S9 (fun F _ _ _ _ _=>by unfold S9;(repeat' apply n7 (f:=F))<;>rfl) (by kernel_rfl)) (.of @S8 (fun F _ _ _ _ _=>by unfold S8;(repeat' apply n7 (f:=F))<;>rfl) (by kernel_rfl)))
noncomputable def ka7 (x:V3×List V3):Option (b7×List b9):=let t1:=(Da4 (rt tV (x.1::x.2)));let t2:=(Na7 (hC tV (fun k=>(tV).row (gL tV (x.1::x.2) k)),tC tV (List.length x.2) (fun k=>(tV).row (gL tV (x.1::x.2) k))));let t3:=(lp (ya2 (⟨(↑(List.length t2):Int)⟩:U6)) (⟨0,0,(rt tV t2),(rt tV t2),[],0,[]⟩:A9));(sl (okE tV (x.1::x.2)) (sl (Da5 (rt tV (x.1::x.2))) (sl (t1 != 0) (some ((.tup [(.v (.slice none 0 0)),(i t1)]),[])) (sl (okL tV (List.length x.2+1) (fun k=>(tV).row (gL tV (x.1::x.2) k))) (sl (Na8 (hC tV (fun k=>(tV).row (gL tV (x.1::x.2) k)),tC tV (List.length x.2) (fun k=>(tV).row (gL tV (x.1::x.2) k)))) (sl ((cnE tV t2)&&((cnE tV t2)&&true)) (sl (Nat.beq t3.1 1) none (sl (Nat.beq t3.1 2) (sl (Bool.and (Nat.ble t3.2.w7 room) (Bool.and (Nat.ble t3.2.w7 (len t3.2.eh5)) (okS tP t3.2.eh5 0 t3.2.w7))) (some ((.tup [(.sl 0 0 t3.2.w7 0),(i 0)]),[⟨73,4,(app (bL tP (Fb9 (slR tP t3.2.eh5 0 t3.2.w7))) (f9 t3.2.eh5 t3.2.w7)),true,false,0⟩])) none) none)) none) none) none)) none) none)
noncomputable def Ra7 (x:V3×List V3):List Pln×Int:=Y8 (two (r1L tP) r1I) (ka7 x)
noncomputable def Ra8 (x:V3×List V3):Bool:=okO (two (r1L tP) r1I) (ka7 x)
noncomputable def Sb5:Sum:=Y7 (jd3 tV) (fun x=>.guard (Ra8 x) (.ret ((two (r1L tP) r1I).enc (Ra7 x),[])))
theorem Gb6:g8 prog G 64 Sb5:=Ua5 (bd b64 Bc2) (two (r1L tP) r1I) (o:=ka7) fun x=>md1 (.s .p (.s .p (.s .p (.s .p (.s .p (.s (.s .p (.b (.i (.s .p (.b (.u Xa7.lsM)))))) .p)))))) [Xa7.prM] (by kernel_rfl) (.cons nc4 .nil) (by kernel_rfl)
end Go.Ev.Ce
end
section
namespace Go.Ev.Ce
open Go Go.Ev Go.Ev.L Go.Proofs
set_option maxRecDepth 100000
structure ya3 where
 da0:Int
 da1:Int
 da2:Int
 Ib5:Int
 c9:Int
 c7:Int
 d7:Int
noncomputable def cc4:List (Nat×Sum):=[(83,La5)]
theorem Sb6:j7 prog G cc4:=⟨Qa4,trivial⟩
structure ya4 where
 bs0:Bool
noncomputable def ea7 {α:Type} (kk:ya4→α) (x:ya3):α:=let t1:=(z8 (⟨x.c9,x.c7,x.d7⟩:V3) (⟨x.da0,x.da1,x.da2⟩:V3));(kk ⟨(t1 != 0)⟩)
noncomputable def Na9 (x:ya3):ya4:=ea7 (fun r=>r) x
noncomputable def Ha6 (x:ya3) (r:ya4):DT (b7×List b9):=.ret ((b r.bs0),[⟨0,3,[[(i x.c9),(i x.c7),(i x.d7)]],true,false,0⟩])
theorem nc5 {α β:Type} (F:α→β) (kk:ya4→α) (x:ya3):F (ea7 kk x)=ea7 (fun r=>F (kk r)) x:=by unfold ea7;(repeat' apply n7 (f:=F))<;>rfl
noncomputable def pb9:Sum:=Ua6 ⟨[(.agg [(.o (.int .i64)),(.o (.int .i64)),(.o (.int .i64)),(.o (.int .i64))]),(.s (.o (.ptr 0 0 0 0)))],[⟨0,3,true,(some [[(.o (.int .i64)),(.o (.int .i64)),(.o (.int .i64))]])⟩],fun a H=>(⟨(toI (slT (cellsOf (slT a 0)) 0)),(toI (slT (cellsOf (slT a 0)) 1)),(toI (slT (cellsOf (slT a 0)) 2)),(toI (slT (cellsOf (slT a 0)) 3)),(toI (slT (rwT (elT H 0) 0) 0)),(toI (slT (rwT (elT H 0) 0) 1)),(toI (slT (rwT (elT H 0) 0) 2))⟩,())⟩ (fun x=>Ha6 x (Na9 x))
theorem cc5:g8 prog G 143 pb9:=P8 (enc:=fun x=>⟨[(.agg [(i x.da0),(i x.da1),(i x.da2),(i x.Ib5)]),(.ptr 0 0 0 0)],[⟨0,3,[[(i x.c9),(i x.c7),(i x.d7)]],true,false,0⟩]⟩) (fun a H=>by kernel_rfl) (bd Ze8 Sb6) fun x=>A4 (Eq.trans (b:=ea7 (fun r=>(Ha6 x r).run) x) (by kernel_rfl) (nc5 (fun r=>(Ha6 x r).run) (fun r=>r) x).symm)
structure P9 where
 n5:List Pln
 c9:Int
 c7:Int
 d7:Int
noncomputable def ra0:List (Nat×Sum):=[(143,pb9)]
theorem Ra9:j7 prog G ra0:=⟨cc5,trivial⟩
structure E2 where
 n5:List Pln
 is7:Int
 c9:Int
 c7:Int
 d7:Int
structure l7 where
 is8:Int
noncomputable def Oa0 (p:E2) (s:l7):St:=⟨((eL tP p.n5)::((.fn 143 [(.ptr 0 0 0 0)])::(ra 5 ((i p.is7)::((i s.is8)::(ra 10 [])))))),[⟨0,3,[[(i p.c9),(i p.c7),(i p.d7)]],true,false,0⟩]⟩
noncomputable def C0 {α:Type} (k:l7→α) (e:Nat→α) (z:α) (p:E2) (s:l7):α:=let t1:=(Na9 ⟨(gL tP p.n5 s.is8.toNat).n.x,(gL tP p.n5 s.is8.toNat).n.y,(gL tP p.n5 s.is8.toNat).n.z,(gL tP p.n5 s.is8.toNat).b,p.c9,p.c7,p.d7⟩);(sl (decide (s.is8 < p.is7)) (sl (inB s.is8 (List.length p.n5)) (sl t1.bs0 (e 1) (k ⟨(W (s.is8+1))⟩)) z) (e 2))
noncomputable def D1 (p:E2) (s:l7):Stp l7:=C0 .next .exit .fail p s
noncomputable def aa2:Lo E2 l7:=⟨En ra0,1,Yd8,[1,0,1,4,4],[0,1,7,8],.p,[⟨((.s (.c 4 (nL tP)))::((.fn 143 [(.o (.ptr 0 0 0 0))])::(ru2 5 ((.s (.o (.int .i64)))::((.s (.o (.int .i64)))::(ru2 10 [])))))),[⟨0,3,true,(some [[(.o (.int .i64)),(.o (.int .i64)),(.o (.int .i64))]])⟩],fun a H=>(⟨(rL tP (slT a 0)),(toI (slT a 7)),(toI (slT (rwT (elT H 0) 0) 0)),(toI (slT (rwT (elT H 0) 0) 1)),(toI (slT (rwT (elT H 0) 0) 2))⟩,⟨(toI (slT a 8))⟩)⟩],D1,[(none,fun p s=>⟨[(i s.is8)],[⟨0,3,[[(i p.c9),(i p.c7),(i p.d7)]],true,false,0⟩]⟩),(some 0,fun p s=>⟨((eL tP p.n5)::((.fn 143 [(.ptr 0 0 0 0)])::(ra 5 ((i p.is7)::((i s.is8)::((b (decide (s.is8 < p.is7)))::(ra 9 []))))))),[⟨0,3,[[(i p.c9),(i p.c7),(i p.d7)]],true,false,0⟩]⟩)],Oa0⟩
theorem Oa1:aa2.Ok:=Lo.ok [] (by kernel_rfl) .nil rfl (.cons (fun a H=>by kernel_rfl) .nil) fun p s=>(.of @C0 (fun F _ _ _ _ _=>by unfold C0;(repeat' apply n7 (f:=F))<;>rfl) (by kernel_rfl))
structure Q0 where
 alt:Nat
 is0:Int
noncomputable def C5 {α:Type} (kk:Q0→α) (x:P9):α:=let t1:=(lp (D1 (⟨(rt tP x.n5),(↑(List.length x.n5):Int),x.c9,x.c7,x.d7⟩:E2)) (⟨0⟩:l7));(sl ((cnE tP x.n5)&&true) (sl (Nat.beq t1.1 1) (kk ⟨1,t1.2.is8⟩) (sl (Nat.beq t1.1 2) (kk ⟨1,(-1)⟩) (kk ⟨0,0⟩))) (kk ⟨0,0⟩))
noncomputable def Q1 (x:P9):Q0:=C5 (fun r=>r) x
noncomputable def ca6 (x:P9) (r:Q0):DT (b7×List b9):=(.ite (Nat.beq r.alt 1) (.ret ((i r.is0),[⟨0,3,[[(i x.c9),(i x.c7),(i x.d7)]],true,false,0⟩])) .fail)
theorem ab4 {α β:Type} (F:α→β) (kk:Q0→α) (x:P9):F (C5 kk x)=C5 (fun r=>F (kk r)) x:=by unfold C5;(repeat' apply n7 (f:=F))<;>rfl
noncomputable def ta7:Sum:=Ua6 ⟨[(.s (.c 4 (nL tP))),(.fn 143 [(.o (.ptr 0 0 0 0))])],[⟨0,3,true,(some [[(.o (.int .i64)),(.o (.int .i64)),(.o (.int .i64))]])⟩],fun a H=>(⟨(rL tP (slT a 0)),(toI (slT (rwT (elT H 0) 0) 0)),(toI (slT (rwT (elT H 0) 0) 1)),(toI (slT (rwT (elT H 0) 0) 2))⟩,())⟩ (fun x=>ca6 x (Q1 x))
theorem Xa8:g8 prog G 139 ta7:=P8 (enc:=fun x=>⟨[(eL tP x.n5),(.fn 143 [(.ptr 0 0 0 0)])],[⟨0,3,[[(i x.c9),(i x.c7),(i x.d7)]],true,false,0⟩]⟩) (fun a H=>by kernel_rfl) (bd Re5 Ra9) fun x=>Qa3 (.s .p (.s (.s .p (.b (.u aa2.ls))) .p)) [aa2.pr] (by kernel_rfl) (.cons Oa1 .nil) (Eq.trans (b:=C5 (fun r=>(ca6 x r).run) x) (by kernel_rfl) (ab4 (fun r=>(ca6 x r).run) (fun r=>r) x).symm)
structure L0 where
 n5:List Pln
 c9:Int
 c7:Int
 d7:Int
noncomputable def La8:List (Nat×Sum):=[(139,ta7)]
theorem Ha7:j7 prog G La8:=⟨Xa8,trivial⟩
structure L1 where
 alt:Nat
 bs0:Bool
noncomputable def w9 {α:Type} (kk:L1→α) (x:L0):α:=let t1:=(Q1 ⟨(rt tP x.n5),x.c9,x.c7,x.d7⟩);(sl ((cnE tP x.n5)&&true) (sl (Nat.beq t1.alt 1) (kk ⟨1,(decide (t1.is0≥0))⟩) (kk ⟨0,false⟩)) (kk ⟨0,false⟩))
noncomputable def L2 (x:L0):L1:=w9 (fun r=>r) x
noncomputable def U7 (x:L0) (r:L1):DT (b7×List b9):=(.ite (Nat.beq r.alt 1) (.ret ((b r.bs0),[⟨0,3,[[(i x.c9),(i x.c7),(i x.d7)]],true,false,0⟩])) .fail)
theorem Oa2 {α β:Type} (F:α→β) (kk:L1→α) (x:L0):F (w9 kk x)=w9 (fun r=>F (kk r)) x:=by unfold w9;(repeat' apply n7 (f:=F))<;>rfl
noncomputable def ma0:Sum:=Ua6 ⟨[(.s (.c 4 (nL tP))),(.fn 143 [(.o (.ptr 0 0 0 0))])],[⟨0,3,true,(some [[(.o (.int .i64)),(.o (.int .i64)),(.o (.int .i64))]])⟩],fun a H=>(⟨(rL tP (slT a 0)),(toI (slT (rwT (elT H 0) 0) 0)),(toI (slT (rwT (elT H 0) 0) 1)),(toI (slT (rwT (elT H 0) 0) 2))⟩,())⟩ (fun x=>U7 x (L2 x))
theorem La9:g8 prog G 86 ma0:=P8 (enc:=fun x=>⟨[(eL tP x.n5),(.fn 143 [(.ptr 0 0 0 0)])],[⟨0,3,[[(i x.c9),(i x.c7),(i x.d7)]],true,false,0⟩]⟩) (fun a H=>by kernel_rfl) (bd b86 Ha7) fun x=>A4 (Eq.trans (b:=w9 (fun r=>(U7 x r).run) x) (by kernel_rfl) (Oa2 (fun r=>(U7 x r).run) (fun r=>r) x).symm)
noncomputable def Xa9:List (Nat×Sum):=[(142,eb1),(86,ma0)]
theorem nc6:j7 prog G Xa9:=⟨vb9,La9,trivial⟩
structure ma1 where
 n5:List Pln
 kb3:List Pln
 is9:Int
 r8:Int
 Le7:Nat
 Bd8:Nat→List b7
 ia0:Int
 c9:Int
 c7:Int
 d7:Int
 i9:Int
structure P0 where
 gc5:Int
noncomputable def cc6 (p:ma1) (s:P0):St:=⟨((eL tP p.n5)::(ra 3 ((.ptr 0 0 0 0)::(ra 3 ((eL tP p.kb3)::((i p.is9)::((i p.r8)::(ra 6 ((.tree 4 p.Le7 p.Bd8)::((i p.ia0)::((i s.gc5)::(ra 18 [])))))))))))),[⟨0,4,[[(i p.c9),(i p.c7),(i p.d7),(i p.i9)]],true,false,0⟩]⟩
noncomputable def fa8 {α:Type} (k:P0→α) (e:Nat→α) (z:α) (p:ma1) (s:P0):α:=let t1:=(aa6 (⟨p.c9,p.c7,p.d7⟩:V3) (⟨(toI (hdA (p.Bd8 s.gc5.toNat))),(toI (hdA (tlA (p.Bd8 s.gc5.toNat)))),(toI (hdA (tlA (tlA (p.Bd8 s.gc5.toNat)))))⟩:V3));let t2:=(L2 ⟨(rt tP p.n5),t1.x,t1.y,t1.z⟩);(sl (decide (s.gc5 < p.ia0)) (sl (inB s.gc5 p.Le7) (sl ((Nat.ble 4 (len (p.Bd8 s.gc5.toNat)))&&(ba7 [(CK.int .i64),(CK.int .i64),(CK.int .i64),(CK.int .i64)] (p.Bd8 s.gc5.toNat))) (sl (!((t1.x==0)&&((t1.y==0)&&((t1.z==0)&&true)))) (sl ((cnE tP p.n5)&&true) (sl (Nat.beq t2.alt 1) (sl t2.bs0 (e 1) (k ⟨(W (s.gc5+1))⟩)) z) z) (k ⟨(W (s.gc5+1))⟩)) z) z) (e 2))
noncomputable def ba1 (p:ma1) (s:P0):Stp P0:=fa8 .next .exit .fail p s
noncomputable def Oa3:Lo ma1 P0:=⟨En Xa9,0,Ge3,[1,0,1,4,4,1,1,0,4,1,1,4,4],[0,4,8,9,10,17,18,19],.p,[⟨((.s (.c 4 (nL tP)))::(ru2 3 ((.s (.o (.ptr 0 0 0 0)))::(ru2 3 ((.s (.c 4 (nL tP)))::((.s (.o (.int .i64)))::((.s (.o (.int .i64)))::(ru2 6 ((.s (.o (.tree 4)))::((.s (.o (.int .i64)))::((.s (.o (.int .i64)))::(ru2 18 [])))))))))))),[⟨0,4,true,(some [[(.o (.int .i64)),(.o (.int .i64)),(.o (.int .i64)),(.o (.int .i64))]])⟩],fun a H=>(⟨(rL tP (slT a 0)),(rL tP (slT a 8)),(toI (slT a 9)),(toI (slT a 10)),(toN (slT a 17)),(toG (slT a 17)),(toI (slT a 18)),(toI (slT (rwT (elT H 0) 0) 0)),(toI (slT (rwT (elT H 0) 0) 1)),(toI (slT (rwT (elT H 0) 0) 2)),(toI (slT (rwT (elT H 0) 0) 3))⟩,⟨(toI (slT a 19))⟩)⟩],ba1,[(none,fun p s=>⟨[(b true)],[]⟩),(some 2,fun p s=>⟨((eL tP p.n5)::(ra 3 ((.ptr 0 0 0 0)::(ra 3 ((eL tP p.kb3)::((i p.is9)::((i p.r8)::(ra 6 ((.tree 4 p.Le7 p.Bd8)::((i p.ia0)::((i s.gc5)::((b (decide (s.gc5 < p.ia0)))::(ra 17 []))))))))))))),[⟨0,4,[[(i p.c9),(i p.c7),(i p.d7),(i p.i9)]],true,false,0⟩]⟩)],cc6⟩
theorem cc7:Oa3.Ok:=Lo.ok [] (by kernel_rfl) .nil rfl (.cons (fun a H=>by kernel_rfl) .nil) fun p s=>(.of @fa8 (fun F _ _ _ _ _=>by unfold fa8;(repeat' apply n7 (f:=F))<;>rfl) (by kernel_rfl))
structure ma2 where
 is9:Int
structure P1 where
 n5:List Pln
 kb3:List Pln
 r8:Int
noncomputable def cc8 (p:ma2) (s:P1):St:=⟨((eL tP s.n5)::(ra 7 ((eL tP s.kb3)::((i p.is9)::((i s.r8)::(ra 27 [])))))),[]⟩
noncomputable def fa9 {α:Type} (k:P1→α) (e:Nat→α) (z:α) (p:ma2) (s:P1):α:=let t1:=(lp (ba1 (⟨(rt tP s.n5),(rt tP s.kb3),p.is9,s.r8,(s.r8.toNat - 0),(fun k=>(fun k=>(tP).row (gL tP s.n5 k)) (0+k)),(↑(s.r8.toNat - 0):Int),(gL tP s.kb3 s.r8.toNat).n.x,(gL tP s.kb3 s.r8.toNat).n.y,(gL tP s.kb3 s.r8.toNat).n.z,(gL tP s.kb3 s.r8.toNat).b⟩:ma1)) (⟨0⟩:P0));(sl (decide (s.r8 < p.is9)) (sl (inB s.r8 (List.length s.kb3)) (sl (inB s.r8 ((List.length s.n5)+1)) (sl ((cnE tP s.n5)&&((cnE tP s.kb3)&&true)) (sl (Nat.beq t1.1 1) (e 1) (sl (Nat.beq t1.1 2) (k ⟨(rt tP s.n5),(rt tP s.kb3),(W (s.r8+1))⟩) z)) z) z) z) (e 2))
noncomputable def ba2 (p:ma2) (s:P1):Stp P1:=fa9 .next .exit .fail p s
noncomputable def Oa4:Lo ma2 P1:=⟨En Xa9,0,Ge3,[1,0,1,4,4],[0,8,9,10],(.s .p (.s .p (.s (.b (.s .p (.s .p (.b (.u Oa3.ls))))) .p))),[⟨((.s (.c 4 (nL tP)))::(ru2 7 ((.s (.c 4 (nL tP)))::((.s (.o (.int .i64)))::((.s (.o (.int .i64)))::(ru2 27 [])))))),[],fun a H=>(⟨(toI (slT a 9))⟩,⟨(rL tP (slT a 0)),(rL tP (slT a 8)),(toI (slT a 10))⟩)⟩],ba2,[(none,fun p s=>⟨[(b true)],[]⟩),(some 0,fun p s=>⟨((eL tP s.n5)::(ra 7 ((eL tP s.kb3)::((i p.is9)::((i s.r8)::((b (decide (s.r8 < p.is9)))::(ra 26 []))))))),[]⟩)],cc8⟩
theorem cc9:Oa4.Ok:=Lo.ok [Oa3.pr] (by kernel_rfl) (.cons cc7 .nil) rfl (.cons (fun a H=>by kernel_rfl) .nil) fun p s=>(.of @fa9 (fun F _ _ _ _ _=>by unfold fa9;(repeat' apply n7 (f:=F))<;>rfl) (by kernel_rfl))
noncomputable def wa3 (x:List Pln):Option (b7×List b9):=let t1:=(lp (ba2 (⟨(↑(List.length x):Int)⟩:ma2)) (⟨(rt tP x),(rt tP x),0⟩:P1));(sl ((cnE tP x)&&((cnE tP x)&&true)) (sl (Nat.beq t1.1 1) (some ((b true),[])) (sl (Nat.beq t1.1 2) (some ((b false),[])) none)) none)
noncomputable def na4 (x:List Pln):Bool:=Y8 (one r1B) (wa3 x)
noncomputable def na5 (x:List Pln):Bool:=okO (one r1B) (wa3 x)
noncomputable def Gb7:Sum:=Y7 (Ba0 tP) (fun x=>.guard (na5 x) (.ret ((one r1B).enc (na4 x),[])))
theorem Bc3:g8 prog G 90 Gb7:=Ua5 (bd b90 nc6) (one r1B) (o:=wa3) fun x=>Qa3 (.s .p (.s (.s .p (.b (.u Oa4.ls))) .p)) [Oa4.pr] (by kernel_rfl) (.cons cc9 .nil) (by kernel_rfl)
structure sa9 where
 da0:Int
 da1:Int
 da2:Int
 q7:List Pln
noncomputable def cb6:List (Nat×Sum):=[(88,Da0),(90,Gb7)]
theorem Lb8:j7 prog G cb6:=⟨Ja4,Bc3,trivial⟩
structure G4 where
 Fa6:List Pln
 is8:Int
 q7:List Pln
 s6:Int
 s7:Int
 s8:Int
structure l5 where
 ph:Nat
 is9:Int
 ns4:Nat
 eh2:List (List b7)
noncomputable def wb7 (p:G4) (s:l5):St:=⟨(.unk::(.unk::((.ptr 1 0 0 0)::(.unk::((.v (.slice none 0 0))::(.unk::(.unk::((eL tP p.Fa6)::((i p.is8)::((i s.is9)::(ra 15 []))))))))))),[⟨0,1,[[(eL tP p.q7)]],true,false,0⟩,⟨0,3,[[(i p.s6),(i p.s7),(i p.s8)]],true,false,0⟩]⟩
noncomputable def wb8 (p:G4) (s:l5):St:=⟨(.unk::(.unk::((.ptr 1 0 0 0)::(.unk::((.sl 2 0 s.ns4 0)::(.unk::(.unk::((eL tP p.Fa6)::((i p.is8)::((i s.is9)::(ra 15 []))))))))))),[⟨0,1,[[(eL tP p.q7)]],true,false,0⟩,⟨0,3,[[(i p.s6),(i p.s7),(i p.s8)]],true,false,0⟩,⟨73,4,s.eh2,true,false,0⟩]⟩
noncomputable def Eb0 (p:G4) (s:l5):St:=(sel (Nat.beq s.ph 1) (wb8 p s) (wb7 p s))
noncomputable def G5 {α:Type} (k:l5→α) (e:Nat→α) (z:α) (p:G4) (s:l5):α:=let t1:=(fa3 (gL tP p.Fa6 s.is9.toNat) (⟨p.s6,p.s7,p.s8⟩:V3));(sl (decide (s.is9 < p.is8)) (sl (inB s.is9 (List.length p.Fa6)) (sl (fa4 (gL tP p.Fa6 s.is9.toNat) (⟨p.s6,p.s7,p.s8⟩:V3)) (sl (t1==0) (k ⟨1,(W (s.is9+1)),1,[[(i (gL tP p.Fa6 s.is9.toNat).n.x),(i (gL tP p.Fa6 s.is9.toNat).n.y),(i (gL tP p.Fa6 s.is9.toNat).n.z),(i (gL tP p.Fa6 s.is9.toNat).b)]]⟩) (k ⟨0,(W (s.is9+1)),0,[]⟩)) z) z) (e 1))
noncomputable def G6 {α:Type} (k:l5→α) (e:Nat→α) (z:α) (p:G4) (s:l5):α:=let t1:=(fa3 (gL tP p.Fa6 s.is9.toNat) (⟨p.s6,p.s7,p.s8⟩:V3));(sl (decide (s.is9 < p.is8)) (sl (inB s.is9 (List.length p.Fa6)) (sl (fa4 (gL tP p.Fa6 s.is9.toNat) (⟨p.s6,p.s7,p.s8⟩:V3)) (sl (t1==0) (sl (Nat.beq s.ns4 (len s.eh2)&&Nat.ble ((s.ns4+1)*32) room) (k ⟨1,(W (s.is9+1)),(s.ns4+1),(app s.eh2 [[(i (gL tP p.Fa6 s.is9.toNat).n.x),(i (gL tP p.Fa6 s.is9.toNat).n.y),(i (gL tP p.Fa6 s.is9.toNat).n.z),(i (gL tP p.Fa6 s.is9.toNat).b)]])⟩) z) (k ⟨1,(W (s.is9+1)),s.ns4,s.eh2⟩)) z) z) (e 2))
noncomputable def ia3 (p:G4) (s:l5):Stp l5:=(sel (Nat.beq s.ph 1) (G6 .next .exit .fail p s) (G5 .next .exit .fail p s))
noncomputable def za9:Lo G4 l5:=⟨En cb6,1,Oe5,[1,1,0,1,4,4],[2,4,7,8,9],.p,[⟨((.s (.o .unk))::((.s (.o .unk))::((.s (.o (.ptr 1 0 0 0)))::((.s (.o .unk))::((.s (.o .nil))::((.s (.o .unk))::((.s (.o .unk))::((.s (.c 4 (nL tP)))::((.s (.o (.int .i64)))::((.s (.o (.int .i64)))::(ru2 15 []))))))))))),[⟨0,1,true,(some [[(.c 4 (nL tP))]])⟩,⟨0,3,true,(some [[(.o (.int .i64)),(.o (.int .i64)),(.o (.int .i64))]])⟩],fun a H=>(⟨(rL tP (slT a 7)),(toI (slT a 8)),(rL tP (slT (rwT (elT H 0) 0) 0)),(toI (slT (rwT (elT H 1) 0) 0)),(toI (slT (rwT (elT H 1) 0) 1)),(toI (slT (rwT (elT H 1) 0) 2))⟩,⟨0,(toI (slT a 9)),0,[]⟩)⟩,⟨((.s (.o .unk))::((.s (.o .unk))::((.s (.o (.ptr 1 0 0 0)))::((.s (.o .unk))::((.s (.o (.sl 2 0 (some 0) none)))::((.s (.o .unk))::((.s (.o .unk))::((.s (.c 4 (nL tP)))::((.s (.o (.int .i64)))::((.s (.o (.int .i64)))::(ru2 15 []))))))))))),[⟨0,1,true,(some [[(.c 4 (nL tP))]])⟩,⟨0,3,true,(some [[(.o (.int .i64)),(.o (.int .i64)),(.o (.int .i64))]])⟩,⟨73,4,true,none⟩],fun a H=>(⟨(rL tP (slT a 7)),(toI (slT a 8)),(rL tP (slT (rwT (elT H 0) 0) 0)),(toI (slT (rwT (elT H 1) 0) 0)),(toI (slT (rwT (elT H 1) 0) 1)),(toI (slT (rwT (elT H 1) 0) 2))⟩,⟨1,(toI (slT a 9)),(slN (slT a 4)),(elT H 2)⟩)⟩],ia3,[(some 0,fun p s=>⟨(.unk::(.unk::((.ptr 1 0 0 0)::(.unk::((.v (.slice none 0 0))::(.unk::(.unk::((eL tP p.Fa6)::((i p.is8)::((i s.is9)::((b (decide (s.is9 < p.is8)))::(ra 14 [])))))))))))),[⟨0,1,[[(eL tP p.q7)]],true,false,0⟩,⟨0,3,[[(i p.s6),(i p.s7),(i p.s8)]],true,false,0⟩]⟩),(some 0,fun p s=>⟨(.unk::(.unk::((.ptr 1 0 0 0)::(.unk::((.sl 2 0 s.ns4 0)::(.unk::(.unk::((eL tP p.Fa6)::((i p.is8)::((i s.is9)::((b (decide (s.is9 < p.is8)))::(ra 14 [])))))))))))),[⟨0,1,[[(eL tP p.q7)]],true,false,0⟩,⟨0,3,[[(i p.s6),(i p.s7),(i p.s8)]],true,false,0⟩,⟨73,4,s.eh2,true,false,0⟩]⟩)],Eb0⟩
theorem Eb1:za9.Ok:=Lo.ok [] (by kernel_rfl) .nil rfl (.cons (fun a H=>by kernel_rfl) (.cons (fun a H=>by kernel_rfl) .nil)) fun p s=>(.sel (Nat.beq s.ph 1) (.of @G6 (fun F _ _ _ _ _=>by unfold G6;(repeat' apply n7 (f:=F))<;>rfl) (by kernel_rfl)) (.of @G5 (fun F _ _ _ _ _=>by unfold G5;(repeat' apply n7 (f:=F))<;>rfl) (by kernel_rfl)))
structure ta0 where
 alt:Nat
 bs0:Bool
 q7:List Pln
noncomputable def ba3 {α:Type} (kk:ta0→α) (x:sa9):α:=let t1:=(lp (ia3 (⟨(rt tP x.q7),(↑(List.length x.q7):Int),(rt tP x.q7),x.da0,x.da1,x.da2⟩:G4)) (⟨0,0,0,[]⟩:l5));let t2:=(na4 []);let t3:=(na4 (slR tP t1.2.eh2 0 t1.2.ns4));(sl ((cnE tP x.q7)&&((cnE tP x.q7)&&true)) (sl (Nat.beq t1.1 1) (sl (na5 []) (kk ⟨1,(!t2),(rt tP x.q7)⟩) (kk ⟨0,false,[]⟩)) (sl (Nat.beq t1.1 2) (sl (okS tP t1.2.eh2 0 t1.2.ns4) (sl (na5 (slR tP t1.2.eh2 0 t1.2.ns4)) (kk ⟨1,(!t3),(rt tP x.q7)⟩) (kk ⟨0,false,[]⟩)) (kk ⟨0,false,[]⟩)) (kk ⟨0,false,[]⟩))) (kk ⟨0,false,[]⟩))
noncomputable def T0 (x:sa9):ta0:=ba3 (fun r=>r) x
noncomputable def Ea0 (x:sa9) (r:ta0):DT (b7×List b9):=(.ite (Nat.beq r.alt 1) (.ret ((b r.bs0),[⟨0,1,[[(eL tP r.q7)]],true,false,0⟩])) .fail)
theorem dc0 {α β:Type} (F:α→β) (kk:ta0→α) (x:sa9):F (ba3 kk x)=ba3 (fun r=>F (kk r)) x:=by unfold ba3;(repeat' apply n7 (f:=F))<;>rfl
noncomputable def Ha8:Sum:=Ua6 ⟨[(.agg [(.o (.int .i64)),(.o (.int .i64)),(.o (.int .i64))]),(.s (.o (.ptr 0 0 0 0)))],[⟨0,1,true,(some [[(.c 4 (nL tP))]])⟩],fun a H=>(⟨(toI (slT (cellsOf (slT a 0)) 0)),(toI (slT (cellsOf (slT a 0)) 1)),(toI (slT (cellsOf (slT a 0)) 2)),(rL tP (slT (rwT (elT H 0) 0) 0))⟩,())⟩ (fun x=>Ea0 x (T0 x))
theorem cb7:g8 prog G 89 Ha8:=P8 (enc:=fun x=>⟨[(.agg [(i x.da0),(i x.da1),(i x.da2)]),(.ptr 0 0 0 0)],[⟨0,1,[[(eL tP x.q7)]],true,false,0⟩]⟩) (fun a H=>by kernel_rfl) (bd b89 Lb8) fun x=>Qa3 (.s .p (.s .p (.s (.s .p (.b (.u za9.ls))) .p))) [za9.pr] (by kernel_rfl) (.cons Eb1 .nil) (Eq.trans (b:=ba3 (fun r=>(Ea0 x r).run) x) (by kernel_rfl) (dc0 (fun r=>(Ea0 x r).run) (fun r=>r) x).symm)
structure X1 where
 ns0:Nat
 eh0:List (List b7)
 q8:List Pln
noncomputable def wa4:List (Nat×Sum):=[(89,Ha8)]
theorem ab5:j7 prog G wa4:=⟨cb7,trivial⟩
structure J0 where
 ns0:Nat
 is7:Int
 eh0:List (List b7)
structure o7 where
 is8:Int
 q8:List Pln
noncomputable def Ya0 (p:J0) (s:o7):St:=⟨((.sl 0 0 p.ns0 0)::((.fn 89 [(.ptr 1 0 0 0)])::(ra 5 ((i p.is7)::((i s.is8)::(ra 10 [])))))),[⟨27,3,p.eh0,true,false,0⟩,⟨0,1,[[(eL tP s.q8)]],true,false,0⟩]⟩
noncomputable def E3 {α:Type} (k:o7→α) (e:Nat→α) (z:α) (p:J0) (s:o7):α:=let t1:=(T0 ⟨(rdR tV p.eh0 (0+s.is8.toNat)).x,(rdR tV p.eh0 (0+s.is8.toNat)).y,(rdR tV p.eh0 (0+s.is8.toNat)).z,(rt tP s.q8)⟩);(sl (decide (s.is8 < p.is7)) (sl (inB s.is8 p.ns0) (sl (ldR tV p.eh0 (0+s.is8.toNat)) (sl ((cnE tP s.q8)&&true) (sl (Nat.beq t1.alt 1) (sl t1.bs0 (e 1) (k ⟨(W (s.is8+1)),t1.q7⟩)) z) z) z) z) (e 2))
noncomputable def G7 (p:J0) (s:o7):Stp o7:=E3 .next .exit .fail p s
noncomputable def da9:Lo J0 o7:=⟨En wa4,2,md0,[1,0,1,4,4],[0,1,7,8],.p,[⟨((.s (.o (.sl 0 0 (some 0) none)))::((.fn 89 [(.o (.ptr 1 0 0 0))])::(ru2 5 ((.s (.o (.int .i64)))::((.s (.o (.int .i64)))::(ru2 10 [])))))),[⟨27,3,true,none⟩,⟨0,1,true,(some [[(.c 4 (nL tP))]])⟩],fun a H=>(⟨(slN (slT a 0)),(toI (slT a 7)),(elT H 0)⟩,⟨(toI (slT a 8)),(rL tP (slT (rwT (elT H 1) 0) 0))⟩)⟩],G7,[(none,fun p s=>let t1:=(T0 ⟨(rdR tV p.eh0 (0+s.is8.toNat)).x,(rdR tV p.eh0 (0+s.is8.toNat)).y,(rdR tV p.eh0 (0+s.is8.toNat)).z,(rt tP s.q8)⟩);⟨[(i s.is8)],[⟨27,3,p.eh0,true,false,0⟩,⟨0,1,[[(eL tP t1.q7)]],true,false,0⟩]⟩),(some 0,fun p s=>⟨((.sl 0 0 p.ns0 0)::((.fn 89 [(.ptr 1 0 0 0)])::(ra 5 ((i p.is7)::((i s.is8)::((b (decide (s.is8 < p.is7)))::(ra 9 []))))))),[⟨27,3,p.eh0,true,false,0⟩,⟨0,1,[[(eL tP s.q8)]],true,false,0⟩]⟩)],Ya0⟩
theorem Ya1:da9.Ok:=Lo.ok [] (by kernel_rfl) .nil rfl (.cons (fun a H=>by kernel_rfl) .nil) fun p s=>(.of @E3 (fun F _ _ _ _ _=>by unfold E3;(repeat' apply n7 (f:=F))<;>rfl) (by kernel_rfl))
structure X2 where
 alt:Nat
 is0:Int
 q8:List Pln
noncomputable def F5 {α:Type} (kk:X2→α) (x:X1):α:=let t1:=(lp (G7 (⟨x.ns0,(↑x.ns0:Int),x.eh0⟩:J0)) (⟨0,(rt tP x.q8)⟩:o7));let t2:=(T0 ⟨(rdR tV x.eh0 (0+t1.2.is8.toNat)).x,(rdR tV x.eh0 (0+t1.2.is8.toNat)).y,(rdR tV x.eh0 (0+t1.2.is8.toNat)).z,(rt tP t1.2.q8)⟩);(sl ((cnE tP x.q8)&&true) (sl (Nat.beq t1.1 1) (kk ⟨1,t1.2.is8,t2.q7⟩) (sl (Nat.beq t1.1 2) (kk ⟨1,(-1),t1.2.q8⟩) (kk ⟨0,0,[]⟩))) (kk ⟨0,0,[]⟩))
noncomputable def X3 (x:X1):X2:=F5 (fun r=>r) x
noncomputable def ha6 (x:X1) (r:X2):DT (b7×List b9):=(.ite (Nat.beq r.alt 1) (.ret ((i r.is0),[⟨27,3,x.eh0,true,false,0⟩,⟨0,1,[[(eL tP r.q8)]],true,false,0⟩])) .fail)
theorem jb1 {α β:Type} (F:α→β) (kk:X2→α) (x:X1):F (F5 kk x)=F5 (fun r=>F (kk r)) x:=by unfold F5;(repeat' apply n7 (f:=F))<;>rfl
noncomputable def Aa8:Sum:=Ua6 ⟨[(.s (.o (.sl 0 0 (some 0) none))),(.fn 89 [(.o (.ptr 1 0 0 0))])],[⟨27,3,true,none⟩,⟨0,1,true,(some [[(.c 4 (nL tP))]])⟩],fun a H=>(⟨(slN (slT a 0)),(elT H 0),(rL tP (slT (rwT (elT H 1) 0) 0))⟩,())⟩ (fun x=>ha6 x (X3 x))
theorem fb5:g8 prog G 144 Aa8:=P8 (enc:=fun x=>⟨[(.sl 0 0 x.ns0 0),(.fn 89 [(.ptr 1 0 0 0)])],[⟨27,3,x.eh0,true,false,0⟩,⟨0,1,[[(eL tP x.q8)]],true,false,0⟩]⟩) (fun a H=>by kernel_rfl) (bd qe7 ab5) fun x=>Qa3 (.s .p (.s (.s .p (.b (.u da9.ls))) .p)) [da9.pr] (by kernel_rfl) (.cons Ya1 .nil) (Eq.trans (b:=F5 (fun r=>(ha6 x r).run) x) (by kernel_rfl) (jb1 (fun r=>(ha6 x r).run) (fun r=>r) x).symm)
structure X4 where
 ns0:Nat
 eh0:List (List b7)
 q8:List Pln
noncomputable def wa5:List (Nat×Sum):=[(144,Aa8),(89,Ha8)]
theorem ab6:j7 prog G wa5:=⟨fb5,cb7,trivial⟩
structure J1 where
 ns0:Nat
structure q9 where
 is5:Int
 is6:Int
 eh0:List (List b7)
 q8:List Pln
noncomputable def Ya2 (p:J1) (s:q9):St:=⟨((.sl 0 0 p.ns0 0)::((.fn 89 [(.ptr 1 0 0 0)])::(ra 3 ((i s.is5)::((i s.is6)::(ra 35 [])))))),[⟨27,3,s.eh0,true,false,0⟩,⟨0,1,[[(eL tP s.q8)]],true,false,0⟩]⟩
noncomputable def E4 {α:Type} (k:q9→α) (e:Nat→α) (z:α) (p:J1) (s:q9):α:=let t1:=(T0 ⟨(rdR tV s.eh0 (0+s.is6.toNat)).x,(rdR tV s.eh0 (0+s.is6.toNat)).y,(rdR tV s.eh0 (0+s.is6.toNat)).z,(rt tP s.q8)⟩);(sl (decide (s.is6 < (↑p.ns0:Int))) (sl (inB s.is6 p.ns0) (sl (ldR tV s.eh0 (0+s.is6.toNat)) (sl ((cnE tP s.q8)&&true) (sl (Nat.beq t1.alt 1) (sl (!t1.bs0) (sl (inB s.is5 p.ns0) (sl ((Nat.blt (0+s.is5.toNat) (len s.eh0))&&(Nat.ble (0+3) (len (i6 s.eh0 (0+s.is5.toNat))))) (k ⟨(W (s.is5+1)),(W (s.is6+1)),(setAt s.eh0 (0+s.is5.toNat) (P6 (i6 s.eh0 (0+s.is5.toNat)) 0 [(i (rdR tV s.eh0 (0+s.is6.toNat)).x),(i (rdR tV s.eh0 (0+s.is6.toNat)).y),(i (rdR tV s.eh0 (0+s.is6.toNat)).z)])),t1.q7⟩) z) z) (k ⟨s.is5,(W (s.is6+1)),s.eh0,t1.q7⟩)) z) z) z) z) (e 1))
noncomputable def B0 (p:J1) (s:q9):Stp q9:=E4 .next .exit .fail p s
noncomputable def ea0:Lo J1 q9:=⟨En wa5,2,Oe6,[1,1,1,0,1,4,4],[0,1,5,6],.p,[⟨((.s (.o (.sl 0 0 (some 0) none)))::((.fn 89 [(.o (.ptr 1 0 0 0))])::(ru2 3 ((.s (.o (.int .i64)))::((.s (.o (.int .i64)))::(ru2 35 [])))))),[⟨27,3,true,none⟩,⟨0,1,true,(some [[(.c 4 (nL tP))]])⟩],fun a H=>(⟨(slN (slT a 0))⟩,⟨(toI (slT a 5)),(toI (slT a 6)),(elT H 0),(rL tP (slT (rwT (elT H 1) 0) 0))⟩)⟩],B0,[(some 0,fun p s=>⟨((.sl 0 0 p.ns0 0)::((.fn 89 [(.ptr 1 0 0 0)])::(ra 3 ((i s.is5)::((i s.is6)::(ra 9 ((i s.is6)::((.sl 0 0 p.ns0 0)::((i (↑p.ns0:Int))::((b (decide (s.is6 < (↑p.ns0:Int))))::(ra 22 []))))))))))),[⟨27,3,s.eh0,true,false,0⟩,⟨0,1,[[(eL tP s.q8)]],true,false,0⟩]⟩)],Ya2⟩
theorem Ya3:ea0.Ok:=Lo.ok [] (by kernel_rfl) .nil rfl (.cons (fun a H=>by kernel_rfl) .nil) fun p s=>(.of @E4 (fun F _ _ _ _ _=>by unfold E4;(repeat' apply n7 (f:=F))<;>rfl) (by kernel_rfl))
structure X5 where
 alt:Nat
 ns0:Nat
 eh0:List (List b7)
 q8:List Pln
noncomputable def F6 {α:Type} (kk:X5→α) (x:X4):α:=let t1:=(X3 ⟨x.ns0,x.eh0,(rt tP x.q8)⟩);let t2:=(lp (B0 (⟨x.ns0⟩:J1)) (⟨t1.is0,(W (t1.is0+1)),x.eh0,(rt tP t1.q8)⟩:q9));(sl ((cnE tP x.q8)&&true) (sl (Nat.beq t1.alt 1) (sl (t1.is0==(-1)) (kk ⟨1,x.ns0,x.eh0,t1.q8⟩) (sl ((cnE tP t1.q8)&&true) (sl (Nat.beq t2.1 1) (sl (inB t2.2.is5 (x.ns0+1)) (sl (inB t2.2.is5 (x.ns0+1)) (kk ⟨1,(t2.2.is5.toNat - 0),(app (A3 t2.2.eh0 (0+t2.2.is5.toNat)) (app (List.replicate (x.ns0 - t2.2.is5.toNat) [(i 0),(i 0),(i 0)]) (f9 t2.2.eh0 ((0+t2.2.is5.toNat)+(x.ns0 - t2.2.is5.toNat))))),t2.2.q8⟩) (kk ⟨0,0,[],[]⟩)) (kk ⟨0,0,[],[]⟩)) (kk ⟨0,0,[],[]⟩)) (kk ⟨0,0,[],[]⟩))) (kk ⟨0,0,[],[]⟩)) (kk ⟨0,0,[],[]⟩))
noncomputable def X6 (x:X4):X5:=F6 (fun r=>r) x
noncomputable def ha7 (x:X4) (r:X5):DT (b7×List b9):=(.ite (Nat.beq r.alt 1) (.ret ((.sl 0 0 r.ns0 0),[⟨27,3,r.eh0,true,false,0⟩,⟨0,1,[[(eL tP r.q8)]],true,false,0⟩])) .fail)
theorem jb2 {α β:Type} (F:α→β) (kk:X5→α) (x:X4):F (F6 kk x)=F6 (fun r=>F (kk r)) x:=by unfold F6;(repeat' apply n7 (f:=F))<;>rfl
noncomputable def Aa9:Sum:=Ua6 ⟨[(.s (.o (.sl 0 0 (some 0) none))),(.fn 89 [(.o (.ptr 1 0 0 0))])],[⟨27,3,true,none⟩,⟨0,1,true,(some [[(.c 4 (nL tP))]])⟩],fun a H=>(⟨(slN (slT a 0)),(elT H 0),(rL tP (slT (rwT (elT H 1) 0) 0))⟩,())⟩ (fun x=>ha7 x (X6 x))
theorem fb6:g8 prog G 91 Aa9:=P8 (enc:=fun x=>⟨[(.sl 0 0 x.ns0 0),(.fn 89 [(.ptr 1 0 0 0)])],[⟨27,3,x.eh0,true,false,0⟩,⟨0,1,[[(eL tP x.q8)]],true,false,0⟩]⟩) (fun a H=>by kernel_rfl) (bd b91 ab6) fun x=>Qa3 (.s .p (.s .p (.s .p (.s (.s .p (.b (.u ea0.ls))) .p)))) [ea0.pr] (by kernel_rfl) (.cons Ya3 .nil) (Eq.trans (b:=F6 (fun r=>(ha7 x r).run) x) (by kernel_rfl) (jb2 (fun r=>(ha7 x r).run) (fun r=>r) x).symm)
noncomputable def Sb7:List (Nat×Sum):=[(145,za8),(146,oa3),(148,qa9)]
theorem Lb9:j7 prog G Sb7:=⟨Pa5,Da9,Ga0,trivial⟩
structure ta1 where
 alt:Nat
 ns0:Nat
 eh0:List (List b7)
noncomputable def ba4 {α:Type} (kk:ta1→α) (x:V3×List V3):α:=let t1:=(ca5 (hC tV (fun k=>(tV).row (gL tV (x.1::x.2) k)),tC tV (List.length x.2) (fun k=>(tV).row (gL tV (x.1::x.2) k))));let t2:=(M3 ⟨t1.ns0,(app (bL tV (pb7 (slR tV t1.eh0 0 t1.ns0))) (f9 t1.eh0 t1.ns0))⟩);(sl (okL tV (List.length x.2+1) (fun k=>(tV).row (gL tV (x.1::x.2) k))) (sl (Nat.beq t1.alt 1) (sl (Bool.and (Nat.ble t1.ns0 room) (Bool.and (Nat.ble t1.ns0 (len t1.eh0)) (okS tV t1.eh0 0 t1.ns0))) (sl (Nat.beq t2.alt 1) (kk ⟨1,t2.ns0,t2.eh0⟩) (kk ⟨0,0,[]⟩)) (kk ⟨0,0,[]⟩)) (kk ⟨0,0,[]⟩)) (kk ⟨0,0,[]⟩))
noncomputable def ta2 (x:V3×List V3):ta1:=ba4 (fun r=>r) x
noncomputable def Ea1 (r:ta1):DT (b7×List b9):=(.ite (Nat.beq r.alt 1) (.ret ((.sl 0 0 r.ns0 0),[⟨27,3,r.eh0,true,false,0⟩])) .fail)
theorem dc1 {α β:Type} (F:α→β) (kk:ta1→α) (x:V3×List V3):F (ba4 kk x)=ba4 (fun r=>F (kk r)) x:=by unfold ba4;(repeat' apply n7 (f:=F))<;>rfl
noncomputable def ja5:Sum:=Y7 (jd3 tV) (fun x=>Ea1 (ta2 x))
theorem pa0:g8 prog G 92 ja5:=Bb6 (bd b92 Lb9) fun x=>A4 (Eq.trans (b:=ba4 (fun r=>(Ea1 r).run) x) (by kernel_rfl) (dc1 (fun r=>(Ea1 r).run) (fun r=>r) x).symm)
noncomputable def nc7:List (Nat×Sum):=[(64,Sb5),(92,ja5),(91,Aa9)]
theorem dc2:j7 prog G nc7:=⟨Gb6,pa0,fb6,trivial⟩
noncomputable def ra1 (x:V3×List V3):Option (b7×List b9):=let t1:=(Ra7 (hC tV (fun k=>(tV).row (gL tV (x.1::x.2) k)),tC tV (List.length x.2) (fun k=>(tV).row (gL tV (x.1::x.2) k))));let t2:=(ta2 (hC tV (fun k=>(tV).row (gL tV (x.1::x.2) k)),tC tV (List.length x.2) (fun k=>(tV).row (gL tV (x.1::x.2) k))));let t3:=(X6 ⟨t2.ns0,t2.eh0,(rt tP t1.1)⟩);(sl (okL tV (List.length x.2+1) (fun k=>(tV).row (gL tV (x.1::x.2) k))) (sl (Ra8 (hC tV (fun k=>(tV).row (gL tV (x.1::x.2) k)),tC tV (List.length x.2) (fun k=>(tV).row (gL tV (x.1::x.2) k)))) (sl (t1.2 != 0) (some ((.tup [(.v (.slice none 0 0)),(i t1.2)]),[])) (sl (okL tV (List.length x.2+1) (fun k=>(tV).row (gL tV (x.1::x.2) k))) (sl (Nat.beq t2.alt 1) (sl ((cnE tP t1.1)&&true) (sl (Nat.beq t3.alt 1) (some ((.tup [(.sl 0 0 t3.ns0 0),(i 0)]),[⟨27,3,t3.eh0,true,false,0⟩])) none) none) none) none)) none) none)
noncomputable def wb9 (x:V3×List V3):List V3×Int:=Y8 (two (r1L tV) r1I) (ra1 x)
noncomputable def xb0 (x:V3×List V3):Bool:=okO (two (r1L tV) r1I) (ra1 x)
noncomputable def Bc4:Sum:=Y7 (jd3 tV) (fun x=>.guard (xb0 x) (.ret ((two (r1L tV) r1I).enc (wb9 x),[])))
theorem nc8:g8 prog G 35 Bc4:=Ua5 (bd b35 dc2) (two (r1L tV) r1I) (o:=ra1) fun x=>A4 (by kernel_rfl)
end Go.Ev.Ce
end
namespace Go.Ev.L
open Go Go.Ev
noncomputable def He6:Cod Unit where
 enc _:=.v (.slice none 0 0)
 dec x:=match x with
  | .v (.slice none 0 0)=>some ()
  | _=>none
 grd _:=true
 ok x a hx _:=by
  split at hx
  ·exact .refl _
  ·cases hx
noncomputable def cE0:Cod (Addr×Nat) where
 enc z:=.v (.slice (some z.1) 0 z.2)
 dec x:=match x with
  | .v (.slice (some a) 0 c)=>some (a,c)
  | _=>none
 grd _:=true
 ok x a hx _:=by
  split at hx
  ·cases hx;exact .refl _
  ·cases hx
section
variable {α:Type} {t:Ty α} {P:Program} {G:Nat→List Value} {f:FuncId}
theorem Cb5 {β:Type} {c:Cod β} {k k':β→DT (b7×List b9)} (h:g8 P G f (Y7 c k)) (hk:∀ a r,(k' a).run=some r→(k a).run=some r):g8 P G f (Y7 c k'):=h.le fun args blks r hr=>by
 unfold Y7 at hr ⊢
 split at hr
 ·obtain⟨a,h1,hr⟩:=I6 hr
  obtain⟨g,hr⟩:=DT.run_guard_some hr
  simp only[h1,onO,g]
  exact hk a r hr
 ·cases hr
theorem ae0 {k:List α→DT (b7×List b9)} (hA:g8 P G f (Y7 (jd3 t) fun z=>k (z.1::z.2))) (hN:g8 P G f (Y7 He6 fun _=>k [])) (hE:g8 P G f (Y7 cE0 fun _=>k [])):g8 P G f (Y7 (Ba0 t) k):=by
 intro args blks r out he W ρ F w args' hH hlen hargs hG
 unfold Y7 at he
 split at he
 ·rename_i x
  obtain⟨a,h1,he⟩:=I6 he
  obtain⟨g1,hk⟩:=DT.run_guard_some he
  have nilCase:∀ v',args'[0]?=some v'→v'=.slice none 0 0→a=[]→Ta9 P f∧Calls P f args'.toArray w fun e w'=>∃ r',e=.returned r'∧K9 W ρ [] F w r out r' w':=fun v' hv e ha=>by
   subst ha
   refine hN [.v (.slice none 0 0)] [] r out ?_ W ρ F w args' hH hlen (fun i x' y' hx hy=>?_) hG
   ·exact hk
   ·match i with
    | 0=>cases hx;rw[hv] at hy;cases hy;rw[e];exact .val (.cell (.v _))
    | i+1=>cases hx
  have emptyCase:∀ v' ad c,args'[0]?=some v'→v'=.slice (some ad) 0 c→a=[]→Ta9 P f∧Calls P f args'.toArray w fun e w'=>∃ r',e=.returned r'∧K9 W ρ [] F w r out r' w':=fun v' ad c hv e ha=>by
   subst ha
   refine hE [.v (.slice (some ad) 0 c)] [] r out ?_ W ρ F w args' hH hlen (fun i x' y' hx hy=>?_) hG
   ·exact hk
   ·match i with
    | 0=>cases hx;rw[hv] at hy;cases hy;rw[e];exact .val (.cell (.v _))
    | i+1=>cases hx
  obtain⟨v',hv⟩:∃ v',args'[0]?=some v':=by
   cases args' with
   | nil=>simp at hlen
   | cons v' r'=>exact⟨v',rfl⟩
  cases x with
  | tree e n get =>
   have hb:Nat.beq e t.es=true∧a=lsL t n get:=by
    have h1:(Bool.rec none (some (lsL t n get)) (Nat.beq e t.es):Option (List α))=some a:=h1
    cases hb:Nat.beq e t.es with
    | false=>rw[hb] at h1;cases h1
    | true =>
     rw[hb] at h1
     have h1:some (lsL t n get)=some a:=h1
     injection h1 with h1
     exact⟨rfl,h1.symm⟩
   cases n with
   | zero =>
    have ha:a=[]:=hb.2
    have hm:=la1 (hargs 0 _ v' rfl hv)
    cases hm with
    | tree _ _ _ ad cap cs hs hcap hes hF hw hr=>exact emptyCase _ ad cap hv rfl ha
    | nil=>exact nilCase _ hv rfl ha
   | succ m =>
    have ha:a=hC t get::tC t m get:=hb.2.trans (jd2 t m get)
    subst ha
    refine hA [.tree e (m+1) get] [] r out ?_ W ρ F w args' hH hlen hargs hG
    have hc:(jd3 t).dec (.tree e (m+1) get)=some (hC t get,tC t m get):=by
     show (Bool.rec none (some (hC t get,tC t m get)) (Nat.beq e t.es):Option (α×List α))=_
     rw[hb.1]
    have hg:(jd3 t).grd (.tree e (m+1) get)=true:=g1
    simp only[Y7,hc,onO,hg]
    exact hk
  | v q =>
   have hq:=aa4 (hargs 0 _ v' rfl hv)
   unfold Ba0 at h1
   simp only at h1
   split at h1
   ·rename_i heq;cases heq
   ·rename_i heq
    injection heq with heq
    injection h1 with h1
    exact nilCase v' hv (hq.trans heq) h1.symm
   ·rename_i ad c heq
    injection heq with heq
    injection h1 with h1
    exact emptyCase v' _ _ hv (hq.trans heq) h1.symm
   ·cases h1
  | _=>cases h1
 ·cases he
end
end Go.Ev.L
section
namespace Go.Ev.Ce
open Go Go.Ev Go.Ev.L Go.Proofs
set_option maxRecDepth 100000
noncomputable def Bc5:List (Nat×Sum):=[(118,nb7),(92,ja5),(119,qa3)]
theorem nc9:j7 prog G Bc5:=⟨Gb4,pa0,xa7,trivial⟩
noncomputable def wa6 (x:Unit):Option (b7×List b9):=let t1:=(Da4 []);(sl (Da5 []) (sl (t1 != 0) (some ((.tup [(.v (.slice none 0 0)),(i t1)]),[])) none) none)
noncomputable def Ja9 (x:Unit):List Pln×Int:=Y8 (two (r1L tP) r1I) (wa6 x)
noncomputable def Ka0 (x:Unit):Bool:=okO (two (r1L tP) r1I) (wa6 x)
noncomputable def fb7:Sum:=Y7 He6 (fun x=>.guard (Ka0 x) (.ret ((two (r1L tP) r1I).enc (Ja9 x),[])))
theorem Ya4:g8 prog G 64 fb7:=Ua5 (bd b64 nc9) (two (r1L tP) r1I) (o:=wa6) fun x=>md1 .p [] (by kernel_rfl) .nil (by kernel_rfl)
noncomputable def dc3:List (Nat×Sum):=[(64,fb7),(92,ja5)]
theorem Sb8:j7 prog G dc3:=⟨Ya4,pa0,trivial⟩
noncomputable def ma3 (x:Unit):Option (b7×List b9):=let t1:=(Ja9 ());(sl (Ka0 ()) (sl (t1.2 != 0) (some ((.tup [(.v (.slice none 0 0)),(i t1.2)]),[])) none) none)
noncomputable def ya5 (x:Unit):List V3×Int:=Y8 (two (r1L tV) r1I) (ma3 x)
noncomputable def ya6 (x:Unit):Bool:=okO (two (r1L tV) r1I) (ma3 x)
noncomputable def qb0:Sum:=Y7 He6 (fun x=>.guard (ya6 x) (.ret ((two (r1L tV) r1I).enc (ya5 x),[])))
theorem jb3:g8 prog G 35 qb0:=Ua5 (bd b35 Sb8) (two (r1L tV) r1I) (o:=ma3) fun x=>A4 (by kernel_rfl)
noncomputable def Bc6:List (Nat×Sum):=[(119,qa3)]
theorem oc0:j7 prog G Bc6:=⟨xa7,trivial⟩
noncomputable def fb8 (x:Addr×Nat):Option (b7×List b9):=none
noncomputable def Gb8 (x:Addr×Nat):List Pln×Int:=Y8 (two (r1L tP) r1I) (fb8 x)
noncomputable def Gb9 (x:Addr×Nat):Bool:=okO (two (r1L tP) r1I) (fb8 x)
noncomputable def Hb0:Sum:=Y7 cE0 (fun x=>.guard (Gb9 x) (.ret ((two (r1L tP) r1I).enc (Gb8 x),[])))
theorem xb1:g8 prog G 64 Hb0:=Ua5 (bd b64 oc0) (two (r1L tP) r1I) (o:=fb8) fun x=>md1 .p [] (by kernel_rfl) .nil (by kernel_rfl)
noncomputable def dc4:List (Nat×Sum):=[(64,Hb0),(92,ja5)]
theorem Sb9:j7 prog G dc4:=⟨xb1,pa0,trivial⟩
noncomputable def Oa5 (x:Addr×Nat):Option (b7×List b9):=let t1:=(Gb8 x);(sl (Gb9 x) (sl (t1.2 != 0) (some ((.tup [(.v (.slice none 0 0)),(i t1.2)]),[])) none) none)
noncomputable def oc1 (x:Addr×Nat):List V3×Int:=Y8 (two (r1L tV) r1I) (Oa5 x)
noncomputable def oc2 (x:Addr×Nat):Bool:=okO (two (r1L tV) r1I) (Oa5 x)
noncomputable def oc3:Sum:=Y7 cE0 (fun x=>.guard (oc2 x) (.ret ((two (r1L tV) r1I).enc (oc1 x),[])))
theorem dc5:g8 prog G 35 oc3:=Ua5 (bd b35 Sb9) (two (r1L tV) r1I) (o:=Oa5) fun x=>A4 (by kernel_rfl)
end Go.Ev.Ce
end
section
namespace Go.Ev.Ce
open Go Go.Ev Go.Ev.L Go.Proofs
set_option maxRecDepth 100000
noncomputable def Ya5:List (Nat×Sum):=[]
theorem Eb2:j7 prog G Ya5:=trivial
structure Z1 where
 c9:Int
 ob4:Int
 ob5:Int
structure A0 where
 T4:Int
noncomputable def xb2 (p:Z1) (s:A0):St:=⟨(ra 14 ((.sl 0 0 3 0)::((i 3)::((i s.T4)::(ra 10 []))))),[⟨3,1,[[(i p.c9)],[(i p.ob4)],[(i p.ob5)]],true,false,0⟩]⟩
noncomputable def Q8 {α:Type} (k:A0→α) (e:Nat→α) (z:α) (p:Z1) (s:A0):α:=(sl (decide (s.T4 < 3)) (sl (inB s.T4 3) (sl (((Nat.blt (0+s.T4.toNat) (len [[(i p.c9)],[(i p.ob4)],[(i p.ob5)]]))&&(Nat.ble (0+1) (len (i6 [[(i p.c9)],[(i p.ob4)],[(i p.ob5)]] (0+s.T4.toNat)))))&&(ba7 [(CK.int .i64)] (f9 (i6 [[(i p.c9)],[(i p.ob4)],[(i p.ob5)]] (0+s.T4.toNat)) 0))) (sl (decide ((toI (hdA (f9 (i6 [[(i p.c9)],[(i p.ob4)],[(i p.ob5)]] (0+s.T4.toNat)) 0))) < 0)) (e 1) (sl (decide ((toI (hdA (f9 (i6 [[(i p.c9)],[(i p.ob4)],[(i p.ob5)]] (0+s.T4.toNat)) 0))) > 12)) (e 1) (k ⟨(W (s.T4+1))⟩))) z) z) (e 2))
noncomputable def G8 (p:Z1) (s:A0):Stp A0:=Q8 .next .exit .fail p s
noncomputable def ua3:Lo Z1 A0:=⟨En Ya5,0,Ae1,[1,0,1,4,4],[14,15,16],.p,[⟨(ru2 14 ((.s (.o (.sl 0 0 (some 0) (some 3))))::((.s (.o (.lit .i64 3)))::((.s (.o (.int .i64)))::(ru2 10 []))))),[⟨3,1,true,(some [[(.o (.int .i64))],[(.o (.int .i64))],[(.o (.int .i64))]])⟩],fun a H=>(⟨(toI (slT (rwT (elT H 0) 0) 0)),(toI (slT (rwT (elT H 0) 1) 0)),(toI (slT (rwT (elT H 0) 2) 0))⟩,⟨(toI (slT a 16))⟩)⟩],G8,[(none,fun p s=>⟨[(b false)],[]⟩),(some 0,fun p s=>⟨(ra 14 ((.sl 0 0 3 0)::((i 3)::((i s.T4)::((b (decide (s.T4 < 3)))::(ra 9 [])))))),[⟨3,1,[[(i p.c9)],[(i p.ob4)],[(i p.ob5)]],true,false,0⟩]⟩)],xb2⟩
theorem xb3:ua3.Ok:=Lo.ok [] (by kernel_rfl) .nil rfl (.cons (fun a H=>by kernel_rfl) .nil) fun p s=>(.of @Q8 (fun F _ _ _ _ _=>by unfold Q8;(repeat' apply n7 (f:=F))<;>rfl) (by kernel_rfl))
noncomputable def ga0 (x:V3):Option (b7×List b9):=let t1:=(lp (G8 (⟨x.x,x.y,x.z⟩:Z1)) (⟨0⟩:A0));(sl (Nat.beq t1.1 1) (some ((b false),[])) (sl (Nat.beq t1.1 2) (some ((b true),[])) none))
noncomputable def ga1 (x:V3):Bool:=Y8 (one r1B) (ga0 x)
noncomputable def ga2 (x:V3):Bool:=okO (one r1B) (ga0 x)
noncomputable def Ea2:Sum:=Y7 (R7 tV) (fun x=>.guard (ga2 x) (.ret ((one r1B).enc (ga1 x),[])))
theorem Ya6:g8 prog G 129 Ea2:=Ua5 (bd Ze0 Eb2) (one r1B) (o:=ga0) fun x=>Qa3 (.s .p (.s (.s .p (.b (.u ua3.ls))) .p)) [ua3.pr] (by kernel_rfl) (.cons xb3 .nil) (by kernel_rfl)
noncomputable def Bc7:List (Nat×Sum):=[(183,Ga8)]
theorem oc4:j7 prog G Bc7:=⟨cb1,trivial⟩
noncomputable def wa7 (x:V3) (y:V3):Int:=let t1:=(R8 x.x);let t2:=(R8 x.y);let t3:=(R8 x.z);(W ((W ((W (t1*y.x))+(W (t2*y.y))))+(W (t3*y.z))))
noncomputable def Hb1:Sum:=pa4 (R7 tV) (R7 tV) (fun x y=>.ret ((one r1I).enc (wa7 x y),[]))
theorem Bc8:g8 prog G 131 Hb1:=sa5 (bd Ze2 oc4) fun x y=>A4 (by kernel_rfl)
noncomputable def Lc9:List (Nat×Sum):=[(140,eb2),(138,Ca1)]
theorem Bc9:j7 prog G Lc9:=⟨wb0,Na0,trivial⟩
noncomputable def Ea3 (x:Pln) (y:Int):Option (b7×List b9):=let t1:=(va3 x);let t2:=(K2 4194304 [y]);let t3:=(K2 2097152 [(W (x.b+y))]);(sl (va4 x) (sl (!t1) (some ((.tup [(.agg [(i 0),(i 0),(i 0),(i 0)]),(b false)]),[])) (sl (K3 4194304 [y]) (sl (!t2) (some ((.tup [(.agg [(i 0),(i 0),(i 0),(i 0)]),(b false)]),[])) (sl (K3 2097152 [(W (x.b+y))]) (sl (!t3) (some ((.tup [(.agg [(i 0),(i 0),(i 0),(i 0)]),(b false)]),[])) (some ((.tup [(.agg [(i x.n.x),(i x.n.y),(i x.n.z),(i (W (x.b+y)))]),(b true)]),[]))) none)) none)) none)
noncomputable def ka8 (x:Pln) (y:Int):Pln×Bool:=Y8 (two r1P r1B) (Ea3 x y)
noncomputable def ka9 (x:Pln) (y:Int):Bool:=okO (two r1P r1B) (Ea3 x y)
noncomputable def nb9:Sum:=pa4 (R7 tP) cI (fun x y=>.guard (ka9 x y) (.ret ((two r1P r1B).enc (ka8 x y),[])))
theorem Hb2:g8 prog G 130 nb9:=ub6 (bd Ze1 Bc9) (two r1P r1B) (o:=Ea3) fun x y=>A4 (by kernel_rfl)
noncomputable def dc6:List (Nat×Sum):=[(131,Hb1)]
theorem Tb0:j7 prog G dc6:=⟨Bc8,trivial⟩
noncomputable def ma4 (x:V3) (y:Pln):Int:=let t1:=(wa7 y.n x);t1
noncomputable def Oa6:Sum:=pa4 (R7 tV) (R7 tP) (fun x y=>.ret ((one r1I).enc (ma4 x y),[]))
theorem jb4:g8 prog G 75 Oa6:=sa5 (bd b75 Tb0) fun x y=>A4 (by kernel_rfl)
noncomputable def oc5:List (Nat×Sum):=[(75,Oa6)]
theorem dc7:j7 prog G oc5:=⟨jb4,trivial⟩
noncomputable def Ea4 (x:V3) (y:Pln):Int:=let t1:=(ma4 x y);(W (0 - t1))
noncomputable def xb4:Sum:=pa4 (R7 tV) (R7 tP) (fun x y=>.ret ((one r1I).enc (Ea4 x y),[]))
theorem oc6:g8 prog G 77 xb4:=sa5 (bd b77 dc7) fun x y=>A4 (by kernel_rfl)
structure Ka1 where
 da0:Int
 da1:Int
 da2:Int
 Ma3:List Pln
 Fa7:Int
 Fa8:Int
 Fa9:Int
noncomputable def xb5:List (Nat×Sum):=[(129,Ea2),(75,Oa6),(130,nb9)]
theorem oc7:j7 prog G xb5:=⟨Ya6,jb4,Hb2,trivial⟩
structure P2 where
 Fa7:Int
 Fa8:Int
 Fa9:Int
 Y5:List Pln
 n9:Int
structure o2 where
 ph:Nat
 ia0:Int
 ns8:Nat
 eh0:List (List b7)
noncomputable def Tb1 (p:P2) (s:o2):St:=⟨(.unk::(.unk::((.fn 100075 [(i p.Fa7),(i p.Fa8),(i p.Fa9)])::(ra 5 ((.v (.slice none 0 0))::(ra 7 ((eL tP p.Y5)::((i p.n9)::((i s.ia0)::(ra 19 [])))))))))),[]⟩
noncomputable def Tb2 (p:P2) (s:o2):St:=⟨(.unk::(.unk::((.fn 100075 [(i p.Fa7),(i p.Fa8),(i p.Fa9)])::(ra 5 ((.sl 0 0 s.ns8 0)::(ra 7 ((eL tP p.Y5)::((i p.n9)::((i s.ia0)::(ra 19 [])))))))))),[⟨73,4,s.eh0,true,false,0⟩]⟩
noncomputable def dc8 (p:P2) (s:o2):St:=(sel (Nat.beq s.ph 1) (Tb2 p s) (Tb1 p s))
noncomputable def O2 {α:Type} (k:o2→α) (e:Nat→α) (z:α) (p:P2) (s:o2):α:=let t1:=(ma4 (⟨p.Fa7,p.Fa8,p.Fa9⟩:V3) (gL tP p.Y5 s.ia0.toNat));let t2:=(ka8 (gL tP p.Y5 s.ia0.toNat) t1);(sl (decide (s.ia0 < p.n9)) (sl (inB s.ia0 (List.length p.Y5)) (sl (ka9 (gL tP p.Y5 s.ia0.toNat) t1) (sl (!t2.2) (e 1) (k ⟨1,(W (s.ia0+1)),1,[[(i t2.1.n.x),(i t2.1.n.y),(i t2.1.n.z),(i t2.1.b)]]⟩)) z) z) (e 2))
noncomputable def O3 {α:Type} (k:o2→α) (e:Nat→α) (z:α) (p:P2) (s:o2):α:=let t1:=(ma4 (⟨p.Fa7,p.Fa8,p.Fa9⟩:V3) (gL tP p.Y5 s.ia0.toNat));let t2:=(ka8 (gL tP p.Y5 s.ia0.toNat) t1);(sl (decide (s.ia0 < p.n9)) (sl (inB s.ia0 (List.length p.Y5)) (sl (ka9 (gL tP p.Y5 s.ia0.toNat) t1) (sl (!t2.2) (e 1) (sl (Nat.beq s.ns8 (len s.eh0)&&Nat.ble ((s.ns8+1)*32) room) (k ⟨1,(W (s.ia0+1)),(s.ns8+1),(app s.eh0 [[(i t2.1.n.x),(i t2.1.n.y),(i t2.1.n.z),(i t2.1.b)]])⟩) z)) z) z) (e 3))
noncomputable def ta3 (p:P2) (s:o2):Stp o2:=(sel (Nat.beq s.ph 1) (O3 .next .exit .fail p s) (O2 .next .exit .fail p s))
noncomputable def Oa7:Lo P2 o2:=⟨En xb5,0,Ge1,[1,1,1,0,1,4,4],[2,8,16,17,18],.p,[⟨((.s (.o .unk))::((.s (.o .unk))::((.fn 100075 [(.o (.int .i64)),(.o (.int .i64)),(.o (.int .i64))])::(ru2 5 ((.s (.o .nil))::(ru2 7 ((.s (.c 4 (nL tP)))::((.s (.o (.int .i64)))::((.s (.o (.int .i64)))::(ru2 19 [])))))))))),[],fun a H=>(⟨(toI (slT (cellsOf (slT a 2)) 0)),(toI (slT (cellsOf (slT a 2)) 1)),(toI (slT (cellsOf (slT a 2)) 2)),(rL tP (slT a 16)),(toI (slT a 17))⟩,⟨0,(toI (slT a 18)),0,[]⟩)⟩,⟨((.s (.o .unk))::((.s (.o .unk))::((.fn 100075 [(.o (.int .i64)),(.o (.int .i64)),(.o (.int .i64))])::(ru2 5 ((.s (.o (.sl 0 0 (some 0) none)))::(ru2 7 ((.s (.c 4 (nL tP)))::((.s (.o (.int .i64)))::((.s (.o (.int .i64)))::(ru2 19 [])))))))))),[⟨73,4,true,none⟩],fun a H=>(⟨(toI (slT (cellsOf (slT a 2)) 0)),(toI (slT (cellsOf (slT a 2)) 1)),(toI (slT (cellsOf (slT a 2)) 2)),(rL tP (slT a 16)),(toI (slT a 17))⟩,⟨1,(toI (slT a 18)),(slN (slT a 8)),(elT H 0)⟩)⟩],ta3,[(none,fun p s=>⟨[(.tup [(.v (.slice none 0 0)),(b false)])],[]⟩),(some 0,fun p s=>⟨(.unk::(.unk::((.fn 100075 [(i p.Fa7),(i p.Fa8),(i p.Fa9)])::(ra 5 ((.v (.slice none 0 0))::(ra 7 ((eL tP p.Y5)::((i p.n9)::((i s.ia0)::((b (decide (s.ia0 < p.n9)))::(ra 18 []))))))))))),[]⟩),(some 0,fun p s=>⟨(.unk::(.unk::((.fn 100075 [(i p.Fa7),(i p.Fa8),(i p.Fa9)])::(ra 5 ((.sl 0 0 s.ns8 0)::(ra 7 ((eL tP p.Y5)::((i p.n9)::((i s.ia0)::((b (decide (s.ia0 < p.n9)))::(ra 18 []))))))))))),[⟨73,4,s.eh0,true,false,0⟩]⟩)],dc8⟩
theorem dc9:Oa7.Ok:=Lo.ok [] (by kernel_rfl) .nil rfl (.cons (fun a H=>by kernel_rfl) (.cons (fun a H=>by kernel_rfl) .nil)) fun p s=>(.sel (Nat.beq s.ph 1) (.of @O3 (fun F _ _ _ _ _=>by unfold O3;(repeat' apply n7 (f:=F))<;>rfl) (by kernel_rfl)) (.of @O2 (fun F _ _ _ _ _=>by unfold O2;(repeat' apply n7 (f:=F))<;>rfl) (by kernel_rfl)))
structure Ka2 where
 alt:Nat
 bs1:Bool
 ns0:Nat
 eh0:List (List b7)
noncomputable def na6 {α:Type} (kk:Ka2→α) (x:Ka1):α:=let t1:=(ga1 (⟨x.da0,x.da1,x.da2⟩:V3));let t2:=(lp (ta3 (⟨x.Fa7,x.Fa8,x.Fa9,(rt tP x.Ma3),(↑(List.length x.Ma3):Int)⟩:P2)) (⟨0,0,0,[]⟩:o2));(sl (ga2 (⟨x.da0,x.da1,x.da2⟩:V3)) (sl (!t1) (kk ⟨1,false,0,[]⟩) (sl ((cnE tP x.Ma3)&&true) (sl (Nat.beq t2.1 1) (kk ⟨1,false,0,[]⟩) (sl (Nat.beq t2.1 2) (kk ⟨1,true,0,[]⟩) (sl (Nat.beq t2.1 3) (kk ⟨2,false,t2.2.ns8,t2.2.eh0⟩) (kk ⟨0,false,0,[]⟩)))) (kk ⟨0,false,0,[]⟩))) (kk ⟨0,false,0,[]⟩))
noncomputable def fb9 (x:Ka1):Ka2:=na6 (fun r=>r) x
noncomputable def Ya7 (x:Ka1) (r:Ka2):DT (b7×List b9):=(.ite (Nat.beq r.alt 1) (.ret ((.tup [(.v (.slice none 0 0)),(b r.bs1)]),[])) (.ite (Nat.beq r.alt 2) (.ret ((.tup [(.sl 0 0 r.ns0 0),(b true)]),[⟨73,4,r.eh0,true,false,0⟩])) .fail))
theorem Mc0 {α β:Type} (F:α→β) (kk:Ka2→α) (x:Ka1):F (na6 kk x)=na6 (fun r=>F (kk r)) x:=by unfold na6;(repeat' apply n7 (f:=F))<;>rfl
noncomputable def Hb3:Sum:=Ua6 ⟨[(.agg [(.o (.int .i64)),(.o (.int .i64)),(.o (.int .i64))]),(.s (.c 4 (nL tP))),(.fn 100075 [(.o (.int .i64)),(.o (.int .i64)),(.o (.int .i64))])],[],fun a H=>(⟨(toI (slT (cellsOf (slT a 0)) 0)),(toI (slT (cellsOf (slT a 0)) 1)),(toI (slT (cellsOf (slT a 0)) 2)),(rL tP (slT a 1)),(toI (slT (cellsOf (slT a 2)) 0)),(toI (slT (cellsOf (slT a 2)) 1)),(toI (slT (cellsOf (slT a 2)) 2))⟩,())⟩ (fun x=>Ya7 x (fb9 x))
theorem Cc0:g8 prog G 74 Hb3:=P8 (enc:=fun x=>⟨[(.agg [(i x.da0),(i x.da1),(i x.da2)]),(eL tP x.Ma3),(.fn 100075 [(i x.Fa7),(i x.Fa8),(i x.Fa9)])],[]⟩) (fun a H=>by kernel_rfl) (bd b74 oc7) fun x=>Qa3 (.s .p (.s .p (.s .p (.s (.s .p (.b (.u Oa7.ls))) .p)))) [Oa7.pr] (by kernel_rfl) (.cons dc9 .nil) (Eq.trans (b:=na6 (fun r=>(Ya7 x r).run) x) (by kernel_rfl) (Mc0 (fun r=>(Ya7 x r).run) (fun r=>r) x).symm)
noncomputable def nd6:List (Nat×Sum):=[(74,Hb3)]
theorem ad8:j7 prog G nd6:=⟨Cc0,trivial⟩
noncomputable def Ya8 (x:List Pln) (y:V3):Option (b7×List b9):=let t1:=(fb9 ⟨y.x,y.y,y.z,(rt tP x),y.x,y.y,y.z⟩);(sl ((cnE tP x)&&true) (sl (Nat.beq t1.alt 1) (some ((.tup [(.v (.slice none 0 0)),(b t1.bs1)]),[])) (sl (Nat.beq t1.alt 2) (some ((.tup [(.sl 0 0 t1.ns0 0),(b true)]),[⟨73,4,t1.eh0,true,false,0⟩])) none)) none)
noncomputable def Ha9 (x:List Pln) (y:V3):List Pln×Bool:=Y8 (two (r1L tP) r1B) (Ya8 x y)
noncomputable def Ia0 (x:List Pln) (y:V3):Bool:=okO (two (r1L tP) r1B) (Ya8 x y)
noncomputable def Cc1:Sum:=pa4 (Ba0 tP) (R7 tV) (fun x y=>.guard (Ia0 x y) (.ret ((two (r1L tP) r1B).enc (Ha9 x y),[])))
theorem nd7:g8 prog G 19 Cc1:=ub6 (bd b19 ad8) (two (r1L tP) r1B) (o:=Ya8) fun x y=>A4 (by kernel_rfl)
structure Ka3 where
 da0:Int
 da1:Int
 da2:Int
 Ma3:List Pln
 Fa7:Int
 Fa8:Int
 Fa9:Int
noncomputable def xb6:List (Nat×Sum):=[(129,Ea2),(77,xb4),(130,nb9)]
theorem oc8:j7 prog G xb6:=⟨Ya6,oc6,Hb2,trivial⟩
structure P4 where
 Fa7:Int
 Fa8:Int
 Fa9:Int
 Y5:List Pln
 n9:Int
structure o3 where
 ph:Nat
 ia0:Int
 ns8:Nat
 eh0:List (List b7)
noncomputable def Tb3 (p:P4) (s:o3):St:=⟨(.unk::(.unk::((.fn 100077 [(i p.Fa7),(i p.Fa8),(i p.Fa9)])::(ra 5 ((.v (.slice none 0 0))::(ra 7 ((eL tP p.Y5)::((i p.n9)::((i s.ia0)::(ra 19 [])))))))))),[]⟩
noncomputable def Tb4 (p:P4) (s:o3):St:=⟨(.unk::(.unk::((.fn 100077 [(i p.Fa7),(i p.Fa8),(i p.Fa9)])::(ra 5 ((.sl 0 0 s.ns8 0)::(ra 7 ((eL tP p.Y5)::((i p.n9)::((i s.ia0)::(ra 19 [])))))))))),[⟨73,4,s.eh0,true,false,0⟩]⟩
noncomputable def ec0 (p:P4) (s:o3):St:=(sel (Nat.beq s.ph 1) (Tb4 p s) (Tb3 p s))
noncomputable def O4 {α:Type} (k:o3→α) (e:Nat→α) (z:α) (p:P4) (s:o3):α:=let t1:=(Ea4 (⟨p.Fa7,p.Fa8,p.Fa9⟩:V3) (gL tP p.Y5 s.ia0.toNat));let t2:=(ka8 (gL tP p.Y5 s.ia0.toNat) t1);(sl (decide (s.ia0 < p.n9)) (sl (inB s.ia0 (List.length p.Y5)) (sl (ka9 (gL tP p.Y5 s.ia0.toNat) t1) (sl (!t2.2) (e 1) (k ⟨1,(W (s.ia0+1)),1,[[(i t2.1.n.x),(i t2.1.n.y),(i t2.1.n.z),(i t2.1.b)]]⟩)) z) z) (e 2))
noncomputable def O5 {α:Type} (k:o3→α) (e:Nat→α) (z:α) (p:P4) (s:o3):α:=let t1:=(Ea4 (⟨p.Fa7,p.Fa8,p.Fa9⟩:V3) (gL tP p.Y5 s.ia0.toNat));let t2:=(ka8 (gL tP p.Y5 s.ia0.toNat) t1);(sl (decide (s.ia0 < p.n9)) (sl (inB s.ia0 (List.length p.Y5)) (sl (ka9 (gL tP p.Y5 s.ia0.toNat) t1) (sl (!t2.2) (e 1) (sl (Nat.beq s.ns8 (len s.eh0)&&Nat.ble ((s.ns8+1)*32) room) (k ⟨1,(W (s.ia0+1)),(s.ns8+1),(app s.eh0 [[(i t2.1.n.x),(i t2.1.n.y),(i t2.1.n.z),(i t2.1.b)]])⟩) z)) z) z) (e 3))
noncomputable def ta4 (p:P4) (s:o3):Stp o3:=(sel (Nat.beq s.ph 1) (O5 .next .exit .fail p s) (O4 .next .exit .fail p s))
noncomputable def Oa8:Lo P4 o3:=⟨En xb6,0,Ge1,[1,1,1,0,1,4,4],[2,8,16,17,18],.p,[⟨((.s (.o .unk))::((.s (.o .unk))::((.fn 100077 [(.o (.int .i64)),(.o (.int .i64)),(.o (.int .i64))])::(ru2 5 ((.s (.o .nil))::(ru2 7 ((.s (.c 4 (nL tP)))::((.s (.o (.int .i64)))::((.s (.o (.int .i64)))::(ru2 19 [])))))))))),[],fun a H=>(⟨(toI (slT (cellsOf (slT a 2)) 0)),(toI (slT (cellsOf (slT a 2)) 1)),(toI (slT (cellsOf (slT a 2)) 2)),(rL tP (slT a 16)),(toI (slT a 17))⟩,⟨0,(toI (slT a 18)),0,[]⟩)⟩,⟨((.s (.o .unk))::((.s (.o .unk))::((.fn 100077 [(.o (.int .i64)),(.o (.int .i64)),(.o (.int .i64))])::(ru2 5 ((.s (.o (.sl 0 0 (some 0) none)))::(ru2 7 ((.s (.c 4 (nL tP)))::((.s (.o (.int .i64)))::((.s (.o (.int .i64)))::(ru2 19 [])))))))))),[⟨73,4,true,none⟩],fun a H=>(⟨(toI (slT (cellsOf (slT a 2)) 0)),(toI (slT (cellsOf (slT a 2)) 1)),(toI (slT (cellsOf (slT a 2)) 2)),(rL tP (slT a 16)),(toI (slT a 17))⟩,⟨1,(toI (slT a 18)),(slN (slT a 8)),(elT H 0)⟩)⟩],ta4,[(none,fun p s=>⟨[(.tup [(.v (.slice none 0 0)),(b false)])],[]⟩),(some 0,fun p s=>⟨(.unk::(.unk::((.fn 100077 [(i p.Fa7),(i p.Fa8),(i p.Fa9)])::(ra 5 ((.v (.slice none 0 0))::(ra 7 ((eL tP p.Y5)::((i p.n9)::((i s.ia0)::((b (decide (s.ia0 < p.n9)))::(ra 18 []))))))))))),[]⟩),(some 0,fun p s=>⟨(.unk::(.unk::((.fn 100077 [(i p.Fa7),(i p.Fa8),(i p.Fa9)])::(ra 5 ((.sl 0 0 s.ns8 0)::(ra 7 ((eL tP p.Y5)::((i p.n9)::((i s.ia0)::((b (decide (s.ia0 < p.n9)))::(ra 18 []))))))))))),[⟨73,4,s.eh0,true,false,0⟩]⟩)],ec0⟩
theorem ec1:Oa8.Ok:=Lo.ok [] (by kernel_rfl) .nil rfl (.cons (fun a H=>by kernel_rfl) (.cons (fun a H=>by kernel_rfl) .nil)) fun p s=>(.sel (Nat.beq s.ph 1) (.of @O5 (fun F _ _ _ _ _=>by unfold O5;(repeat' apply n7 (f:=F))<;>rfl) (by kernel_rfl)) (.of @O4 (fun F _ _ _ _ _=>by unfold O4;(repeat' apply n7 (f:=F))<;>rfl) (by kernel_rfl)))
structure Ka4 where
 alt:Nat
 bs1:Bool
 ns0:Nat
 eh0:List (List b7)
noncomputable def na7 {α:Type} (kk:Ka4→α) (x:Ka3):α:=let t1:=(ga1 (⟨x.da0,x.da1,x.da2⟩:V3));let t2:=(lp (ta4 (⟨x.Fa7,x.Fa8,x.Fa9,(rt tP x.Ma3),(↑(List.length x.Ma3):Int)⟩:P4)) (⟨0,0,0,[]⟩:o3));(sl (ga2 (⟨x.da0,x.da1,x.da2⟩:V3)) (sl (!t1) (kk ⟨1,false,0,[]⟩) (sl ((cnE tP x.Ma3)&&true) (sl (Nat.beq t2.1 1) (kk ⟨1,false,0,[]⟩) (sl (Nat.beq t2.1 2) (kk ⟨1,true,0,[]⟩) (sl (Nat.beq t2.1 3) (kk ⟨2,false,t2.2.ns8,t2.2.eh0⟩) (kk ⟨0,false,0,[]⟩)))) (kk ⟨0,false,0,[]⟩))) (kk ⟨0,false,0,[]⟩))
noncomputable def gb0 (x:Ka3):Ka4:=na7 (fun r=>r) x
noncomputable def Ya9 (x:Ka3) (r:Ka4):DT (b7×List b9):=(.ite (Nat.beq r.alt 1) (.ret ((.tup [(.v (.slice none 0 0)),(b r.bs1)]),[])) (.ite (Nat.beq r.alt 2) (.ret ((.tup [(.sl 0 0 r.ns0 0),(b true)]),[⟨73,4,r.eh0,true,false,0⟩])) .fail))
theorem Mc1 {α β:Type} (F:α→β) (kk:Ka4→α) (x:Ka3):F (na7 kk x)=na7 (fun r=>F (kk r)) x:=by unfold na7;(repeat' apply n7 (f:=F))<;>rfl
noncomputable def Hb4:Sum:=Ua6 ⟨[(.agg [(.o (.int .i64)),(.o (.int .i64)),(.o (.int .i64))]),(.s (.c 4 (nL tP))),(.fn 100077 [(.o (.int .i64)),(.o (.int .i64)),(.o (.int .i64))])],[],fun a H=>(⟨(toI (slT (cellsOf (slT a 0)) 0)),(toI (slT (cellsOf (slT a 0)) 1)),(toI (slT (cellsOf (slT a 0)) 2)),(rL tP (slT a 1)),(toI (slT (cellsOf (slT a 2)) 0)),(toI (slT (cellsOf (slT a 2)) 1)),(toI (slT (cellsOf (slT a 2)) 2))⟩,())⟩ (fun x=>Ya9 x (gb0 x))
theorem Cc2:g8 prog G 74 Hb4:=P8 (enc:=fun x=>⟨[(.agg [(i x.da0),(i x.da1),(i x.da2)]),(eL tP x.Ma3),(.fn 100077 [(i x.Fa7),(i x.Fa8),(i x.Fa9)])],[]⟩) (fun a H=>by kernel_rfl) (bd b74 oc8) fun x=>Qa3 (.s .p (.s .p (.s .p (.s (.s .p (.b (.u Oa8.ls))) .p)))) [Oa8.pr] (by kernel_rfl) (.cons ec1 .nil) (Eq.trans (b:=na7 (fun r=>(Ya9 x r).run) x) (by kernel_rfl) (Mc1 (fun r=>(Ya9 x r).run) (fun r=>r) x).symm)
noncomputable def Mc2:List (Nat×Sum):=[(74,Hb4)]
theorem Cc3:j7 prog G Mc2:=⟨Cc2,trivial⟩
noncomputable def Ea5 (x:List Pln) (y:V3):Option (b7×List b9):=let t1:=(gb0 ⟨y.x,y.y,y.z,(rt tP x),y.x,y.y,y.z⟩);(sl ((cnE tP x)&&true) (sl (Nat.beq t1.alt 1) (some ((.tup [(.v (.slice none 0 0)),(b t1.bs1)]),[])) (sl (Nat.beq t1.alt 2) (some ((.tup [(.sl 0 0 t1.ns0 0),(b true)]),[⟨73,4,t1.eh0,true,false,0⟩])) none)) none)
noncomputable def Ea6 (x:List Pln) (y:V3):List Pln×Bool:=Y8 (two (r1L tP) r1B) (Ea5 x y)
noncomputable def Ea7 (x:List Pln) (y:V3):Bool:=okO (two (r1L tP) r1B) (Ea5 x y)
noncomputable def Tb5:Sum:=pa4 (Ba0 tP) (R7 tV) (fun x y=>.guard (Ea7 x y) (.ret ((two (r1L tP) r1B).enc (Ea6 x y),[])))
theorem Mc3:g8 prog G 21 Tb5:=ub6 (bd b21 Cc3) (two (r1L tP) r1B) (o:=Ea5) fun x y=>A4 (by kernel_rfl)
end Go.Ev.Ce
end
namespace Go.Ev.Ce
open Go Go.Ev Go.Ev.L Go.Proofs
noncomputable def rm (p:Pln) (x:Pt):Int:=W (p.b*x.pw - (p.n.x*x.px+p.n.y*x.py+p.n.z*x.pz))
structure Bd (p:Pln):Prop where
 x1:-4608≤p.n.x
 x2:p.n.x≤4608
 y1:-4608≤p.n.y
 y2:p.n.y≤4608
 z1:-4608≤p.n.z
 z2:p.n.z≤4608
 b1:-2097152≤p.b
 b2:p.b≤2097152
def mv (p q r:Pln):V3 :=
 ⟨(d8 q.n r.n).x*p.b+(d8 r.n p.n).x*q.b+(d8 p.n q.n).x*r.b,
  (d8 q.n r.n).y*p.b+(d8 r.n p.n).y*q.b+(d8 p.n q.n).y*r.b,
  (d8 q.n r.n).z*p.b+(d8 r.n p.n).z*q.b+(d8 p.n q.n).z*r.b⟩
def gc (v:V3) (w:Int):Int:=(Nat.gcd (Nat.gcd v.x.natAbs v.y.natAbs) (Nat.gcd v.z.natAbs w.natAbs):Nat)
def mpt (p q r:Pln):Pt×Bool :=
 if mw p q r=0 then (⟨0,0,0,0⟩,false)
 else if mw p q r < 0 then (⟨Int.tdiv (-(mv p q r).x) (gc (mv p q r) (mw p q r)),Int.tdiv (-(mv p q r).y) (gc (mv p q r) (mw p q r)),Int.tdiv (-(mv p q r).z) (gc (mv p q r) (mw p q r)),Int.tdiv (-(mw p q r)) (gc (mv p q r) (mw p q r))⟩,true)
 else (⟨Int.tdiv (mv p q r).x (gc (mv p q r) (mw p q r)),Int.tdiv (mv p q r).y (gc (mv p q r) (mw p q r)),Int.tdiv (mv p q r).z (gc (mv p q r) (mw p q r)),Int.tdiv (mw p q r) (gc (mv p q r) (mw p q r))⟩,true)
def Sm (n:Int) (x:Int):Prop:=-n≤x∧x≤n
theorem xb7 {a b:V3} (ha:Sm 4608 a.x∧Sm 4608 a.y∧Sm 4608 a.z) (hb:Sm 4608 b.x∧Sm 4608 b.y∧Sm 4608 b.z):Sm 42467328 (d8 a b).x∧Sm 42467328 (d8 a b).y∧Sm 42467328 (d8 a b).z:=by
 obtain⟨⟨a1,a2⟩,⟨a3,a4⟩,a5,a6⟩:=ha
 obtain⟨⟨b1,b2⟩,⟨b3,b4⟩,b5,b6⟩:=hb
 have h1:=mb a3 a4 b5 b6;have h2:=mb a5 a6 b3 b4;have h3:=mb a5 a6 b1 b2;have h4:=mb a1 a2 b5 b6;have h5:=mb a1 a2 b3 b4;have h6:=mb a3 a4 b1 b2
 unfold Sm d8
 simp only
 omega
theorem Bd.n {p:Pln} (h:Bd p):Sm 4608 p.n.x∧Sm 4608 p.n.y∧Sm 4608 p.n.z:=⟨⟨h.x1,h.x2⟩,⟨h.y1,h.y2⟩,h.z1,h.z2⟩
theorem Se2 {p q r:Pln} (hp:Bd p) (hq:Bd q) (hr:Bd r):Sm 600000000000 (mw p q r):=by
 obtain⟨⟨c1,c2⟩,⟨c3,c4⟩,c5,c6⟩:=xb7 hq.n hr.n
 have h1:=mb hp.x1 hp.x2 c1 c2;have h2:=mb hp.y1 hp.y2 c3 c4;have h3:=mb hp.z1 hp.z2 c5 c6
 unfold Sm mw dot
 omega
theorem Se3 {p q r:Pln} (hp:Bd p) (hq:Bd q) (hr:Bd r):Sm 300000000000000 (mv p q r).x∧Sm 300000000000000 (mv p q r).y∧Sm 300000000000000 (mv p q r).z:=by
 obtain⟨⟨c1,c2⟩,⟨c3,c4⟩,c5,c6⟩:=xb7 hq.n hr.n
 obtain⟨⟨d1,d2⟩,⟨d3,d4⟩,d5,d6⟩:=xb7 hr.n hp.n
 obtain⟨⟨e1,e2⟩,⟨e3,e4⟩,e5,e6⟩:=xb7 hp.n hq.n
 have a1:=mb c1 c2 hp.b1 hp.b2;have a2:=mb c3 c4 hp.b1 hp.b2;have a3:=mb c5 c6 hp.b1 hp.b2
 have b1:=mb d1 d2 hq.b1 hq.b2;have b2:=mb d3 d4 hq.b1 hq.b2;have b3:=mb d5 d6 hq.b1 hq.b2
 have f1:=mb e1 e2 hr.b1 hr.b2;have f2:=mb e3 e4 hr.b1 hr.b2;have f3:=mb e5 e6 hr.b1 hr.b2
 unfold Sm mv
 simp only
 omega
theorem se2 (a b:V3):aa6 a b=⟨W (d8 a b).x,W (d8 a b).y,W (d8 a b).z⟩:=by
 unfold aa6 d8
 simp only[zd1,Zd7]
theorem se3 (a b:V3):La3 a b=⟨W (d8 a b).x,W (d8 a b).y,W (d8 a b).z⟩:=by
 unfold La3 d8
 simp only[zd1,Zd7]
theorem zd2 {v:V3} {w:Int} (h:w≠0):0 < gc v w:=by
 unfold gc
 have:0 < Nat.gcd v.z.natAbs w.natAbs:=Nat.gcd_pos_of_pos_right _ (by omega)
 have:=Nat.gcd_pos_of_pos_right (Nat.gcd v.x.natAbs v.y.natAbs) this
 omega
theorem Se4 {v:V3} {w:Int} (h:w≠0):gc v w≤w.natAbs:=by
 unfold gc
 have h1:Nat.gcd v.z.natAbs w.natAbs≤w.natAbs:=Nat.gcd_le_right _ (by omega)
 have h2:0 < Nat.gcd v.z.natAbs w.natAbs:=Nat.gcd_pos_of_pos_right _ (by omega)
 have h3:=Nat.gcd_le_right (m:=Nat.gcd v.x.natAbs v.y.natAbs) (n:=Nat.gcd v.z.natAbs w.natAbs) h2
 omega
theorem Tb6 {x:Int} (h:Sm 1000000000000000000 x):W x=x:=U5 (by have:=h.1;omega) (by have:=h.2;omega)
theorem Sm.mono {n m x:Int} (h:Sm n x) (hn:n≤m):Sm m x:=⟨by have:=h.1;omega,by have:=h.2;omega⟩
theorem ga3 {n x g:Int} (h:Sm n x) (hg:0 < g):Sm n (Int.tdiv x g):=by
 have h1:(Int.tdiv x g).natAbs≤x.natAbs:=by rw[Int.natAbs_tdiv];exact Nat.div_le_self _ _
 have:=h.1;have:=h.2
 constructor<;>omega
theorem zd3 {p q r:Pln} (hp:Bd p) (hq:Bd q) (hr:Bd r) (h:(mpt p q r).2=true):0 < (mpt p q r).1.pw∧Sm 300000000000000 (mpt p q r).1.px∧Sm 300000000000000 (mpt p q r).1.py∧Sm 300000000000000 (mpt p q r).1.pz∧(mpt p q r).1.pw≤600000000000:=by
 have hw:=Se2 hp hq hr
 obtain⟨v1,v2,v3⟩:=Se3 hp hq hr
 have neg:∀ {n x:Int},Sm n x→Sm n (-x):=fun h=>⟨by have:=h.2;omega,by have:=h.1;omega⟩
 have pos:∀ {x:Int},0 < x→x.natAbs=(mw p q r).natAbs→0 < Int.tdiv x (gc (mv p q r) (mw p q r)):=fun {x} hx he=>by
  have h0:mw p q r≠0:=by omega
  have h1:=zd2 (v:=mv p q r) h0
  have h2:=Se4 (v:=mv p q r) h0
  rw[Int.tdiv_eq_ediv_of_nonneg (by omega)]
  exact Int.ediv_pos_of_pos_of_dvd hx (by omega) (by
   rw[← Int.dvd_natAbs,he]
   exact Int.natCast_dvd_natCast.2 (Nat.dvd_trans (Nat.gcd_dvd_right _ _) (Nat.gcd_dvd_right _ _)))
 unfold mpt at h ⊢
 by_cases h0:mw p q r=0
 ·rw[if_pos h0] at h;cases h
 ·rw[if_neg h0]
  have hg:=zd2 (v:=mv p q r) h0
  by_cases h1:mw p q r < 0
  ·rw[if_pos h1]
   exact⟨pos (by omega) (by omega),ga3 (neg v1) hg,ga3 (neg v2) hg,ga3 (neg v3) hg,(ga3 (neg hw) hg).2⟩
  ·rw[if_neg h1]
   exact⟨pos (by omega) rfl,ga3 v1 hg,ga3 v2 hg,ga3 v3 hg,(ga3 hw hg).2⟩
end Go.Ev.Ce
namespace Go.Ev.Ce
open Go Go.Ev Go.Ev.L Go.Proofs
noncomputable def inn (l:List Pln) (x:Pt):Bool:=l.all fun p=>!decide (rm p x < 0)
def eqX (x q:Pt):Bool:=q.px==x.px&&(q.py==x.py&&(q.pz==x.pz&&(q.pw==x.pw&&true)))
theorem Fd4 (x q:Pt):eqX x q=true↔q=x:=by
 unfold eqX
 simp only[Bool.and_true,Bool.and_eq_true,beq_iff_eq]
 exact⟨fun⟨h1,h2,h3,h4⟩=>by cases q;cases x;simp_all,fun h=>by subst h;exact⟨rfl,rfl,rfl,rfl⟩⟩
def se4 (l:List Pt) (x:Pt):Bool:=l.any (eqX x)
theorem ae1 (l:List Pt) (x:Pt):se4 l x=true↔x∈l:=by
 unfold se4
 rw[List.any_eq_true]
 exact⟨fun⟨q,h,e⟩=>(Fd4 x q).1 e ▸ h,fun h=>⟨x,h,(Fd4 x x).2 rfl⟩⟩
def smb (n x:Int):Bool:=!decide (x < -n)&&!decide (x > n)
theorem cb8 (n x:Int):smb n x=true↔Sm n x:=by unfold smb Sm;simp only[Bool.and_eq_true,Bool.not_eq_true',decide_eq_false_iff_not];omega
theorem Cc4 (n:Int) (l:List Int) (hn:0≤n∧n≤1000000000) (hl:l.length≤1000000000):pa9 n l=some (b (l.all (smb n)),[]):=by
 have hW:W (0 - n)=-n:=by rw[U5 (by omega) (by omega)];omega
 have h:=Lb6 (step:=fa1 ⟨n,l,(l.length:Int)⟩) (mk:=fun j=>(⟨(j:Int)⟩:I0)) (c:=fun x=>!smb n x) (u:=1) (fin:=2) tI l hl
  (fun j hj=>by
   simp only[fa1,ca0,Int.toNat_natCast,w8 hj (by omega),hW]
   rw[bt (Bc0 hj),bt (i4 hj)]
   unfold smb
   cases decide (gL tI l j < -n)<;>cases decide (gL tI l j > n)<;>rfl)
  (by simp only[fa1,ca0];rw[bf (Sb2 (Nat.lt_irrefl _))]) 0 (Nat.zero_le _)
 rw[List.drop_zero] at h
 unfold pa9
 simp only[p5,j9]
 rw[show (⟨0⟩:I0)=⟨((0:Nat):Int)⟩ from rfl,h]
 have e:(l.any fun x=>!smb n x)=!l.all (smb n):=by rw[List.not_all_eq_any_not]
 rw[e]
 cases l.all (smb n)<;>rfl
theorem jb5 (n:Int) (l:List Int) (hn:0≤n∧n≤1000000000) (hl:l.length≤1000000000):K2 n l=l.all (smb n):=by unfold K2;rw[Cc4 n l hn hl];rfl
theorem jb6 (n:Int) (l:List Int) (hn:0≤n∧n≤1000000000) (hl:l.length≤1000000000):K3 n l=true:=by unfold K3;rw[Cc4 n l hn hl];rfl
theorem cb9 {n:Int} (h:Sm 1000000000000000000 n):R8 n=(n.natAbs:Int):=by
 unfold R8
 obtain⟨h1,h2⟩:=h
 rw[U5 (by omega) (by omega)]
 split<;>omega
theorem Tb7 {n:Int} (h:Sm 1000000000000000000 n):pa7 n=some (i (n.natAbs:Int),[]):=by
 unfold pa7
 obtain⟨h1,h2⟩:=h
 rw[U5 (by omega) (by omega)]
 by_cases h:n < 0
 ·rw[bt (decide_eq_true h)];congr 3;omega
 ·rw[bf (decide_eq_false h)];congr 3;omega
theorem xb8 {n:Int} (h:Sm 1000000000000000000 n):ja1 n=(n.natAbs:Int):=by unfold ja1;rw[Tb7 h];rfl
theorem xb9 {n:Int} (h:Sm 1000000000000000000 n):ja2 n=true:=by unfold ja2;rw[Tb7 h];rfl
def g3 (v:V3):Int:=(Nat.gcd (Nat.gcd v.x.natAbs v.y.natAbs) v.z.natAbs:Nat)
theorem ae2 (g n:Nat):eu (g:Int) (n:Int)=(Nat.gcd g n:Nat):=by rw[He0 (by omega) (by omega)];rfl
theorem Mc4 (P:V6) (g n:Nat) (hn:n≤1000000000000000000):lp (R9 P) ⟨(g:Int),(n:Int)⟩=(1,⟨(Nat.gcd g n:Nat),0⟩):=by
 have:=ic5 (step:=R9 P) (mk:=fun g n=>(⟨g,n⟩:J7)) (fun g n h=>by
  have h0:n≠0:=by omega
  simp[R9,Y9,Kb1,h,h0]) (fun g=>by simp[R9,Y9,Kb1]) (g:Int) (n:Int) (by omega) (by omega) (by omega)
 rw[this,ae2]
theorem Cc5 (l:List Int) (hl:l.length≤1000000000) (hb:∀ x∈l,Sm 1000000000000000000 x):la3 l=some (i (l.foldl (fun g x=>Nat.gcd g x.natAbs) 0:Nat),[]):=by
 have h := re9 (step := ca1 ⟨(l.length : Int)⟩) (mk := fun j (a : Nat) => (⟨(a : Int), l, (j : Int)⟩ : D8)) (f := fun g x => Nat.gcd g x.natAbs) (fin := 2) tI l (fun _ _ => True) hl (fun j a hj _ => ⟨by
   have hm:=hb _ (fb3 tI hj)
   have hne:(gL tI l j==(-9223372036854775808:Int))=false:=by
    have:=hm.1
    rw[beq_eq_false_iff_ne];omega
   have hs:(gL tI l j).natAbs≤1000000000000000000:=by obtain⟨h1,h2⟩:=hm;omega
   simp only[ca1,Z0,Int.toNat_natCast,p5,j9,cb9 hm,Mc4 _ _ _ hs,w8 hj (by omega)]
   rw[bt (Bc0 hj),bt (i4 hj),bf hne]
   rfl,trivial⟩) (fun a _=>by simp only[ca1,Z0];rw[bf (Sb2 (Nat.lt_irrefl _))]) 0 (Nat.zero_le _) 0 trivial
 have h:=h.1
 rw[List.drop_zero] at h
 unfold la3
 simp only[p5,j9]
 rw[show (⟨0,l,0⟩:D8)=⟨((0:Nat):Int),l,((0:Nat):Int)⟩ from rfl,h]
 rfl
def okp (p:Pln):Bool:=[p.n.x,p.n.y,p.n.z].all (smb 4608)&&(g3 p.n==1&&[p.b].all (smb 2097152))
theorem He7 (p:Pln):Bd p↔[p.n.x,p.n.y,p.n.z].all (smb 4608)=true∧[p.b].all (smb 2097152)=true:=by
 simp only[List.all_cons,List.all_nil,Bool.and_true,Bool.and_eq_true,cb8,Sm]
 exact⟨fun h=>⟨⟨⟨h.x1,h.x2⟩,⟨h.y1,h.y2⟩,h.z1,h.z2⟩,h.b1,h.b2⟩,fun⟨⟨⟨a,b⟩,⟨c,d⟩,e,f⟩,g,h⟩=>⟨a,b,c,d,e,f,g,h⟩⟩
theorem ob0 {p:Pln} (h:okp p=true):Bd p:=by
 unfold okp at h
 rw[Bool.and_eq_true,Bool.and_eq_true] at h
 exact (He7 p).2 ⟨h.1,h.2.2⟩
theorem sm3 {v:V3} (h:[v.x,v.y,v.z].all (smb 4608)=true):Sm 4608 v.x∧Sm 4608 v.y∧Sm 4608 v.z:=by
 simpa only[List.all_cons,List.all_nil,Bool.and_true,Bool.and_eq_true,cb8] using h
theorem nd8 (p:Pln):va2 p=some (b (okp p),[]):=by
 unfold va2 okp
 have l3:[p.n.x,p.n.y,p.n.z].length≤1000000000:=by simp
 have l1:[p.b].length≤1000000000:=by simp
 simp only[jb5 4608 _ (by omega) l3,jb6 4608 _ (by omega) l3,jb5 2097152 _ (by omega) l1,jb6 2097152 _ (by omega) l1]
 cases hw:[p.n.x,p.n.y,p.n.z].all (smb 4608) with
 | false=>rfl
 | true =>
  obtain⟨h1,h2,h3⟩:=sm3 hw
  have hd:=Cc5 [p.n.x,p.n.y,p.n.z] l3 (by
   intro x hx
   simp only[List.mem_cons,List.not_mem_nil,or_false] at hx
   rcases hx with rfl | rfl | rfl
   ·exact h1.mono (by omega)
   ·exact h2.mono (by omega)
   ·exact h3.mono (by omega))
  have hg:([p.n.x,p.n.y,p.n.z].foldl (fun g x=>Nat.gcd g x.natAbs) 0:Nat)=Nat.gcd (Nat.gcd p.n.x.natAbs p.n.y.natAbs) p.n.z.natAbs:=by
   simp only[List.foldl_cons,List.foldl_nil,Nat.gcd_zero_left]
  have hp:Y1 [p.n.x,p.n.y,p.n.z]=g3 p.n:=by unfold Y1;rw[hd,hg];rfl
  have hgd:Y2 [p.n.x,p.n.y,p.n.z]=true:=by unfold Y2;rw[hd];rfl
  rw[hp,hgd]
  cases g3 p.n==1<;>rfl
theorem Fd5 (p:Pln):va3 p=okp p:=by unfold va3;rw[nd8 p];rfl
theorem Fd6 (p:Pln):va4 p=true:=by unfold va4;rw[nd8 p];rfl
theorem ec2 (P:fa0) (g n:Nat) (hn:n≤1000000000000000000):lp (aa5 P) ⟨(g:Int),(n:Int)⟩=(1,⟨(Nat.gcd g n:Nat),0⟩):=by
 have:=ic5 (step:=aa5 P) (mk:=fun g n=>(⟨g,n⟩:M8)) (fun g n h=>by
  have h0:n≠0:=by omega
  simp[aa5,pa8,Kb1,h,h0]) (fun g=>by simp[aa5,pa8,Kb1]) (g:Int) (n:Int) (by omega) (by omega) (by omega)
 rw[this,ae2]
theorem ad9 {v : V3} (h1 : Sm 1000000000000000000 v.x) (h2 : Sm 1000000000000000000 v.y) (h3 : Sm 1000000000000000000 v.z) :
  Va2 v=if g3 v=0 then some (.tup [.agg (tV.row ⟨0,0,0⟩),i 0],[]) else some (.tup [.agg (tV.row ⟨W (Int.tdiv v.x (g3 v)),W (Int.tdiv v.y (g3 v)),W (Int.tdiv v.z (g3 v))⟩),i (g3 v)],[]):=by
 have ne:∀ {x:Int},Sm 1000000000000000000 x→(x==(-9223372036854775808:Int))=false:=fun {x} h=>by
  have:=h.1
  rw[beq_eq_false_iff_ne];omega
 have bd:∀ {x:Int},Sm 1000000000000000000 x→x.natAbs≤1000000000000000000:=fun {x} h=>by obtain⟨h1,h2⟩:=h;omega
 have l1:=ec2 ⟨0,v.x,v.y,v.z,v.x,v.y,v.z⟩ 0 v.x.natAbs (bd h1)
 rw[Nat.gcd_zero_left] at l1
 have l2:=ec2 ⟨1,v.x,v.y,v.z,v.x,v.y,v.z⟩ v.x.natAbs v.y.natAbs (bd h2)
 have l3:=ec2 ⟨2,v.x,v.y,v.z,v.x,v.y,v.z⟩ (Nat.gcd v.x.natAbs v.y.natAbs) v.z.natAbs (bd h3)
 unfold Va2
 simp only[xb8 h1,xb8 h2,xb8 h3,xb9 h1,xb9 h2,xb9 h3]
 rw[show (⟨0,(v.x.natAbs:Int)⟩:M8)=⟨((0:Nat):Int),(v.x.natAbs:Int)⟩ from rfl]
 simp only[l1,l2,l3,ne h1,ne h2,ne h3]
 rw[show ((Nat.gcd (Nat.gcd v.x.natAbs v.y.natAbs) v.z.natAbs:Nat):Int)=g3 v from rfl]
 by_cases h:g3 v=0
 ·rw[if_pos h,show (g3 v==0)=true from by rw[h];rfl];rfl
 ·rw[if_neg h,show (g3 v==0)=false from by rw[beq_eq_false_iff_ne];exact h];rfl
theorem Cc6 {v:V3} (h1:Sm 1000000000000000000 v.x) (h2:Sm 1000000000000000000 v.y) (h3:Sm 1000000000000000000 v.z):(za5 v).2=g3 v:=by
 unfold za5
 rw[ad9 h1 h2 h3]
 split
 ·rename_i h;rw[h];rfl
 ·rfl
theorem He8 {v:V3} (h1:Sm 1000000000000000000 v.x) (h2:Sm 1000000000000000000 v.y) (h3:Sm 1000000000000000000 v.z) (h:g3 v≠0):za5 v=(⟨W (Int.tdiv v.x (g3 v)),W (Int.tdiv v.y (g3 v)),W (Int.tdiv v.z (g3 v))⟩,g3 v):=by
 unfold za5
 rw[ad9 h1 h2 h3,if_neg h]
 rfl
theorem ae3 {v:V3} (h1:Sm 1000000000000000000 v.x) (h2:Sm 1000000000000000000 v.y) (h3:Sm 1000000000000000000 v.z):Va3 v=true:=by
 unfold Va3
 rw[ad9 h1 h2 h3]
 split<;>rfl
theorem Sc5 (p:Pln):La4 p=some (b (okp p),[]):=by
 unfold La4 okp
 cases hw:[p.n.x,p.n.y,p.n.z].all (smb 4608) with
 | false =>
  simp only[List.all_cons,List.all_nil,Bool.and_true,smb] at hw
  cases h1:decide (p.n.x < -4608)<;>cases h2:decide (p.n.x > 4608)<;>cases h3:decide (p.n.y < -4608)<;>cases h4:decide (p.n.y > 4608)<;>cases h5:decide (p.n.z < -4608)<;>cases h6:decide (p.n.z > 4608)<;>simp only[h1,h2,h3,h4,h5,h6] at hw ⊢<;>first | rfl | cases hw
 | true =>
  obtain⟨h1,h2,h3⟩:=sm3 hw
  rw[bf (decide_eq_false (by have:=h1.1;omega)),bf (decide_eq_false (by have:=h1.2;omega)),bf (decide_eq_false (by have:=h2.1;omega)),bf (decide_eq_false (by have:=h2.2;omega)),bf (decide_eq_false (by have:=h3.1;omega)),bf (decide_eq_false (by have:=h3.2;omega))]
  have k1:=h1.mono (m:=1000000000000000000) (by omega)
  have k2:=h2.mono (m:=1000000000000000000) (by omega)
  have k3:=h3.mono (m:=1000000000000000000) (by omega)
  rw[bt (ae3 k1 k2 k3),Cc6 k1 k2 k3]
  cases g3 p.n==1 with
  | false=>rfl
  | true =>
   simp only[List.all_cons,List.all_nil,Bool.and_true,smb,Bool.true_and]
   rw[y9]
   by_cases ha:p.b < -2097152
   ·rw[bf (decide_eq_false (by omega)),show decide (p.b < -2097152)=true from decide_eq_true ha];rfl
   ·rw[bt (decide_eq_true (by omega)),show decide (p.b < -2097152)=false from decide_eq_false ha]
    congr 3
    by_cases hc:p.b≤2097152
    ·rw[decide_eq_true hc,decide_eq_false (by omega)];rfl
    ·rw[decide_eq_false hc,decide_eq_true (by omega)];rfl
theorem ae4 (p:Pln):bb9 p=okp p:=by unfold bb9;rw[Sc5 p];rfl
theorem nd9 (p:Pln):cb0 p=true:=by unfold cb0;rw[Sc5 p];rfl
def chk (l:List Pln):Int:=if (l.length:Int) > 48 then 2 else if l.all okp then 0 else 12
theorem od0 {l:List Pln}:chk l=0↔l.length≤48∧∀ p∈l,okp p=true:=by
 unfold chk
 by_cases hn:(l.length:Int) > 48
 ·rw[if_pos hn]
  exact⟨fun h=>absurd h (by decide),fun h=>by omega⟩
 ·rw[if_neg hn]
  cases h:l.all okp with
  | true=>exact⟨fun _=>⟨by omega,List.all_eq_true.1 h⟩,fun _=>rfl⟩
  | false=>exact⟨fun h=>absurd h (by decide),fun h'=>by rw[List.all_eq_true.2 h'.2] at h;cases h⟩
end Go.Ev.Ce
namespace Go.Ev.Ce
open Go Go.Ev Go.Ev.L Go.Proofs
theorem btD {p:Prop} {inst:Decidable p} (h:p) {α:Type} (t e:α):sl (@decide p inst) t e=t:=bt (decide_eq_true h) t e
theorem bfD {p:Prop} {inst:Decidable p} (h:¬ p) {α:Type} (t e:α):sl (@decide p inst) t e=e:=bf (decide_eq_false h) t e
theorem k8 {j n:Nat} (h:j < n):(j:Int) < (n:Int):=Int.ofNat_lt.2 h
theorem o8 {j n:Nat} (h:¬ j < n):¬ (j:Int) < (n:Int):=fun h'=>h (Int.ofNat_lt.1 h')
noncomputable def Tb8 (r:List Pln) (p q:Pln) (out:List Pt) (s:Pln):List Pt :=
 if (mpt p q s).2&&(!se4 out (mpt p q s).1&&inn r (mpt p q s).1) then out++[(mpt p q s).1] else out
noncomputable def Nd2 (r:List Pln) (p q:Pln) (l:List Pln) (out:List Pt):List Pt:=l.foldl (Tb8 r p q) out
noncomputable def od1 (r:List Pln) (p:Pln):List Pln→List Pt→List Pt
 | [],out=>out
 | q::l,out=>od1 r p l (Nd2 r p q l out)
noncomputable def zd4 (r:List Pln):List Pln→List Pt→List Pt
 | [],out=>out
 | p::l,out=>zd4 r l (od1 r p l out)
noncomputable def cor (r:List Pln):List Pt:=zd4 r r []
def Bds (r:List Pln):Prop:=∀ p∈r,Bd p
noncomputable def ph (out:List Pt):Nat:=match out with
 | []=>0
 | _::_=>1
theorem Fd7 {α:Type} (t:Ty α) (l:List α) (n k:Nat):gL t (l.drop n) k=gL t l (n+k):=by simp[gL,List.getD_eq_getElem?_getD,List.getElem?_drop]
theorem jb7 {ρ:Type} (R:RR ρ) {x:b7×List b9} {r:ρ} (h:R.rd x=some r):Y8 R (some x)=r:=by
 show Option.rec (motive:=fun _=>ρ) R.d (fun x=>x) (R.rd x)=r
 rw[h]
theorem yb0 {ρ:Type} (R:RR ρ) {x:b7×List b9} {r:ρ} (h:R.rd x=some r):okO R (some x)=true:=by
 show Option.rec (motive:=fun _=>Bool) false (fun _=>true) (R.rd x)=true
 rw[h]
@[reducible] noncomputable def flK:List (Nat×CK):=[(0,(.int .i64)),(1,(.int .i64)),(2,(.int .i64)),(3,(.int .i64))]
structure C2 (P:ib0) (r:List Pln) (p q:Pln) (lo:Nat):Prop where
 ns:P.df4=(r.drop lo).length
 gs:P.df5=fun k=>tP.row (gL tP r (lo+k))
 is:P.df6=((r.drop lo).length:Int)
 p1:(⟨⟨P.s6,P.s7,P.s8⟩,P.Wb6⟩:Pln)=p
 q1:(⟨⟨P.ia4,P.ia5,P.ia6⟩,P.ze1⟩:Pln)=q
 r1:P.Qd0=r
theorem He9 (s:Pln):((Nat.ble 4 (len (tP.row s)))&&(ba7 [(CK.int .i64),(CK.int .i64),(CK.int .i64),(CK.int .i64)] (tP.row s)))=true:=rfl
structure C1 (P:ib1) (r:List Pln) (p:Pln) (a:Nat):Prop where
 i3:P.is3=(a:Int)
 ns:P.Ue4=(r.drop (a+1)).length
 gs:P.Ue5=fun k=>tP.row (gL tP r (a+1+k))
 is:P.Le6=((r.drop (a+1)).length:Int)
 p1:(⟨⟨P.s6,P.s7,P.s8⟩,P.Wb6⟩:Pln)=p
end Go.Ev.Ce
namespace Go.Ev.Ce
open Go Go.Ev Go.Ev.L Go.Proofs
theorem Se5 {α:Type} (t:Ty α) (l:List α):(one (r1L t)).rd (eL t l,[])=some l:=by
 show Bool.rec (motive:=fun _=>Option (List α)) none (some (rt t l)) (Bool.and (Nat.beq t.es t.es) (okE t l))=_
 rw[p5,Ua4,Nat.beq_refl]
 rfl
noncomputable def ws:List Pln:=[⟨⟨1,0,0⟩,24⟩,⟨⟨-1,0,0⟩,24⟩,⟨⟨0,1,0⟩,24⟩,⟨⟨0,-1,0⟩,24⟩,⟨⟨0,0,1⟩,24⟩,⟨⟨0,0,-1⟩,24⟩]
theorem Se6:Bds ws:=by
 intro p hp
 have:okp p=true:=by
  have h:ws.all okp=true:=by decide
  exact List.all_eq_true.1 h p hp
 exact ob0 this
noncomputable def oc9 (t:Nat) (d:List Pln):List (List b7):=app (bL tP d) (List.replicate (t - d.length) bf9)
noncomputable def pos (X:List Pt) (p:Pln):Bool:=X.any fun x=>decide (rm p x > 0)
noncomputable def se5 (r:List Pln):Bool:=r.all (pos (cor r))
theorem se6 {c:List Pln} (h:(chk c==0)=true):Bds (c++ws)∧(c++ws).length≤200:=by
 rw[beq_iff_eq,od0] at h
 refine⟨fun p hp=>?_,by rw[List.length_append,show ws.length=6 from rfl];omega⟩
 rcases List.mem_append.1 hp with hp | hp
 ·exact ob0 (h.2 p hp)
 ·exact Se6 p hp
noncomputable def pts (c:List Pln):List Pt:=if chk c==0 then cor (c++ws) else []
noncomputable def ful (c:List Pln):Bool:=(chk c==0)&&se5 (c++ws)
end Go.Ev.Ce
namespace Go.Ev.Ce
open Go Go.Ev Go.Ev.L Go.Proofs
theorem od2 {Q:Pt→Prop} (r:List Pln) (p q:Pln):∀ (l:List Pln) (out:List Pt),(∀ s∈l,(mpt p q s).2=true→inn r (mpt p q s).1=true→Q (mpt p q s).1)→(∀ x∈out,Q x)→∀ x∈Nd2 r p q l out,Q x
 | [],out,_,h=>h
 | s::l,out,hs,h=>od2 r p q l (Tb8 r p q out s) (fun t ht=>hs t (List.mem_cons_of_mem _ ht)) fun x hx=>by
  unfold Tb8 at hx
  split at hx
  ·rename_i hc
   rw[Bool.and_eq_true,Bool.and_eq_true] at hc
   rcases List.mem_append.1 hx with hx | hx
   ·exact h x hx
   ·rw[List.mem_singleton] at hx
    subst hx
    exact hs s List.mem_cons_self hc.1 hc.2.2
  ·exact h x hx
theorem od3 {Q:Pt→Prop} (r:List Pln) (p:Pln):∀ (l:List Pln) (out:List Pt),(∀ q∈l,∀ s∈l,(mpt p q s).2=true→inn r (mpt p q s).1=true→Q (mpt p q s).1)→(∀ x∈out,Q x)→∀ x∈od1 r p l out,Q x
 | [],out,_,h=>h
 | q::l,out,hs,h=>od3 r p l _ (fun a ha t ht=>hs a (List.mem_cons_of_mem _ ha) t (List.mem_cons_of_mem _ ht)) (od2 r p q l out (fun t ht=>hs q List.mem_cons_self t (List.mem_cons_of_mem _ ht)) h)
theorem od4 {Q:Pt→Prop} (r:List Pln):∀ (l:List Pln) (out:List Pt),(∀ p∈l,∀ q∈l,∀ s∈l,(mpt p q s).2=true→inn r (mpt p q s).1=true→Q (mpt p q s).1)→(∀ x∈out,Q x)→∀ x∈zd4 r l out,Q x
 | [],out,_,h=>h
 | p::l,out,hs,h=>od4 r l _ (fun a ha c hc t ht=>hs a (List.mem_cons_of_mem _ ha) c (List.mem_cons_of_mem _ hc) t (List.mem_cons_of_mem _ ht)) (od3 r p l out (fun c hc t ht=>hs p List.mem_cons_self c (List.mem_cons_of_mem _ hc) t (List.mem_cons_of_mem _ ht)) h)
theorem Fd8 {Q:Pt→Prop} {r:List Pln} (hs:∀ p∈r,∀ q∈r,∀ s∈r,(mpt p q s).2=true→inn r (mpt p q s).1=true→Q (mpt p q s).1):∀ x∈cor r,Q x :=
 od4 r r [] hs fun x hx=>by cases hx
structure Okx (x:Pt):Prop where
 w1:0 < x.pw
 w2:x.pw≤600000000000
 c1:Sm 300000000000000 x.px
 c2:Sm 300000000000000 x.py
 c3:Sm 300000000000000 x.pz
theorem bd0 {r:List Pln} (hb:Bds r):∀ x∈cor r,Okx x:=Fd8 fun p hp q hq s hs h _=>by
 obtain⟨h1,h2,h3,h4,h5⟩:=zd3 (hb p hp) (hb q hq) (hb s hs) h
 exact⟨h1,h5,h2,h3,h4⟩
theorem od5 {x y:Int} (hy:0 < y):Int.tmod x y+y*Int.tdiv x y=x∧-y < Int.tmod x y∧Int.tmod x y < y:=by
 refine⟨Int.tmod_add_mul_tdiv x y,?_,Int.tmod_lt_of_pos x hy⟩
 have:=Int.lt_tmod_of_pos x hy
 omega
theorem ae5 (x:Int) {y:Int} (hy:0 < y) (hy2:y≤4000000000000000000):hb9 x y=some (i (x % y),[]):=by
 have hz:(y==0)=false:=by rw[beq_eq_false_iff_ne];omega
 obtain⟨h1,h2,h3⟩:=od5 (x:=x) hy
 unfold hb9
 rw[bfD (by omega),bf hz,bf hz,U5 (by omega) (by omega),Int.tmod_eq_emod_of_nonneg (by omega)]
 congr 3
 rw[Int.add_emod_right]
 conv=>rhs;rw[← h1]
 rw[Int.add_mul_emod_self_left]
theorem Se7 (x:Int) {y:Int} (hy:0 < y) (hy2:y≤4000000000000000000):Cb2 x y=x % y:=by unfold Cb2;rw[ae5 x hy hy2];rfl
theorem Se8 (x:Int) {y:Int} (hy:0 < y) (hy2:y≤4000000000000000000):Cb3 x y=true:=by unfold Cb3;rw[ae5 x hy hy2];rfl
theorem Sm.neg {n x:Int} (h:Sm n x):Sm n (-x):=⟨by have:=h.2;omega,by have:=h.1;omega⟩
theorem ae6 (x:Pln):(x.n.x==x.n.x&&(x.n.y==x.n.y&&(x.n.z==x.n.z&&(x.b==x.b&&true))))=true:=by simp
theorem Fd9 (l:List Pln) (hl:l.length≤1000000000):Wa0 l l=some (b true,[]):=by
 have h:=Lb6 (step:=va7 ⟨l,l⟩) (mk:=fun j=>(⟨(j:Int)⟩:Z8)) (c:=fun _=>false) (u:=1) (fin:=2) tP l hl
  (fun j hj=>by
   simp only[va7,qa0,Int.toNat_natCast,w8 hj (by omega),ae6]
   rw[btD (k8 hj),bt (i4 hj),bt (i4 hj)]
   rfl)
  (by simp only[va7,qa0];rw[bfD (o8 (Nat.lt_irrefl _))]) 0 (Nat.zero_le _)
 rw[List.drop_zero,show (l.any fun _=>false)=false by simp] at h
 unfold Wa0
 simp only[p5,j9]
 rw[show (⟨0⟩:Z8)=⟨((0:Nat):Int)⟩ from rfl,h,bf (by simp)]
 rfl
theorem ae7 (l:List Pln) (hl:l.length≤1000000000):Wa1 l l=true:=by unfold Wa1;rw[Fd9 l hl];rfl
theorem ae8 (l:List Pln) (hl:l.length≤1000000000):Wa2 l l=true:=by unfold Wa2;rw[Fd9 l hl];rfl
end Go.Ev.Ce
namespace Go.Ev.Ce
open Go Go.Ev Go.Ev.L Go.Proofs
def Nx {σ:Type} (x:Stp σ) (E:Nat→Prop) (N:σ→Prop):Prop:=(∃ t,x=.exit t∧E t)∨∃ s,x=.next s∧N s
theorem Nx.sl {σ:Type} {c:Bool} {t e:Stp σ} {E:Nat→Prop} {N:σ→Prop} (h1:c=true→Nx t E N) (h2:c=false→Nx e E N):Nx (sl c t e) E N:=by cases c;exact h2 rfl;exact h1 rfl
theorem Nx.ex {σ:Type} {t:Nat} {E:Nat→Prop} {N:σ→Prop} (h:E t):Nx (.exit t) E N:=.inl ⟨t,rfl,h⟩
theorem Nx.nx {σ:Type} {s:σ} {E:Nat→Prop} {N:σ→Prop} (h:N s):Nx (.next s) E N:=.inr ⟨s,rfl,h⟩
theorem Q3 {σ τ : Type} {step : σ → Stp σ} {mk : Nat → τ → σ} (n : Nat) (I : Nat → τ → Prop) (E : Nat → σ → Prop) (hn : n ≤ 1000000000)
  (h:∀ j a,j < n→I j a→Nx (step (mk j a)) (fun t=>E t (mk j a)) (fun s=>∃ a',s=mk (j+1) a'∧I (j+1) a'))
  (hf:∀ j a,n≤j→I j a→∃ t,step (mk j a)=.exit t∧E t (mk j a)) (j0:Nat) (a:τ) (hi:I j0 a):∃ t s,lp step (mk j0 a)=(t,s)∧E t s:=by
 have key:=bc3 (step:=step) (I:=fun m s=>∃ j a,m=n - j∧s=mk j a∧I j a) (Q:=E) (fun m s ⟨j,a,hm,hs,ha⟩=>by
  subst hs
  by_cases hlt:j < n
  ·rcases h j a hlt ha with h1 | ⟨s',h1,a',h2,h3⟩
   ·exact .inl h1
   ·subst h2
    exact .inr ⟨_,n - (j+1),by omega,h1,j+1,a',rfl,rfl,h3⟩
  ·exact .inl (hf j a (by omega) ha)) (n - j0) (mk j0 a) (by omega) ⟨j0,a,rfl,rfl,hi⟩
 exact⟨_,_,rfl,key⟩
def Rd {ρ:Type} (R:RR ρ) (o:Option (b7×List b9)) (P:ρ→Prop):Prop:=∃ x r,o=some x∧R.rd x=some r∧P r
theorem Rd.p {ρ:Type} {R:RR ρ} {o:Option (b7×List b9)} {P:ρ→Prop} (h:Rd R o P):P (Y8 R o):=by
 obtain⟨x,r,h1,h2,h3⟩:=h
 rw[h1,jb7 R h2]
 exact h3
theorem Rd.g {ρ:Type} {R:RR ρ} {o:Option (b7×List b9)} {P:ρ→Prop} (h:Rd R o P):okO R o=true:=by
 obtain⟨x,r,h1,h2,h3⟩:=h
 rw[h1]
 exact yb0 R h2
theorem Rd.sl {ρ:Type} {R:RR ρ} {c:Bool} {t e:Option (b7×List b9)} {P:ρ→Prop} (h1:c=true→Rd R t P) (h2:c=false→Rd R e P):Rd R (sl c t e) P:=by cases c;exact h2 rfl;exact h1 rfl
theorem Ka5 (n : Int) (l : List Int) (j : Int) (h1 : 0 ≤ j) (h2 : j ≤ 1000000) (hn : 0 < n) (hn2 : n ≤ 1000000) :
  ∃ v j',A2 ⟨n,l,j⟩=⟨1,v,j'⟩∧0≤v∧v < n∧j≤j'∧j'≤j+1:=by
 unfold A2 ea3
 simp only
 by_cases h:j≥(l.length:Int)
 ·rw[btD h]
  exact⟨0,j,rfl,by omega,hn,by omega,by omega⟩
 ·rw[bfD h]
  have hW:W (W (j+1) - 1)=j:=by rw[zd1,U5 (by omega) (by omega)];omega
  have hW2:W (j+1)=j+1:=U5 (by omega) (by omega)
  have hin:inB j l.length=true:=by rw[re7];exact decide_eq_true (by omega)
  rw[hW,hW2,hin,Se8 _ hn (by omega),Se7 _ hn (by omega)]
  exact⟨_,_,rfl,Int.emod_nonneg _ (by omega),Int.emod_lt_of_pos _ hn,by omega,by omega⟩
def inV (v:V3):Bool:=smb 24 v.x&&(smb 24 v.y&&smb 24 v.z)
theorem Ea8 (v:V3):inV v=true↔Sm 24 v.x∧Sm 24 v.y∧Sm 24 v.z:=by unfold inV;rw[Bool.and_eq_true,Bool.and_eq_true,cb8,cb8,cb8]
theorem ae9 (v:V3):wb2 v=some (b (inV v),[]):=by
 unfold wb2 inV smb
 cases h1:decide (v.x < -24)<;>cases h2:decide (v.x > 24)<;>cases h3:decide (v.y < -24)<;>cases h4:decide (v.y > 24)<;>cases h5:decide (v.z < -24)<;>cases h6:decide (v.z > 24)<;>rfl
theorem Be3 (v:V3):Va6 v=inV v:=by unfold Va6;rw[ae9];rfl
theorem be0 (v:V3):Va7 v=true:=by unfold Va7;rw[ae9];rfl
def sub (a b:V3):V3:=⟨a.x - b.x,a.y - b.y,a.z - b.z⟩
theorem Gd0 {a b:V3} (ha:inV a=true) (hb:inV b=true):Ha2 a b=sub a b∧Sm 48 (sub a b).x∧Sm 48 (sub a b).y∧Sm 48 (sub a b).z:=by
 rw[Ea8] at ha hb
 obtain⟨⟨a1,a2⟩,⟨a3,a4⟩,a5,a6⟩:=ha
 obtain⟨⟨b1,b2⟩,⟨b3,b4⟩,b5,b6⟩:=hb
 unfold Ha2 sub
 rw[U5 (by omega) (by omega),U5 (by omega) (by omega),U5 (by omega) (by omega)]
 exact⟨rfl,⟨by show _≤a.x - b.x;omega,by show a.x - b.x≤_;omega⟩,⟨by show _≤a.y - b.y;omega,by show a.y - b.y≤_;omega⟩,⟨by show _≤a.z - b.z;omega,by show a.z - b.z≤_;omega⟩⟩
theorem gb1 {a b c : V3} (ha : inV a = true) (hb : inV b = true) (hc : inV c = true) :
  La3 (Ha2 b a) (Ha2 c a)=d8 (sub b a) (sub c a)∧Sm 4608 (d8 (sub b a) (sub c a)).x∧Sm 4608 (d8 (sub b a) (sub c a)).y∧Sm 4608 (d8 (sub b a) (sub c a)).z:=by
 obtain⟨e1,⟨u1,u2⟩,⟨u3,u4⟩,u5,u6⟩:=Gd0 hb ha
 obtain⟨e2,⟨v1,v2⟩,⟨v3,v4⟩,v5,v6⟩:=Gd0 hc ha
 rw[e1,e2,se3]
 generalize sub b a=p at *
 generalize sub c a=q at *
 have h1:=mb u3 u4 v5 v6;have h2:=mb u5 u6 v3 v4;have h3:=mb u5 u6 v1 v2;have h4:=mb u1 u2 v5 v6;have h5:=mb u1 u2 v3 v4;have h6:=mb u3 u4 v1 v2
 have k:Sm 4608 (d8 p q).x∧Sm 4608 (d8 p q).y∧Sm 4608 (d8 p q).z:=by unfold Sm d8;simp only;omega
 obtain⟨k1,k2,k3⟩:=k
 rw[Tb6 (k1.mono (by omega)),Tb6 (k2.mono (by omega)),Tb6 (k3.mono (by omega))]
 exact⟨rfl,k1,k2,k3⟩
def C9 (a b c:V3):Pln×Bool :=
 if inV a&&(inV b&&inV c) then
  if g3 (d8 (sub b a) (sub c a))=0 then (⟨⟨0,0,0⟩,0⟩,false)
  else (⟨⟨Int.tdiv (d8 (sub b a) (sub c a)).x (g3 (d8 (sub b a) (sub c a))),Int.tdiv (d8 (sub b a) (sub c a)).y (g3 (d8 (sub b a) (sub c a))),Int.tdiv (d8 (sub b a) (sub c a)).z (g3 (d8 (sub b a) (sub c a)))⟩,
   dot ⟨Int.tdiv (d8 (sub b a) (sub c a)).x (g3 (d8 (sub b a) (sub c a))),Int.tdiv (d8 (sub b a) (sub c a)).y (g3 (d8 (sub b a) (sub c a))),Int.tdiv (d8 (sub b a) (sub c a)).z (g3 (d8 (sub b a) (sub c a)))⟩ a⟩,true)
 else (⟨⟨0,0,0⟩,0⟩,false)
theorem Cb6 (v:V3):0≤g3 v:=by unfold g3;omega
theorem Cc7 (a c d:V3):va6 a c d=some (.tup [.agg (tP.row (C9 a c d).1),b (C9 a c d).2],[]):=by
 unfold va6 C9
 simp only[Be3,be0]
 cases ha:inV a with
 | false=>rfl
 | true =>
  cases hc:inV c with
  | false=>rfl
  | true =>
   cases hd:inV d with
   | false=>rfl
   | true =>
    obtain⟨e,k1,k2,k3⟩:=gb1 ha hc hd
    rw[e]
    generalize d8 (sub c a) (sub d a)=n at *
    have m1:=k1.mono (m:=1000000000000000000) (by omega)
    have m2:=k2.mono (m:=1000000000000000000) (by omega)
    have m3:=k3.mono (m:=1000000000000000000) (by omega)
    rw[ae3 m1 m2 m3,Cc6 m1 m2 m3]
    by_cases h0:g3 n=0
    ·rw[show (g3 n==0)=true from by rw[h0];rfl]
     simp only[Bool.and_self,if_true,h0]
     rfl
    ·have hp:=Cb6 n
     have q1:=ga3 (g:=g3 n) k1 (by omega)
     have q2:=ga3 (g:=g3 n) k2 (by omega)
     have q3:=ga3 (g:=g3 n) k3 (by omega)
     rw[show (g3 n==0)=false from by rw[beq_eq_false_iff_ne];exact h0,He8 m1 m2 m3 h0]
     simp only[Bool.and_self,if_true,h0,if_false]
     rw[Tb6 (q1.mono (by omega)),Tb6 (q2.mono (by omega)),Tb6 (q3.mono (by omega))]
     have hdot:Ga6 ⟨Int.tdiv n.x (g3 n),Int.tdiv n.y (g3 n),Int.tdiv n.z (g3 n)⟩ a=dot ⟨Int.tdiv n.x (g3 n),Int.tdiv n.y (g3 n),Int.tdiv n.z (g3 n)⟩ a:=by
      unfold Ga6
      simp only[bc2,Ac9]
      obtain⟨⟨a1,a2⟩,⟨a3,a4⟩,a5,a6⟩:=(Ea8 a).1 ha
      have r1:=mb q1.1 q1.2 a1 a2;have r2:=mb q2.1 q2.2 a3 a4;have r3:=mb q3.1 q3.2 a5 a6
      rw[U5 (by omega) (by omega)]
      rfl
     rw[hdot]
     rfl
theorem Nd3 (a b c:V3):Ja2 a b c=C9 a b c:=by unfold Ja2;rw[Cc7];rfl
theorem Sc6 (a b c:V3):Ja3 a b c=true:=by unfold Ja3;rw[Cc7];rfl
theorem se7 (p:Pln) (v:V3):Rd (one r1I) (za6 p v) (fun _=>True):=by
 unfold za6
 simp only[nd9,be0,y9]
 exact Rd.sl (fun _=>⟨_,_,rfl,rfl,trivial⟩) fun _=>Rd.sl (fun _=>⟨_,_,rfl,rfl,trivial⟩) fun _=>Rd.sl (fun _=>⟨_,_,rfl,rfl,trivial⟩) fun _=>Rd.sl (fun _=>⟨_,_,rfl,rfl,trivial⟩) fun _=>⟨_,_,rfl,rfl,trivial⟩
theorem be1 (p:Pln) (v:V3):Lb3 p v=true:=(se7 p v).g
theorem Se9 (P:ka2) (hl:P.f7.length≤1000000000):∃ t s,lp (y8 P) ⟨0⟩=(t,s)∧(t=1∨t=2∨t=3):=by
 obtain⟨l,x1,x2,x3,x4,x5,x6,x7,x8⟩:=P
 refine Q3 (step:=y8 ⟨l,x1,x2,x3,x4,x5,x6,x7,x8⟩) (mk:=fun j (_:Unit)=>(⟨(j:Int)⟩:Z4)) l.length (fun _ _=>True) (fun t _=>t=1∨t=2∨t=3) hl (fun j a hj _=>?_) (fun j a hj _=>?_) 0 () trivial
 ·simp only[y8,U2,be1,Int.toNat_natCast,w8 hj (show l.length≤4611686018427387904 from Nat.le_trans hl (by omega))]
  rw[btD (k8 hj),bt (i4 hj),y9]
  exact Nx.sl (fun _=>Nx.sl (fun _=>.ex (by simp)) fun _=>.nx ⟨(),rfl,trivial⟩) fun _=>.ex (by simp)
 ·simp only[y8,U2]
  rw[bfD (by omega)]
  exact⟨_,rfl,by simp⟩
theorem Te0 (l:List V3) (hl:l.length≤1000000000) (a c:Nat) (ha:a < l.length) (hc:c < a):∃ t s,lp (M5 ⟨(a:Int),(c:Int)⟩) ⟨l,0⟩=(t,s)∧((t=1∨t=2)∧s.f7=l):=by
 refine Q3 (step:=M5 ⟨(a:Int),(c:Int)⟩) (mk:=fun j (_:Unit)=>(⟨l,(j:Int)⟩:Z5)) c (fun _ _=>True) (fun t s=>(t=1∨t=2)∧s.f7=l) (by omega) (fun j x hj _=>?_) (fun j x hj _=>?_) 0 () trivial
 ·simp only[M5,ca2,Sc6,Int.toNat_natCast,p5,j9,w8 hj (show c≤4611686018427387904 by omega)]
  rw[btD (k8 hj),bt (i4 ha),bt (i4 (show c < l.length by omega)),bt (i4 (show j < l.length by omega)),y9]
  generalize hP:ka2.mk _ _ _ _ _ _ _ _ _=P3
  obtain⟨t,s,h1,h2⟩:=Se9 P3 (by subst hP;exact hl)
  rw[h1]
  rcases h2 with rfl | rfl | rfl
  ·exact .ex (by simp)
  ·exact .nx ⟨(),rfl,trivial⟩
  ·exact .nx ⟨(),rfl,trivial⟩
 ·simp only[M5,ca2]
  rw[bfD (by omega)]
  exact⟨_,rfl,by simp⟩
theorem Te1 (l:List V3) (hl:l.length≤1000000000) (a:Nat) (ha:a < l.length):∃ t s,lp (M6 ⟨(a:Int)⟩) ⟨l,0⟩=(t,s)∧((t=1∨t=2)∧s.f7=l):=by
 refine Q3 (step:=M6 ⟨(a:Int)⟩) (mk:=fun j (_:Unit)=>(⟨l,(j:Int)⟩:Z6)) a (fun _ _=>True) (fun t s=>(t=1∨t=2)∧s.f7=l) (by omega) (fun j x hj _=>?_) (fun j x hj _=>?_) 0 () trivial
 ·simp only[M6,ca3,p5,j9,w8 hj (show a≤4611686018427387904 by omega)]
  obtain⟨t,s,h1,h2,h3⟩:=Te0 l hl a j ha hj
  rw[btD (k8 hj),h1]
  rcases h2 with rfl | rfl
  ·exact .ex (by simp)
  ·exact .nx ⟨(),by rw[h3],trivial⟩
 ·simp only[M6,ca3]
  rw[bfD (by omega)]
  exact⟨_,rfl,by simp⟩
theorem bb3 (l:List V3) (hl:l.length≤1000000000):Rd (one r1B) (za7 l) (fun _=>True):=by
 have key:∃ t s,lp (M7 ⟨⟩) ⟨l,0⟩=(t,s)∧(t=1∨t=2):=by
  refine Q3 (step:=M7 ⟨⟩) (mk:=fun j (_:Unit)=>(⟨l,(j:Int)⟩:Z7)) l.length (fun _ _=>True) (fun t s=>(t=1∨t=2)) hl (fun j x hj _=>?_) (fun j x hj _=>?_) 0 () trivial
  ·simp only[M7,ca4,p5,j9,w8 hj (show l.length≤4611686018427387904 by omega)]
   obtain⟨t,s,h1,h2,h3⟩:=Te1 l hl j hj
   rw[btD (k8 hj),h1]
   rcases h2 with rfl | rfl
   ·exact .ex (by simp)
   ·exact .nx ⟨(),by rw[h3],trivial⟩
  ·simp only[M7,ca4]
   rw[bfD (by omega)]
   exact⟨_,rfl,by simp⟩
 obtain⟨t,s,h1,h2⟩:=key
 unfold za7
 simp only[p5,j9]
 rw[h1]
 rcases h2 with rfl | rfl<;>exact⟨_,_,rfl,rfl,trivial⟩
theorem be2 (l:List V3) (hl:l.length≤1000000000):Ha3 l=true:=(bb3 l hl).g
end Go.Ev.Ce
namespace Go.Ev.Ce
open Go Go.Ev Go.Ev.L Go.Proofs
structure Fc (ph:Nat) (out:List Pln) (m:Nat):Prop where
 h:(ph=0∧out=[])∨ph=1
 l:out.length≤m
theorem Fc.more {ph m m':Nat} {out:List Pln} (h:Fc ph out m) (hm:m≤m'):Fc ph out m':=⟨h.h,Nat.le_trans h.l hm⟩
def phV (out:List V3):Nat:=match out with
 | []=>0
 | _::_=>1
theorem bd1 (out:List V3) (x:V3):phV (out++[x])=1:=by cases out<;>rfl
theorem Tb9 (l:List V3) (x1 x2 x3:Int):app (bL tV l) [[i x1,i x2,i x3]]=bL tV (l++[⟨x1,x2,x3⟩]):=Ma9 tV l [⟨x1,x2,x3⟩]
theorem se8 {l:List V3} {m:Nat} (h:m < l.length):(((Nat.blt (0+m) (len (bL tV l)))&&(Nat.ble (0+3) (len (i6 (bL tV l) (0+m)))))&&(ba7 [(CK.int .i64),(CK.int .i64),(CK.int .i64)] (f9 (i6 (bL tV l) (0+m)) 0)))=true:=by
 rw[Nat.zero_add,R6 tV h,ua1,show Nat.blt m l.length=true from by rw[Nat.blt_eq];exact h]
 rfl
theorem Be4 {l:List V3} {m:Nat} (h:m < l.length):(((Nat.blt (0+m) (len (bL tV l)))&&(Nat.ble (2+1) (len (i6 (bL tV l) (0+m)))))&&(ba7 [(CK.int .i64)] (f9 (i6 (bL tV l) (0+m)) 2)))=true:=by
 rw[Nat.zero_add,R6 tV h,ua1,show Nat.blt m l.length=true from by rw[Nat.blt_eq];exact h]
 rfl
theorem od6 {n:Nat} {l:List V3} (hn:l.length=n) (h:n≤1000000000):(Nat.beq n (len (bL tV l))&&Nat.ble ((n+1)*24) room)=true:=by
 subst hn
 rw[ua1,Nat.beq_refl,Bool.true_and,Nat.ble_eq]
 unfold room
 omega
theorem se9 (x : List Int) (N : Nat) (h4 : 4 ≤ N) (h8 : N ≤ 8) (j0 : Int) (hj0 : 0 ≤ j0 ∧ j0 ≤ 10) :
  ∃ idx out,lp (ea4 ⟨(N:Int)⟩) ⟨0,0,x,j0,0,[]⟩=(2,⟨1,(N:Int),x,idx,N,bL tV out⟩)∧out.length=N:=by
 have key:=Q3 (step:=ea4 ⟨(N:Int)⟩) (mk:=fun j (a:Int×List V3)=>(⟨phV a.2,(j:Int),x,a.1,a.2.length,bL tV a.2⟩:p6)) N
  (fun j a=>a.2.length=j∧0≤a.1∧a.1≤10+4*j∧j≤N) (fun t s=>t=2∧∃ idx out,s=⟨1,(N:Int),x,idx,N,bL tV out⟩∧out.length=N) (by omega) (fun j a hj ha=>?_) (fun j a hj ha=>?_) 0 (j0,[]) ⟨rfl,hj0.1,by omega,by omega⟩
 ·obtain⟨t,s,e1,rfl,idx,out,e2,e3⟩:=key
  exact⟨idx,out,by rw[← e2];exact e1,e3⟩
 ·obtain⟨at0,out⟩:=a
  obtain⟨ho,ha1,ha2,_⟩:=ha
  simp only at ho ha1 ha2
  have hn:=w8 hj (show N≤4611686018427387904 by omega)
  obtain⟨v1,j1,d1,_,_,c1,b1⟩:=Ka5 17 x at0 ha1 (by omega) (by omega) (by omega)
  obtain⟨v2,j2,d2,_,_,c2,b2⟩:=Ka5 17 x j1 (by omega) (by omega) (by omega) (by omega)
  obtain⟨v3,j3,d3,_,_,c3,b3⟩:=Ka5 17 x j2 (by omega) (by omega) (by omega) (by omega)
  obtain⟨v4,j4,d4,_,_,c4,b4⟩:=Ka5 6 x j3 (by omega) (by omega) (by omega) (by omega)
  have leaf : ∀ (E : Nat → Prop) (x1 x2 x3 : Int), Nx (.next (⟨1, ((j + 1 : Nat) : Int), x, j4, j + 1, bL tV (out ++ [⟨x1, x2, x3⟩])⟩ : p6)) E
    (fun s=>∃ a':Int×List V3,s=⟨phV a'.2,((j+1:Nat):Int),x,a'.1,a'.2.length,bL tV a'.2⟩∧a'.2.length=j+1∧0≤a'.1∧a'.1≤10+4*((j+1:Nat):Int)∧j+1≤N):=fun E x1 x2 x3=>by
   have hl:(out++[(⟨x1,x2,x3⟩:V3)]).length=j+1:=by simp[ho]
   exact .nx ⟨(j4,out++[⟨x1,x2,x3⟩]),by simp only[bd1,hl],hl,by show 0≤j4;omega,by show j4≤_;omega,by omega⟩
  cases out with
  | nil =>
   have hj0':j=0:=by simpa using ho.symm
   subst hj0'
   show Nx (S1 Stp.next Stp.exit Stp.fail _ _) _ _
   simp only[S1,p5,j9,d1,d2,d3,d4,hn]
   rw[btD (k8 hj)]
   have f1:decide (((0:Nat):Int) > 1)=false:=rfl
   have f2:decide (((0:Nat):Int) > 0)=false:=rfl
   have f3:decide (((0:Nat):Int) > 2)=false:=rfl
   have lf:∀ (E:Nat→Prop) (x1 x2 x3:Int),Nx (.next (⟨1,((0+1:Nat):Int),x,j4,1,[[i x1,i x2,i x3]]⟩:p6)) E _:=leaf
   simp only[f1,f2,f3,Ua3,Nat.beq_refl,Bool.and_true,y9]
   refine Nx.sl (fun _=>?_) (fun _=>?_)<;>refine Nx.sl (fun _=>?_) (fun _=>?_)
   all_goals first
    | exact lf _ _ _ _
    | (refine Nx.sl (fun _=>?_) (fun _=>?_)<;>exact lf _ _ _ _)
  | cons o os =>
   have h1:1≤j:=by simp only[List.length_cons] at ho;omega
   generalize hO:o::os=O at *
   have hph:phV O=1:=by subst hO;rfl
   have w1:W ((j:Int) - 1)=((j - 1:Nat):Int):=by rw[U5 (by omega) (by omega)];omega
   have i1:inB ((j - 1:Nat):Int) j=true:=i4 (by omega)
   have r1:=se8 (l:=O) (m:=j - 1) (by omega)
   have r1':=Be4 (l:=O) (m:=j - 1) (by omega)
   have rr:=od6 ho (by omega)
   have f2:∀ {inst:Decidable ((j:Int) > 0)},@decide ((j:Int) > 0) inst=true:=decide_eq_true (by omega)
   show Nx (sel (Nat.beq (phV O) 1) (o9 Stp.next Stp.exit Stp.fail _ _) _) _ _
   rw[hph]
   show Nx (o9 Stp.next Stp.exit Stp.fail _ _) _ _
   by_cases h2:2≤j
   ·have w2:W ((j:Int) - 2)=((j - 2:Nat):Int):=by rw[U5 (by omega) (by omega)];omega
    have i2:inB ((j - 2:Nat):Int) j=true:=i4 (by omega)
    have r2:=se8 (l:=O) (m:=j - 2) (by omega)
    simp only[o9,p5,j9,d1,d2,d3,d4,hn,ho,w1,w2,i1,i2,Int.toNat_natCast,r1,r1',r2,rr,Tb9]
    rw[btD (k8 hj)]
    simp only[Nat.beq_refl,Bool.and_true,y9]
    repeat' (first | exact leaf _ _ _ _ | refine Nx.sl (fun _=>?_) (fun _=>?_))
   ·have hj1:j=1:=by omega
    subst hj1
    simp only[o9,p5,j9,d1,d2,d3,d4,hn,ho,w1,i1,Int.toNat_natCast,r1,r1',rr,Tb9]
    have f1:decide (((1:Nat):Int) > 1)=false:=rfl
    rw[btD (k8 hj)]
    simp only[f1,Ua3,Nat.beq_refl,Bool.and_true,y9]
    repeat' (first | exact leaf _ _ _ _ | refine Nx.sl (fun _=>?_) (fun _=>?_))
 ·obtain⟨at0,out⟩:=a
  obtain⟨ho,ha1,ha2,hjN⟩:=ha
  simp only at ho ha1 ha2
  have hj':j=N:=by omega
  subst hj'
  cases out with
  | nil=>simp only[List.length_nil] at ho;omega
  | cons o os =>
   refine⟨2,?_,rfl,at0,o::os,by rw[ho];rfl,ho⟩
   show o9 Stp.next Stp.exit Stp.fail _ _=_
   simp only[o9]
   rw[bfD (by omega)]
theorem bd2 {l:List V3} {n:Nat} {r:List (List b7)} {P:List V3→Prop} (hn:n=l.length) (hr:r=bL tV l) (h:P l):Rd (one (r1L tV)) (some (.sl 0 0 n 0,[⟨27,3,r,true,false,0⟩])) P:=by
 subst hn hr
 refine⟨_,l,rfl,?_,h⟩
 show Bool.rec (motive:=fun _=>Option (List V3)) none (some (slR tV (bL tV l) 0 l.length)) (Bool.and true (okS tV (bL tV l) 0 l.length))=_
 rw[ub5,Kb2]
 rfl
theorem Sc7 (x:List Int):Rd (one (r1L tV)) (ka3 x) (fun r=>4≤r.length∧r.length≤8):=by
 obtain⟨v,j,e1,a1,b1,c1,d1⟩:=Ka5 5 x 0 (by omega) (by omega) (by omega) (by omega)
 have hN:W (4+v)=(((4+v).toNat:Nat):Int):=by rw[U5 (by omega) (by omega)];omega
 obtain⟨idx,out,e2,e3⟩:=se9 x (4+v).toNat (by omega) (by omega) j (by omega)
 unfold ka3
 simp only[p5,j9,e1,hN,e2]
 have h4:4≤(4+v).toNat:=by omega
 have h8:(4+v).toNat≤8:=by omega
 generalize (4+v).toNat=N at *
 have s1:lsL tV N (fun k=>i6 (bL tV out) (0+k))=out:=by rw[← e3];exact ub5 tV out
 have s2:okL tV N (fun k=>i6 (bL tV out) (0+k))=true:=by rw[← e3];exact Kb2 tV out
 have gf:Ha3 out=true:=be2 out (by omega)
 rw[s1,s2,gf]
 simp only[Nat.beq_refl,Bool.and_true,y9,show Nat.beq 2 1=false from rfl,Ua3]
 refine Rd.sl (fun _=>?_) fun _=>bd2 e3.symm rfl ⟨by omega,by omega⟩
 have i0:inB 0 N=true:=i4 (j:=0) (by omega)
 have i1:inB 1 N=true:=i4 (j:=1) (by omega)
 have i2:inB 2 N=true:=i4 (j:=2) (by omega)
 have i3:inB 3 N=true:=i4 (j:=3) (by omega)
 have sp:∀ (v:V3) (x1 x2 x3:Int),P6 (tV.row v) 0 [i x1,i x2,i x3]=tV.row ⟨x1,x2,x3⟩:=fun _ _ _ _=>rfl
 have rl:∀ v:V3,Nat.ble (0+3) (len (tV.row v))=true:=fun _=>rfl
 have ck:∀ v:V3,ba7 [(CK.int .i64),(CK.int .i64),(CK.int .i64)] (f9 (tV.row v) 0)=true:=fun _=>rfl
 have gr:∀ (l:List V3) (k:Nat),l.length=N→k < 4→i6 (bL tV l) k=tV.row (gL tV l k):=fun l k hl hk=>R6 tV (by omega)
 have bl:∀ (l:List V3) (k:Nat),l.length=N→k < 4→Nat.blt k (len (bL tV l))=true:=fun l k hl hk=>by rw[ua1,Nat.blt_eq];omega
 have ls:∀ (l:List V3) (k:Nat) (v:V3),l.length=N→(l.set k v).length=N:=fun l k v hl=>by rw[List.length_set];exact hl
 rw[gr out 0 e3 (by omega),gr out 1 e3 (by omega)]
 simp only[sp,La2]
 rw[gr _ 2 (ls out 1 _ e3) (by omega)]
 simp only[sp,La2]
 rw[gr _ 3 (ls _ 2 _ (ls out 1 _ e3)) (by omega)]
 simp only[sp,La2,rl,ck,i0,i1,i2,i3,bl out 0 e3 (by omega),bl out 1 e3 (by omega),bl _ 2 (ls out 1 _ e3) (by omega),bl _ 3 (ls _ 2 _ (ls out 1 _ e3)) (by omega),Bool.and_true,y9]
 exact bd2 (by simp only[List.length_set];omega) rfl (by simp only[List.length_set];omega)
theorem be3 (x:List Int):Qa5 x=true:=(Sc7 x).g
theorem Cc8 (x:List Int):4≤(f8 x).length∧(f8 x).length≤8:=(Sc7 x).p
end Go.Ev.Ce
namespace Go.Ev.Ce
open Go Go.Ev Go.Ev.L Go.Proofs
theorem yb1 (v:V3):ka0 v=inV v∧ka1 v=true:=by
 have h3:[v.x,v.y,v.z].length≤1000000000:=by simp
 have:Va4 v=some (b (inV v),[]):=by
  unfold Va4 inV
  simp only[jb5 24 _ (by omega) h3,jb6 24 _ (by omega) h3,y9]
  simp only[List.all_cons,List.all_nil,Bool.and_true]
 unfold ka0 ka1
 rw[this]
 exact⟨rfl,rfl⟩
noncomputable def has (c:List Pln) (v:V3):Bool:=(chk c==0)&&(inV v&&inn c ⟨v.x,v.y,v.z,1⟩)
noncomputable def apart (a c:List Pln):Bool:=!((chk a==0)&&(chk c==0))||!se5 (a++c++ws)
noncomputable def cf4 (a c:List Pln):Bool:=ful a&&((chk c==0)&&(pts a).all (inn c))
end Go.Ev.Ce
namespace Go.Ev.Ce
open Go Go.Ev Go.Ev.L Go.Proofs
noncomputable def onc (X:List Pt) (p:Pln):Nat:=X.countP fun x=>rm p x==0
noncomputable def keep (X:List Pt) (p:Pln):Bool:=!decide ((onc X p:Int) < 3)
theorem Ub0 {α:Type} (c:α→Bool):∀ l:List α,(l.take (l.findIdx c)).filter (fun x=>!c x)=l.take (l.findIdx c)
 | []=>rfl
 | x::l=>by
  rw[List.findIdx_cons]
  cases h:c x with
  | true=>rfl
  | false =>
   simp only[cond_false,List.take_succ_cons,List.filter_cons,h,Bool.not_false,if_true]
   rw[Ub0 c l]
theorem zd5 {α:Type} (l:List α) (j:Nat) (h:j < l.length):l.take (j+1)=l.take j++[l[j]]:=by rw[List.take_succ_eq_append_getElem h]
theorem Ea9 {α:Type} (t:Ty α) {l:List α} {j:Nat} (h:j < l.length):l.take (j+1)=l.take j++[gL t l j]:=by rw[zd5 l j h,pb6 t h]
theorem ec3 {α:Type} (t:Ty α) {l r:List α} {j:Nat} (h:l.drop j=r.drop j):gL t l j=gL t r j:=by
 have h1:=Fd7 t l j 0
 have h2:=Fd7 t r j 0
 rw[Nat.add_zero] at h1 h2
 rw[← h1,← h2,h]
theorem Ub1 {α:Type} {l r:List α} {j:Nat} (h:l.drop j=r.drop j) (k:Nat):l.drop (j+k)=r.drop (j+k):=by rw[← List.drop_drop,← List.drop_drop,h]
structure Del (l:List Pln) (f:Pln→Bool) (cur:List Pln) (m j:Nat):Prop where
 len:cur.length=l.length
 t:cur.take m=(l.take j).filter f
 d:cur.drop j=l.drop j
 le:m≤j
 lm:m≤l.length
theorem te0 (l:List Pln) (n:Nat):f9 (bL tP l) n=bL tP (l.drop n):=by unfold bL;rw[F7,o1,o1,List.map_drop]
def eqP (x y:Pln):Bool:=x.n.x==y.n.x&&(x.n.y==y.n.y&&(x.n.z==y.n.z&&(x.b==y.b&&true)))
theorem Ub2 (x y:Pln):eqP x y=true↔x=y:=by
 unfold eqP
 simp only[Bool.and_true,Bool.and_eq_true,beq_iff_eq]
 refine⟨fun⟨h1,h2,h3,h4⟩=>?_,fun h=>by subst h;exact⟨rfl,rfl,rfl,rfl⟩⟩
 obtain⟨⟨x1,x2,x3⟩,x4⟩:=x
 obtain⟨⟨y1,y2,y3⟩,y4⟩:=y
 simp only at h1 h2 h3 h4
 subst h1 h2 h3 h4
 rfl
def ddF:Pln→List Pln→List Pln
 | _,[]=>[]
 | a,x::l=>if eqP x a then ddF x l else x::ddF x l
def dd:List Pln→List Pln
 | []=>[]
 | x::l=>x::ddF x l
structure Cmp (l:List Pln) (n:Nat) (cur:List Pln) (m j:Nat) (R:List Pln):Prop where
 len:cur.length=l.length
 t:cur.take m++ddF (gL tP l (j - 1)) ((l.take n).drop j)=R
 d:cur.drop (j - 1)=l.drop (j - 1)
 le:m+1≤j
theorem be4 (l:List Pln) (n:Nat) (hn:n≤l.length):slR tP (bL tP l) 0 n=l.take n:=wc6 tP (by rw[List.length_take];omega) fun k hk=>by
 rw[Nat.zero_add,R6 tP (by omega)]
 congr 1
 simp[gL,List.getD_eq_getElem?_getD,List.getElem?_take,hk]
theorem be5 (l:List Pln) (n:Nat) (hn:n≤l.length):okS tP (bL tP l) 0 n=true:=mb3 tP (f:=fun k=>gL tP l k) fun k hk=>by rw[Nat.zero_add,R6 tP (by omega)]
end Go.Ev.Ce
namespace Go.Ev.Ce
open Go Go.Ev Go.Ev.L Go.Proofs Go.Sort
theorem Cc9 (l:List Pln):List.Perm (Fb9 l) l:=List.mergeSort_perm l _
theorem Nd4 (x y z:Pln) (h1:(!ltOf eb5 y x)=true) (h2:(!ltOf eb5 z y)=true):(!ltOf eb5 z x)=true:=by
 simp only[Bool.not_eq_true',Ha0,decide_eq_false_iff_not] at *
 unfold LtP at *
 omega
theorem Nd5 (x y:Pln):((!ltOf eb5 y x)||!ltOf eb5 x y)=true:=by
 simp only[Bool.or_eq_true,Bool.not_eq_true',Ha0,decide_eq_false_iff_not]
 unfold LtP
 omega
theorem bd3 (l:List Pln):(Fb9 l).Pairwise fun x y=>(!ltOf eb5 y x)=true:=List.pairwise_mergeSort Nd4 Nd5 l
instance:DecidableEq Pln:=fun x y=>decidable_of_iff _ (Ub2 x y)
def PC:List Pt:=[⟨0,0,0,1⟩,⟨0,0,1,4⟩,⟨0,1,0,3⟩,⟨1,0,0,2⟩]
end Go.Ev.Ce
section
namespace Go.Ev.Ce
open Go Go.Ev Go.Ev.L Go.Proofs
set_option maxRecDepth 100000
structure Eb3 where
structure yb2 where
structure yb3 where
structure Eb4 where
 alt:Nat
structure ec4 where
structure Ub3 where
structure Ub4 where
structure ec5 where
 alt:Nat
structure Mc5 where
structure Mc6 where
 alt:Nat
structure Hc6 where
 ba6:List Pt
structure sc3 where
 ba6:List Pt
structure sc4 where
structure Hc7 where
 alt:Nat
 ba6:List Pt
structure Dc0 where
 ba6:List Pt
structure Dc1 where
 alt:Nat
 ba6:List Pt
structure Sc8 where
structure Sc9 where
structure ed7 where
structure ed8 where
end Go.Ev.Ce
end
section
namespace Go.Ev.Ce
open Go Go.Ev Go.Ev.L Go.Proofs
set_option maxRecDepth 100000
structure be6 where
 is1:Int
structure be7 where
 ph:Nat
 is7:Int
 m9:List Int
 c7:Int
 ns6:Nat
 eh1:List (List b7)
structure te1 where
 n5:List Pln
 ke4:List Pt
 is5:Int
 Ce9:List Pln
structure te2 where
 ph:Nat
 is6:Int
 is7:Int
structure te3 where
structure te4 where
 ph:Nat
 n5:List Pln
 ke4:List Pt
 is5:Int
 Ce9:List Pln
end Go.Ev.Ce
end
namespace Go.Ev.Ce
open Go Go.Ev Go.Ev.L Go.Proofs
def Pa6 (l:List Pln):Prop:=l.Pairwise LtP
theorem Tc0 {x y z:Pln} (h1:LtP x y) (h2:LtP y z):LtP x z:=by unfold LtP at *;omega
theorem bd4 (x:Pln):¬ LtP x x:=by unfold LtP;omega
theorem Gd1 (x y:Pln):LtP x y∨x=y∨LtP y x:=by
 by_cases h1:LtP x y
 ·exact .inl h1
 ·by_cases h2:LtP y x
  ·exact .inr (.inr h2)
  ·refine .inr (.inl ?_)
   unfold LtP at h1 h2
   have e1:x.n.x=y.n.x:=by omega
   have e2:x.n.y=y.n.y:=by omega
   have e3:x.n.z=y.n.z:=by omega
   have e4:x.b=y.b:=by omega
   cases x with | mk n b=>cases y with | mk m c=>cases n;cases m;simp_all
theorem ec6:∀ {l r:List Pln},Pa6 l→Pa6 r→(∀ p,p∈l↔p∈r)→l=r
 | [],[],_,_,_=>rfl
 | [],b::r,_,_,h=>by have:=(h b).2 List.mem_cons_self;cases this
 | a::l,[],_,_,h=>by have:=(h a).1 List.mem_cons_self;cases this
 | a::l,b::r,hl,hr,h=>by
  obtain⟨hl1,hl2⟩:=List.pairwise_cons.1 hl
  obtain⟨hr1,hr2⟩:=List.pairwise_cons.1 hr
  have hab:a=b:=by
   rcases List.mem_cons.1 ((h a).1 List.mem_cons_self) with e | h1
   ·exact e
   ·rcases List.mem_cons.1 ((h b).2 List.mem_cons_self) with e | h2
    ·exact e.symm
    ·exact absurd (Tc0 (hr1 a h1) (hl1 b h2)) (bd4 b)
  subst hab
  rw[ec6 hl2 hr2 fun p=>?_]
  constructor
  ·intro hp
   rcases List.mem_cons.1 ((h p).1 (List.mem_cons_of_mem _ hp)) with e | h1
   ·subst e;exact absurd (hl1 p hp) (bd4 p)
   ·exact h1
  ·intro hp
   rcases List.mem_cons.1 ((h p).2 (List.mem_cons_of_mem _ hp)) with e | h1
   ·subst e;exact absurd (hr1 p hp) (bd4 p)
   ·exact h1
def bd5:List Pln→Pln→List Pln
 | [],y=>[y]
 | a::l,y=>if eb5 a y < 0 then a::bd5 l y else if eqP a y then a::l else y::a::l
theorem yb4 (y p:Pln):∀ x,p∈bd5 x y↔p=y∨p∈x
 | []=>by simp[bd5]
 | a::l=>by
  unfold bd5
  have ih:=yb4 y p l
  split
  ·simp only[List.mem_cons,ih]
   constructor
   ·rintro (h | h | h)
    ·exact .inr (.inl h)
    ·exact .inl h
    ·exact .inr (.inr h)
   ·rintro (h | h | h)
    ·exact .inr (.inl h)
    ·exact .inl h
    ·exact .inr (.inr h)
  ·split
   ·rename_i h
    rw[Ub2] at h
    subst h
    simp only[List.mem_cons]
    constructor
    ·exact fun h=>.inr h
    ·rintro (h | h)
     ·exact .inl h
     ·exact h
   ·simp only[List.mem_cons]
theorem Ub5 (y:Pln):∀ {x},Pa6 x→Pa6 (bd5 x y)
 | [],_=>List.pairwise_singleton _ _
 | a::l,h=>by
  obtain⟨h1,h2⟩:=List.pairwise_cons.1 h
  unfold bd5
  split
  ·rename_i hc
   rw[Zc9] at hc
   refine List.pairwise_cons.2 ⟨fun p hp=>?_,Ub5 y h2⟩
   rcases (yb4 y p l).1 hp with e | hp
   ·subst e;exact hc
   ·exact h1 p hp
  ·rename_i hc
   rw[Zc9] at hc
   split
   ·exact h
   ·rename_i hne
    have hlt:LtP y a:=by
     rcases Gd1 y a with h | h | h
     ·exact h
     ·exact absurd ((Ub2 _ _).2 h.symm) hne
     ·exact absurd h hc
    refine List.pairwise_cons.2 ⟨fun p hp=>?_,h⟩
    rcases List.mem_cons.1 hp with e | hp
    ·subst e;exact hlt
    ·exact Tc0 hlt (h1 p hp)
end Go.Ev.Ce
namespace Go.Ev.Ce
open Go Go.Ev Go.Ev.L Go.Proofs
theorem Gd2 {σ:Type} {step:σ→Stp σ} {s:σ} {t:Nat} (h:step s=.exit t):lp step s=(t,s):=by rw[Ud8];exact wc3 h
theorem Nd6:Fb9 []=[]:=List.eq_nil_of_length_eq_zero (Cb4 [])
end Go.Ev.Ce
namespace Go.Ev.Ce
def rmZ (p:Pln) (x:Pt):Int:=p.b*x.pw - (p.n.x*x.px+p.n.y*x.py+p.n.z*x.pz)
structure Inr (r:List Pln) (x:Pt):Prop where
 w:0 < x.pw
 h:∀ p∈r,0≤rmZ p x
def da5 (p:Pln):Pln:=⟨⟨-p.n.x,-p.n.y,-p.n.z⟩,-p.b⟩
theorem Za0 (p:Pln) (x:Pt):rmZ (da5 p) x=-rmZ p x:=by unfold rmZ da5;grind
structure Cn (r:List Pln) (x:Pt):Prop extends Inr r x where
 c:∃ p q s,p∈r∧q∈r∧s∈r∧mw p q s≠0∧rmZ p x=0∧rmZ q x=0∧rmZ s x=0
def Bdd (r:List Pln):Prop:=∀ d:V3,d≠⟨0,0,0⟩→∃ p∈r,0 < dot p.n d
def go (x:Pt) (q:Pln) (d:V3):Pt:=⟨x.px*dot q.n d+rmZ q x*d.x,x.py*dot q.n d+rmZ q x*d.y,x.pz*dot q.n d+rmZ q x*d.z,x.pw*dot q.n d⟩
theorem od7 (p q:Pln) (x:Pt) (d:V3):rmZ p (go x q d)=dot q.n d*rmZ p x - rmZ q x*dot p.n d:=by simp only[rmZ,go,dot];grind
theorem Ka6 {a b c:Int} (hc:0 < c) (h:a*c≤b*c):a≤b:=Int.le_of_mul_le_mul_right h hc
theorem first (x:Pt) (d:V3):∀ r:List Pln,(∀ p∈r,0≤rmZ p x)→(∃ p∈r,0 < dot p.n d)→∃ q∈r,0 < dot q.n d∧∀ p∈r,0 < dot p.n d→rmZ q x*dot p.n d≤rmZ p x*dot q.n d
 | [],_,h=>by obtain⟨p,hp,_⟩:=h;cases hp
 | a::r,hx,h=>by
  by_cases hr:∃ p∈r,0 < dot p.n d
  ·obtain⟨q,hq,h1,h2⟩:=first x d r (fun p hp=>hx p (List.mem_cons_of_mem _ hp)) hr
   by_cases ha:0 < dot a.n d
   ·by_cases hc:rmZ q x*dot a.n d≤rmZ a x*dot q.n d
    ·refine⟨q,List.mem_cons_of_mem _ hq,h1,fun p hp h3=>?_⟩
     rcases List.mem_cons.1 hp with rfl | hp
     ·exact hc
     ·exact h2 p hp h3
    ·refine⟨a,List.mem_cons_self,ha,fun p hp h3=>?_⟩
     rcases List.mem_cons.1 hp with rfl | hp
     ·exact Int.le_refl _
     ·have h4:=h2 p hp h3
      have h5:rmZ a x*dot q.n d < rmZ q x*dot a.n d:=by omega
      have h6:=Int.mul_le_mul_of_nonneg_right h4 (Int.le_of_lt ha)
      have h7:=Int.mul_lt_mul_of_pos_right h5 h3
      have e1:rmZ q x*dot p.n d*dot a.n d=rmZ q x*dot a.n d*dot p.n d:=by grind
      have e2:rmZ a x*dot q.n d*dot p.n d=rmZ a x*dot p.n d*dot q.n d:=by grind
      have e3:rmZ p x*dot q.n d*dot a.n d=rmZ p x*dot a.n d*dot q.n d:=by grind
      refine Ka6 h1 ?_
      omega
   ·refine⟨q,List.mem_cons_of_mem _ hq,h1,fun p hp h3=>?_⟩
    rcases List.mem_cons.1 hp with rfl | hp
    ·exact absurd h3 ha
    ·exact h2 p hp h3
  ·have ha : 0 < dot a.n d := by
    obtain⟨p,hp,h3⟩:=h
    rcases List.mem_cons.1 hp with rfl | hp
    ·exact h3
    ·exact absurd ⟨p,hp,h3⟩ hr
   refine⟨a,List.mem_cons_self,ha,fun p hp h3=>?_⟩
   rcases List.mem_cons.1 hp with rfl | hp
   ·exact Int.le_refl _
   ·exact absurd ⟨p,hp,h3⟩ hr
theorem step {r:List Pln} {x:Pt} (hx:Inr r x) (d:V3) (h:∃ p∈r,0 < dot p.n d):∃ q∈r,0 < dot q.n d∧Inr r (go x q d):=by
 obtain⟨q,hq,h1,h2⟩:=first x d r hx.h h
 refine⟨q,hq,h1,⟨Int.mul_pos hx.w h1,fun p hp=>?_⟩⟩
 rw[od7]
 have h3:=hx.h p hp
 have h4:=hx.h q hq
 by_cases h5:0 < dot p.n d
 ·have:=h2 p hp h5
  have e:rmZ p x*dot q.n d=dot q.n d*rmZ p x:=Int.mul_comm _ _
  omega
 ·have h6:=Int.mul_nonneg (Int.le_of_lt h1) h3
  have h7:rmZ q x*dot p.n d≤0:=Int.mul_nonpos_of_nonneg_of_nonpos h4 (by omega)
  omega
theorem be8 {h q:Pln} {x:Pt} {d:V3} (h1:0≤rmZ q x) (h2:0≤dot h.n d):rmZ h (go x q d)*x.pw≤rmZ h x*(go x q d).pw∨x.pw≤0:=by
 rcases Int.lt_or_le 0 x.pw with hw | hw
 ·left
  rw[od7]
  have:=Int.mul_nonneg h1 h2
  have h3:=Int.mul_nonneg this (Int.le_of_lt hw)
  have e:rmZ h x*(go x q d).pw=dot q.n d*rmZ h x*x.pw:=by unfold go;grind
  have e2:(dot q.n d*rmZ h x - rmZ q x*dot h.n d)*x.pw=dot q.n d*rmZ h x*x.pw - rmZ q x*dot h.n d*x.pw:=by grind
  omega
 ·exact .inr hw
def neg (d:V3):V3:=⟨-d.x,-d.y,-d.z⟩
theorem sc5 (a d:V3):dot a (neg d)=-dot a d:=by unfold dot neg;grind
theorem bd6 {d:V3} (h:d≠⟨0,0,0⟩):neg d≠⟨0,0,0⟩:=fun h'=>h (by
 cases d;unfold neg at h';simp only[V3.mk.injEq] at h' ⊢;omega)
theorem turn (h:Pln) {d:V3} (hd:d≠⟨0,0,0⟩):∃ e,e≠(⟨0,0,0⟩:V3)∧0≤dot h.n e∧∀ a,dot a d=0→dot a e=0:=by
 by_cases h1:0≤dot h.n d
 ·exact⟨d,hd,h1,fun _ h=>h⟩
 ·exact⟨neg d,bd6 hd,by rw[sc5];omega,fun a h=>by rw[sc5,h];rfl⟩
theorem te5 {n:V3} (hn:n≠⟨0,0,0⟩):∃ d,d≠(⟨0,0,0⟩:V3)∧dot n d=0:=by
 by_cases h:n.x=0∧n.y=0
 ·exact⟨⟨1,0,0⟩,by simp,by unfold dot;simp[h.1]⟩
 ·refine⟨⟨n.y,-n.x,0⟩,fun h'=>h ?_,by unfold dot;grind⟩
  simp only[V3.mk.injEq] at h'
  omega
theorem V3.ext' {a b:V3} (h1:a.x=b.x) (h2:a.y=b.y) (h3:a.z=b.z):a=b:=by cases a;cases b;simp_all
theorem od8 {m n d:V3} (hm:m≠⟨0,0,0⟩) (h1:dot m d=0) (h2:dot n d≠0):d8 m n≠⟨0,0,0⟩:=fun h=>by
 unfold d8 at h
 simp only[V3.mk.injEq] at h
 obtain⟨c1,c2,c3⟩:=h
 unfold dot at h1 h2
 have e1:m.x*(n.x*d.x+n.y*d.y+n.z*d.z)=0:=by grind
 have e2:m.y*(n.x*d.x+n.y*d.y+n.z*d.z)=0:=by grind
 have e3:m.z*(n.x*d.x+n.y*d.y+n.z*d.z)=0:=by grind
 have k:∀ {a:Int},a*(n.x*d.x+n.y*d.y+n.z*d.z)=0→a=0:=fun h=>(Int.mul_eq_zero.1 h).resolve_right h2
 exact hm (V3.ext' (k e1) (k e2) (k e3))
theorem ic7 (a b:V3):dot a (d8 a b)=0:=by unfold dot d8;grind
theorem ic8 (a b:V3):dot b (d8 a b)=0:=by unfold dot d8;grind
theorem be9 {p q:Pln} {x:Pt} {d:V3} (h:rmZ p x=0) (h':dot p.n d=0):rmZ p (go x q d)=0:=by rw[od7,h,h'];simp
theorem ce0 (q:Pln) (x:Pt) (d:V3):rmZ q (go x q d)=0:=by rw[od7];grind
theorem Te2 {q:Pln} {d:V3} (h:0 < dot q.n d):q.n≠⟨0,0,0⟩:=fun h'=>by rw[h'] at h;unfold dot at h;simp at h
theorem Be5 {a b c u v w:Int} (hu:0 < u) (hv:0 < v) (hw:0 < w) (h1:a*v≤b*u) (h2:b*w≤c*v):a*w≤c*u:=by
 have h3:=Int.mul_le_mul_of_nonneg_right h1 (Int.le_of_lt hw)
 have h4:=Int.mul_le_mul_of_nonneg_right h2 (Int.le_of_lt hu)
 have e1:a*v*w=a*w*v:=by grind
 have e2:b*u*w=b*w*u:=by grind
 have e3:c*v*u=c*u*v:=by grind
 exact Ka6 hv (by omega)
theorem zd6 {r:List Pln} (hb:Bdd r) (h:Pln) {x:Pt} (hx:Inr r x):∃ v,Cn r v∧rmZ h v*x.pw≤rmZ h x*v.pw:=by
 obtain⟨d0,n0,p0,_⟩:=turn h (d:=⟨1,0,0⟩) (by simp)
 obtain⟨q1,m1,k1,i1⟩:=step hx d0 (hb d0 n0)
 have l1:=(be8 (h:=h) (x:=x) (hx.h q1 m1) p0).resolve_right (by have:=hx.w;omega)
 obtain⟨e1,ne1,he1⟩:=te5 (Te2 k1)
 obtain⟨d1,n1,p1,z1⟩:=turn h ne1
 obtain⟨q2,m2,k2,i2⟩:=step i1 d1 (hb d1 n1)
 have l2:=(be8 (h:=h) (x:=go x q1 d0) (i1.h q2 m2) p1).resolve_right (by have:=i1.w;omega)
 have hc:=od8 (Te2 k1) (z1 _ he1) (n:=q2.n) (by omega)
 obtain⟨d2,n2,p2,z2⟩:=turn h hc
 obtain⟨q3,m3,k3,i3⟩:=step i2 d2 (hb d2 n2)
 have l3:=(be8 (h:=h) (x:=go (go x q1 d0) q2 d1) (i2.h q3 m3) p2).resolve_right (by have:=i2.w;omega)
 have a1:rmZ q1 (go (go x q1 d0) q2 d1)=0:=be9 (ce0 _ _ _) (z1 _ he1)
 refine⟨_,⟨i3,q3,q1,q2,m3,m1,m2,fun h0=>?_,ce0 _ _ _,be9 a1 (z2 _ (ic7 _ _)),be9 (ce0 _ _ _) (z2 _ (ic8 _ _))⟩,?_⟩
 ·have:dot q3.n d2=0:=z2 _ h0
  omega
 ·exact Be5 i3.w i2.w hx.w l3 (Be5 i2.w i1.w hx.w l2 l1)
theorem ma5 {r:List Pln} (hb:Bdd r) {h:Pln} (hv:∀ v,Cn r v→0≤rmZ h v) {x:Pt} (hx:Inr r x):0≤rmZ h x:=by
 obtain⟨v,h1,h2⟩:=zd6 hb h hx
 have h3:=Int.mul_nonneg (hv v h1) (Int.le_of_lt hx.w)
 exact Ka6 h1.w (by rw[Int.zero_mul];omega)
def mid (x y:Pt):Pt:=⟨x.px*y.pw+y.px*x.pw,x.py*y.pw+y.py*x.pw,x.pz*y.pw+y.pz*x.pw,2*(x.pw*y.pw)⟩
theorem ce1 (p:Pln) (x y:Pt):rmZ p (mid x y)=rmZ p x*y.pw+rmZ p y*x.pw:=by unfold rmZ mid;grind
theorem Inr.mid {r:List Pln} {x y:Pt} (hx:Inr r x) (hy:Inr r y):Inr r (mid x y):=⟨by unfold Ce.mid;exact Int.mul_pos (by decide) (Int.mul_pos hx.w hy.w),fun p hp=>by
 rw[ce1]
 exact Int.add_nonneg (Int.mul_nonneg (hx.h p hp) (Int.le_of_lt hy.w)) (Int.mul_nonneg (hy.h p hp) (Int.le_of_lt hx.w))⟩
def ce2 (r:List Pln):Prop:=∃ x:Pt,0 < x.pw∧∀ p∈r,0 < rmZ p x
theorem Gd3 {r:List Pln}:∀ (l:List Pln),(∀ p∈l,p∈r)→(∃ x,Inr r x)→(∀ p∈l,∃ v,Inr r v∧0 < rmZ p v)→∃ x,Inr r x∧∀ p∈l,0 < rmZ p x
 | [],_,h,_=>by obtain⟨x,h⟩:=h;exact⟨x,h,fun p hp=>by cases hp⟩
 | a::l,hl,h,hv=>by
  obtain⟨x,h1,h2⟩:=Gd3 l (fun p hp=>hl p (List.mem_cons_of_mem _ hp)) h (fun p hp=>hv p (List.mem_cons_of_mem _ hp))
  obtain⟨y,h3,h4⟩:=hv a List.mem_cons_self
  refine⟨mid x y,h1.mid h3,fun p hp=>?_⟩
  rw[ce1]
  rcases List.mem_cons.1 hp with rfl | hp
  ·have:=Int.mul_nonneg (h1.h p (hl p List.mem_cons_self)) (Int.le_of_lt h3.w)
   have:=Int.mul_pos h4 h1.w
   omega
  ·have:=Int.mul_pos (h2 p hp) h3.w
   have:=Int.mul_nonneg (h3.h p (hl p (List.mem_cons_of_mem _ hp))) (Int.le_of_lt h1.w)
   omega
theorem ce3 {r:List Pln} (hb:Bdd r) (h0:r≠[]):ce2 r↔∀ p∈r,∃ v,Cn r v∧0 < rmZ p v:=by
 constructor
 ·intro ⟨x,hw,hx⟩ p hp
  by_cases h:∃ v,Cn r v∧0 < rmZ p v
  ·exact h
  ·have hx':Inr r x:=⟨hw,fun q hq=>Int.le_of_lt (hx q hq)⟩
   have:=ma5 hb (h:=da5 p) (fun v hv=>by
    rw[Za0]
    have:¬ 0 < rmZ p v:=fun h'=>h ⟨v,hv,h'⟩
    omega) hx'
   rw[Za0] at this
   have:=hx p hp
   omega
 ·intro h
  obtain⟨p,hp⟩:=List.exists_mem_of_ne_nil r h0
  obtain⟨v,hv,_⟩:=h p hp
  obtain⟨x,h1,h2⟩:=Gd3 r (fun _ h=>h) ⟨v,hv.toInr⟩ fun p hp=>by
   obtain⟨v,hv,h⟩:=h p hp
   exact⟨v,hv.toInr,h⟩
  exact⟨x,h1.w,h2⟩
structure Eqv (x v:Pt):Prop where
 e1:x.px*v.pw=v.px*x.pw
 e2:x.py*v.pw=v.py*x.pw
 e3:x.pz*v.pw=v.pz*x.pw
theorem Eqv.rm {x v:Pt} (h:Eqv x v) (p:Pln):rmZ p x*v.pw=rmZ p v*x.pw:=by
 obtain⟨e1,e2,e3⟩:=h
 unfold rmZ
 grind
theorem Eqv.inr {r:List Pln} {x v:Pt} (h:Eqv x v) (hw:0 < x.pw) (hv:Inr r v):Inr r x:=⟨hw,fun p hp=>by
 have:=h.rm p
 have h2:=Int.mul_nonneg (hv.h p hp) (Int.le_of_lt hw)
 exact Ka6 hv.w (by rw[Int.zero_mul];omega)⟩
end Go.Ev.Ce
namespace Go.Ev.Ce
open Go Go.Ev Go.Ev.L Go.Proofs
theorem te6 {p:Pln} {x:Pt} (hp:Bd p) (hx:Okx x):rm p x=rmZ p x:=by
 unfold rm rmZ
 obtain⟨w1,w2,⟨a1,a2⟩,⟨a3,a4⟩,a5,a6⟩:=hx
 have h0:=mb hp.b1 hp.b2 (show -600000000000≤x.pw by omega) w2
 have h1:=mb hp.x1 hp.x2 a1 a2
 have h2:=mb hp.y1 hp.y2 a3 a4
 have h3:=mb hp.z1 hp.z2 a5 a6
 exact U5 (by omega) (by omega)
theorem Gd4 {r:List Pln} (hb:Bds r) {x:Pt} (hx:Okx x):inn r x=true↔Inr r x:=by
 unfold inn
 rw[List.all_eq_true]
 constructor
 ·intro h
  refine⟨hx.w1,fun p hp=>?_⟩
  have:=h p hp
  rw[te6 (hb p hp) hx] at this
  simpa using this
 ·intro h p hp
  rw[te6 (hb p hp) hx]
  simpa using h.h p hp
theorem Be6 {p q s:Pln} (h:(mpt p q s).2=true):mw p q s≠0∧∃ k:Int,k≠0∧k*(mpt p q s).1.px=(mv p q s).x∧k*(mpt p q s).1.py=(mv p q s).y∧k*(mpt p q s).1.pz=(mv p q s).z∧k*(mpt p q s).1.pw=mw p q s:=by
 unfold mpt at h ⊢
 by_cases h0:mw p q s=0
 ·rw[if_pos h0] at h;cases h
 refine⟨h0,?_⟩
 have hg:=zd2 (v:=mv p q s) h0
 have dv:∀ {x:Int},(gc (mv p q s) (mw p q s))∣x→gc (mv p q s) (mw p q s)*Int.tdiv x (gc (mv p q s) (mw p q s))=x:=fun h=>Int.mul_tdiv_cancel' h
 have d1:gc (mv p q s) (mw p q s)∣(mv p q s).x:=by
  rw[← Int.dvd_natAbs];exact Int.natCast_dvd_natCast.2 (Nat.dvd_trans (Nat.gcd_dvd_left _ _) (Nat.gcd_dvd_left _ _))
 have d2:gc (mv p q s) (mw p q s)∣(mv p q s).y:=by
  rw[← Int.dvd_natAbs];exact Int.natCast_dvd_natCast.2 (Nat.dvd_trans (Nat.gcd_dvd_left _ _) (Nat.gcd_dvd_right _ _))
 have d3:gc (mv p q s) (mw p q s)∣(mv p q s).z:=by
  rw[← Int.dvd_natAbs];exact Int.natCast_dvd_natCast.2 (Nat.dvd_trans (Nat.gcd_dvd_right _ _) (Nat.gcd_dvd_left _ _))
 have d4:gc (mv p q s) (mw p q s)∣mw p q s:=by
  rw[← Int.dvd_natAbs];exact Int.natCast_dvd_natCast.2 (Nat.dvd_trans (Nat.gcd_dvd_right _ _) (Nat.gcd_dvd_right _ _))
 rw[if_neg h0]
 by_cases h1:mw p q s < 0
 ·rw[if_pos h1]
  have e:∀ {x:Int},(gc (mv p q s) (mw p q s))∣x→-(gc (mv p q s) (mw p q s))*Int.tdiv (-x) (gc (mv p q s) (mw p q s))=x:=fun {x} h=>by
   rw[Int.neg_mul,dv ((Int.dvd_neg).2 h),Int.neg_neg]
  exact⟨-(gc (mv p q s) (mw p q s)),by omega,e d1,e d2,e d3,e d4⟩
 ·rw[if_neg h1]
  exact⟨gc (mv p q s) (mw p q s),by omega,dv d1,dv d2,dv d3,dv d4⟩
theorem ce4 {p q s:Pln} (h:(mpt p q s).2=true):rmZ p (mpt p q s).1=0∧rmZ q (mpt p q s).1=0∧rmZ s (mpt p q s).1=0:=by
 obtain⟨_,k,hk,e1,e2,e3,e4⟩:=Be6 h
 generalize (mpt p q s).1=x at *
 have f:∀ a:Pln,a.b*mw p q s - (a.n.x*(mv p q s).x+a.n.y*(mv p q s).y+a.n.z*(mv p q s).z)=0→rmZ a x=0:=fun a ha=>by
  rw[← e1,← e2,← e3,← e4] at ha
  have:k*rmZ a x=0:=by rw[← ha];unfold rmZ;grind
  exact (Int.mul_eq_zero.1 this).resolve_left hk
 refine⟨f p ?_,f q ?_,f s ?_⟩<;>(simp only[mw,mv,dot,d8];grind)
theorem te7 {p q s:Pln} (h:mw p q s≠0):(mpt p q s).2=true:=by
 unfold mpt
 rw[if_neg h]
 split<;>rfl
theorem ce5 {p q s:Pln} {x:Pt} (h1:rmZ p x=0) (h2:rmZ q x=0) (h3:rmZ s x=0):mw p q s*x.px=(mv p q s).x*x.pw∧mw p q s*x.py=(mv p q s).y*x.pw∧mw p q s*x.pz=(mv p q s).z*x.pw:=by
 have i1:(mv p q s).x*x.pw - mw p q s*x.px=(d8 q.n s.n).x*rmZ p x+(d8 s.n p.n).x*rmZ q x+(d8 p.n q.n).x*rmZ s x:=by simp only[mw,mv,dot,d8,rmZ];grind
 have i2:(mv p q s).y*x.pw - mw p q s*x.py=(d8 q.n s.n).y*rmZ p x+(d8 s.n p.n).y*rmZ q x+(d8 p.n q.n).y*rmZ s x:=by simp only[mw,mv,dot,d8,rmZ];grind
 have i3:(mv p q s).z*x.pw - mw p q s*x.pz=(d8 q.n s.n).z*rmZ p x+(d8 s.n p.n).z*rmZ q x+(d8 p.n q.n).z*rmZ s x:=by simp only[mw,mv,dot,d8,rmZ];grind
 rw[h1,h2,h3] at i1 i2 i3
 simp only[Int.mul_zero,Int.add_zero] at i1 i2 i3
 omega
theorem Ie0 {p q s:Pln} {x v:Pt} (h:mw p q s≠0) (h1:rmZ p x=0) (h2:rmZ q x=0) (h3:rmZ s x=0) (k1:rmZ p v=0) (k2:rmZ q v=0) (k3:rmZ s v=0):Eqv x v:=by
 obtain⟨a1,a2,a3⟩:=ce5 h1 h2 h3
 obtain⟨c1,c2,c3⟩:=ce5 k1 k2 k3
 have f:∀ {a c m:Int},mw p q s*a=m*x.pw→mw p q s*c=m*v.pw→a*v.pw=c*x.pw:=fun {a c m} ha hc=>by
  have:mw p q s*(a*v.pw - c*x.pw)=0:=by grind
  have:=(Int.mul_eq_zero.1 this).resolve_left h
  omega
 exact⟨f a1 c1,f a2 c2,f a3 c3⟩
theorem Nd7 {r:List Pln} {p q:Pln} {out:List Pt} {s:Pln} {x:Pt} (h:x∈out):x∈Tb8 r p q out s:=by
 unfold Tb8
 split
 ·exact List.mem_append_left _ h
 ·exact h
theorem Dc2 {r:List Pln} {p q:Pln} {x:Pt}:∀ {l:List Pln} {out:List Pt},x∈out→x∈Nd2 r p q l out
 | [],_,h=>h
 | s::l,out,h=>Dc2 (l:=l) (out:=Tb8 r p q out s) (Nd7 h)
theorem Ub6 {r:List Pln} {p:Pln} {x:Pt}:∀ {l:List Pln} {out:List Pt},x∈out→x∈od1 r p l out
 | [],_,h=>h
 | _::l,_,h=>Ub6 (l:=l) (Dc2 h)
theorem od9 {r:List Pln} {x:Pt}:∀ {l:List Pln} {out:List Pt},x∈out→x∈zd4 r l out
 | [],_,h=>h
 | _::l,_,h=>od9 (l:=l) (Ub6 h)
theorem Nd8 {r:List Pln} {p q:Pln} {out:List Pt} {s:Pln} (h1:(mpt p q s).2=true) (h2:inn r (mpt p q s).1=true):(mpt p q s).1∈Tb8 r p q out s:=by
 unfold Tb8
 rw[h1,h2]
 cases h:se4 out (mpt p q s).1 with
 | true=>simpa using (ae1 _ _).1 h
 | false=>simp
theorem Dc3 {r:List Pln} {p q s:Pln} (h1:(mpt p q s).2=true) (h2:inn r (mpt p q s).1=true):∀ {l:List Pln} {out:List Pt},s∈l→(mpt p q s).1∈Nd2 r p q l out
 | [],_,h=>by cases h
 | t::l,out,h=>by
  show _∈Nd2 r p q l (Tb8 r p q out t)
  rcases List.mem_cons.1 h with rfl | h
  ·exact Dc2 (Nd8 h1 h2)
  ·exact Dc3 h1 h2 h
structure Hit (r:List Pln) (Q:Pt→Prop) (p q s:Pln):Prop where
 h1:(mpt p q s).2=true
 h2:inn r (mpt p q s).1=true
 h3:Q (mpt p q s).1
theorem pd0 {r:List Pln} {Q:Pt→Prop} {p q s:Pln} (hq:Hit r Q p q s) (hs:Hit r Q p s q) (hne:q≠s):∀ {l:List Pln} {out:List Pt},q∈l→s∈l→∃ x∈od1 r p l out,Q x
 | [],_,h,_=>by cases h
 | t::l,out,hql,hsl=>by
  show ∃ x∈od1 r p l (Nd2 r p t l out),Q x
  rcases List.mem_cons.1 hql with rfl | h1
  ·have h2:=(List.mem_cons.1 hsl).resolve_left fun h=>hne h.symm
   exact⟨_,Ub6 (Dc3 hq.h1 hq.h2 h2),hq.h3⟩
  ·rcases List.mem_cons.1 hsl with rfl | h2
   ·exact⟨_,Ub6 (Dc3 hs.h1 hs.h2 h1),hs.h3⟩
   ·exact pd0 hq hs hne (l:=l) h1 h2
theorem pd1 {r : List Pln} {Q : Pt → Prop} {p q s : Pln} (H : ∀ a c d, (a = p ∨ a = q ∨ a = s) → (c = p ∨ c = q ∨ c = s) → (d = p ∨ d = q ∨ d = s) → a ≠ c → c ≠ d → a ≠ d → Hit r Q a c d) (h1 : p ≠ q) (h2 : q ≠ s) (h3 : p ≠ s) :
  ∀ {l:List Pln} {out:List Pt},p∈l→q∈l→s∈l→∃ x∈zd4 r l out,Q x
 | [],_,h,_,_=>by cases h
 | t::l,out,hp,hq,hs=>by
  have fin:∀ {a c d:Pln} {out:List Pt},(a=p∨a=q∨a=s)→(c=p∨c=q∨c=s)→(d=p∨d=q∨d=s)→a≠c→c≠d→a≠d→c∈l→d∈l→∃ x∈zd4 r l (od1 r a l out),Q x:=fun ha hc hd n1 n2 n3 m1 m2=>by
   obtain⟨x,hx,hQ⟩:=pd0 (H _ _ _ ha hc hd n1 n2 n3) (H _ _ _ ha hd hc n3 n2.symm n1) n2 (out:=_) m1 m2
   exact⟨x,od9 hx,hQ⟩
  show ∃ x∈zd4 r l (od1 r t l out),Q x
  rcases List.mem_cons.1 hp with rfl | hp'
  ·exact fin (.inl rfl) (.inr (.inl rfl)) (.inr (.inr rfl)) h1 h2 h3 ((List.mem_cons.1 hq).resolve_left (Ne.symm h1)) ((List.mem_cons.1 hs).resolve_left (Ne.symm h3))
  ·rcases List.mem_cons.1 hq with rfl | hq'
   ·exact fin (.inr (.inl rfl)) (.inl rfl) (.inr (.inr rfl)) (Ne.symm h1) h3 h2 hp' ((List.mem_cons.1 hs).resolve_left (Ne.symm h2))
   ·rcases List.mem_cons.1 hs with rfl | hs'
    ·exact fin (.inr (.inr rfl)) (.inl rfl) (.inr (.inl rfl)) (Ne.symm h3) h1 (Ne.symm h2) hp' hq'
    ·exact pd1 H h1 h2 h3 hp' hq' hs'
theorem Te3 {p q s:Pln} (h:mw p q s≠0):p≠q∧q≠s∧p≠s:=by
 refine⟨fun e=>h ?_,fun e=>h ?_,fun e=>h ?_⟩<;>(subst e;simp only[mw,dot,d8];grind)
theorem Ie1 {r:List Pln} (hb:Bds r):∀ x∈cor r,Cn r x:=Fd8 fun p hp q hq s hs h hi=>by
 obtain⟨w1,w2,w3,w4,w5⟩:=zd3 (hb p hp) (hb q hq) (hb s hs) h
 obtain⟨e1,e2,e3⟩:=ce4 h
 exact⟨(Gd4 hb ⟨w1,w5,w2,w3,w4⟩).1 hi,p,q,s,hp,hq,hs,(Be6 h).1,e1,e2,e3⟩
theorem Ie2 {r:List Pln} (hb:Bds r) {v:Pt} (hv:Cn r v):∃ x∈cor r,Eqv x v:=by
 obtain⟨p,q,s,hp,hq,hs,hw,e1,e2,e3⟩:=hv.c
 obtain⟨n1,n2,n3⟩:=Te3 hw
 refine pd1 (fun a c d ha hc hd m1 m2 m3=>?_) n1 n2 n3 hp hq hs
 have hm:∀ {a},(a=p∨a=q∨a=s)→a∈r∧rmZ a v=0:=fun h=>by
  rcases h with rfl | rfl | rfl
  ·exact⟨hp,e1⟩
  ·exact⟨hq,e2⟩
  ·exact⟨hs,e3⟩
 have hw':mw a c d≠0:=by
  have k:mw a c d=mw p q s∨mw a c d=-mw p q s:=by
   rcases ha with rfl | rfl | rfl<;>rcases hc with rfl | rfl | rfl<;>rcases hd with rfl | rfl | rfl<;>first | exact absurd rfl m1 | exact absurd rfl m2 | exact absurd rfl m3 | exact .inl rfl | (left;simp only[mw,dot,d8];grind;done) | (right;simp only[mw,dot,d8];grind;done)
  rcases k with k | k<;>omega
 have h:=te7 hw'
 obtain⟨w1,w2,w3,w4,w5⟩:=zd3 (hb a (hm ha).1) (hb c (hm hc).1) (hb d (hm hd).1) h
 obtain⟨f1,f2,f3⟩:=ce4 h
 have he:=Ie0 hw' f1 f2 f3 (hm ha).2 (hm hc).2 (hm hd).2
 exact⟨h,(Gd4 hb ⟨w1,w5,w2,w3,w4⟩).2 (he.inr w1 hv.toInr),he⟩
theorem ce6 (c:List Pln):Bdd (c++ws):=fun d hd=>by
 have k:∀ {n:V3} {m:Int},(⟨n,m⟩:Pln)∈ws→0 < dot n d→∃ p∈c++ws,0 < dot p.n d:=fun h h'=>⟨_,List.mem_append_right _ h,h'⟩
 by_cases h1:0 < d.x
 ·exact k (n:=⟨1,0,0⟩) (m:=24) (by simp[ws]) (by unfold dot;simp;omega)
 by_cases h2:d.x < 0
 ·exact k (n:=⟨-1,0,0⟩) (m:=24) (by simp[ws]) (by unfold dot;simp;omega)
 by_cases h3:0 < d.y
 ·exact k (n:=⟨0,1,0⟩) (m:=24) (by simp[ws]) (by unfold dot;simp;omega)
 by_cases h4:d.y < 0
 ·exact k (n:=⟨0,-1,0⟩) (m:=24) (by simp[ws]) (by unfold dot;simp;omega)
 by_cases h5:0 < d.z
 ·exact k (n:=⟨0,0,1⟩) (m:=24) (by simp[ws]) (by unfold dot;simp;omega)
 by_cases h6:d.z < 0
 ·exact k (n:=⟨0,0,-1⟩) (m:=24) (by simp[ws]) (by unfold dot;simp;omega)
 exact absurd (V3.ext' (by show d.x=0;omega) (by show d.y=0;omega) (by show d.z=0;omega)) hd
theorem Gd5 {r:List Pln} (hb:Bds r) {p:Pln} (hp:Bd p):pos (cor r) p=true↔∃ v,Cn r v∧0 < rmZ p v:=by
 unfold pos
 rw[List.any_eq_true]
 constructor
 ·rintro⟨x,hx,h⟩
  rw[te6 hp (bd0 hb x hx)] at h
  exact⟨x,Ie1 hb x hx,by simpa using h⟩
 ·rintro⟨v,hv,h⟩
  obtain⟨x,hx,he⟩:=Ie2 hb hv
  refine⟨x,hx,?_⟩
  rw[te6 hp (bd0 hb x hx)]
  have h1:=he.rm p
  have h2:=Int.mul_pos h (bd0 hb x hx).w1
  have:0 < rmZ p x:=Int.lt_of_mul_lt_mul_right (by rw[Int.zero_mul];omega:0*v.pw < rmZ p x*v.pw) (Int.le_of_lt hv.w)
  simpa using this
theorem Nd9 {r:List Pln} (hb:Bds r) (hd:Bdd r) (h0:r≠[]):se5 r=true↔ce2 r:=by
 rw[ce3 hd h0]
 unfold se5
 rw[List.all_eq_true]
 exact⟨fun h p hp=>(Gd5 hb (hb p hp)).1 (h p hp),fun h p hp=>(Gd5 hb (hb p hp)).2 (h p hp)⟩
end Go.Ev.Ce
