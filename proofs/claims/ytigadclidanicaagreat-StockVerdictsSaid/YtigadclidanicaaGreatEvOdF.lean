/- Own work. -/
import Derived.Test.YtigadclidanicaaGreatEvOaV3
set_option linter.all false
noncomputable section
def Qka:=@Bool.and_self
def Qkb:=@List.take_length
def Qkc:=@Nat.ble_eq_true_of_le
def Qkd:=@List.findIdx_lt_length
def Qke:=@Bool.true_and
def Qkf:=@Bool.not_true
namespace Go.Ev.Ce
open Go Go.Ev Go.Ev.L Go.Proofs
set_option maxRecDepth 100000
structure ff2 where
 (Og3 Og4:List Bool)
def Pb1:List (Nat×Sum):=[(40,yb6),(41,Fb2)]
theorem Zd7:A4 prog G Pb1:=⟨Db0,Ob4,trivial⟩
structure ib5 where
 D4:ByteArray
 b8:LPq
 o6:List Int
def Kc2(p:ib5)(s:ha5):St:=⟨.unk::.ptr 0 0 0 0::.unk::i s.is3::ra 71 [],[bq 0 3 [[.v (.string p.D4),eL tLq p.b8,eL tI p.o6]]]⟩
def kb6{α:Type}(k:ha5->α)(e:Nat->α)(z:α)(p:ib5)(s:ha5):α:=let y0:=(List.length p.o6);(sl (decide (s.is3<(↑y0:Int))) (sl (inB s.is3 y0) (sl (decide ((gL tI p.o6 s.is3.toNat)<1)) (e 1) (sl (inB s.is3 y0) (sl (decide ((gL tI p.o6 s.is3.toNat)>3)) (e 1) (k ⟨W (s.is3+1)⟩)) z)) z) (e 2))
def Xa4(p:ib5)(s:ha5):Stp ha5:=kb6 .next .exit .fail p s
def gc8:Lo ib5 ha5:=⟨En Pb1,0,Pf0,[1,1,1,0,1,4,4],[1,3],.p,[⟨sUq::sPq 0::sUq::sIq::ru2 71 [],[⟨0,3,true,some [[.o .val,.c 1 (nL tLq),.c 1 (nL tI)]]⟩],λa H=>(⟨Sa1 (slT (rwT (elT H 0) 0) 0),hLq tLq H 0 0 1,hLq tI H 0 0 2⟩,⟨aIq a 3⟩)⟩],Xa4,[(none,λp s=>⟨[i 1],[]⟩),(some 0,λp s=>upq (Kc2 p s) [(23,i s.is3),(24,.ptr 0 0 2 0),(25,eL tI p.o6),(26,i (↑(List.length p.o6):Int)),(27,b (decide (s.is3<(↑(List.length p.o6):Int))))])],Kc2⟩
theorem Sd3:gc8.Ok:=Qjt [] .nil λp s=>(.ofq @kb6)
structure ib6 where
 is4:Int
 D4:ByteArray
 b8:LPq
 o6:List Int
def Kc3(p:ib6)(s:Ja9):St:=⟨.unk::.ptr 0 0 0 0::.unk::.unk::i p.is4::i s.is5::ra 69 [],[bq 0 3 [[.v (.string p.D4),eL tLq p.b8,eL tI p.o6]]]⟩
def kb7{α:Type}(k:Ja9->α)(e:Nat->α)(z:α)(p:ib6)(s:Ja9):α:=let y1:=(gL tLq p.b8 p.is4.toNat);let y0:=(gL tLq p.b8 s.is5.toNat);let t1:=(za2 (rt tP y0) (rt tP y1));(sl (decide (s.is5<p.is4)) (sl (inB s.is5 (List.length p.b8)) (sl (inB p.is4 (List.length p.b8)) (sl (okE tP y0) (sl (okE tP y1) (sl (za3 (rt tP y0) (rt tP y1)) (sl (!t1) (e 1) (k ⟨W (s.is5+1)⟩)) z) z) z) z) z) (e 2))
def Ha3(p:ib6)(s:Ja9):Stp Ja9:=kb7 .next .exit .fail p s
def gc9:Lo ib6 Ja9:=⟨En Pb1,0,Pf0,[1,1,1,1,0,1,4,4,1,0,4,1,1,4,4],[1,4,5],.p,[⟨sUq::sPq 0::sUq::sUq::sIq::sIq::ru2 69 [],[⟨0,3,true,some [[.o .val,.c 1 (nL tLq),.c 1 (nL tI)]]⟩],λa H=>(⟨aIq a 4,Sa1 (slT (rwT (elT H 0) 0) 0),hLq tLq H 0 0 1,hLq tI H 0 0 2⟩,⟨aIq a 5⟩)⟩],Ha3,[(none,λp s=>⟨[i 13],[]⟩),(some 4,λp s=>upq (Kc3 p s) [(58,i s.is5),(59,i p.is4),(60,b (decide (s.is5<p.is4)))])],Kc3⟩
theorem Sd4:gc9.Ok:=Qjt [] .nil λp s=>(.ofq @kb7)
structure ib7 where
 D4:ByteArray
structure ia1 where
 is4:Int
 b8:LPq
 o6:List Int
def Kc4(p:ib7)(s:ia1):St:=⟨.unk::.ptr 0 0 0 0::.unk::.unk::i s.is4::ra 70 [],[bq 0 3 [[.v (.string p.D4),eL tLq s.b8,eL tI s.o6]]]⟩
def kb8{α:Type}(k:ia1->α)(e:Nat->α)(z:α)(p:ib7)(s:ia1):α:=let y0:=(gL tLq s.b8 s.is4.toNat);let t1:=(Ka0 (rt tP y0));let t2:=(lp (Ha3 (⟨s.is4,p.D4,rt tLq s.b8,rt tI s.o6⟩:ib6)) (⟨0⟩:Ja9));(sl (decide (s.is4<(↑(List.length s.b8):Int))) (sl (inB s.is4 (List.length s.b8)) (sl (okE tP y0) (sl (Ka1 (rt tP y0)) (sl (!t1) (e 1) (sl ((cnE tLq s.b8)&&((cnE tI s.o6)&&true)) (sl (Nat.beq t2.1 1) (e 1) (sl (Nat.beq t2.1 2) (k ⟨W (s.is4+1),rt tLq s.b8,rt tI s.o6⟩) z)) z)) z) z) z) (e 2))
def Ha4(p:ib7)(s:ia1):Stp ia1:=kb8 .next .exit .fail p s
def hc3:Lo ib7 ia1:=⟨En Pb1,0,Pf0,[1,1,1,1,0,1,4,4],[1,4],.s .p (.s (.b (.s .p (.s .p (.b (.u gc9.ls))))) .p),[⟨sUq::sPq 0::sUq::sUq::sIq::ru2 70 [],[⟨0,3,true,some [[.o .val,.c 1 (nL tLq),.c 1 (nL tI)]]⟩],λa H=>(⟨Sa1 (slT (rwT (elT H 0) 0) 0)⟩,⟨aIq a 4,hLq tLq H 0 0 1,hLq tI H 0 0 2⟩)⟩],Ha4,[(none,λp s=>⟨[i 13],[]⟩),(some 2,λp s=>upq (Kc4 p s) [(44,i s.is4),(45,.ptr 0 0 1 0),(46,eL tLq s.b8),(47,i (↑(List.length s.b8):Int)),(48,b (decide (s.is4<(↑(List.length s.b8):Int))))])],Kc4⟩
theorem Sd5:hc3.Ok:=Qjt [gc9.pr] (.cons Sd4 .nil) λp s=>(.ofq @kb8)
def Gb1(x:Prt):ROq:=let y0:=(↑(List.length x.cl):Int);let t1:=(lp (Xa4 (⟨x.nm,rt tLq x.cl,rt tI x.wt⟩:ib5)) (⟨0⟩:ha5));let t2:=(lp (Ha4 (⟨x.nm⟩:ib7)) (⟨0,rt tLq (rt tLq x.cl),rt tI (rt tI x.wt)⟩:ia1));(sl (decide (y0<1)) (some (i 2,[])) (sl (decide (y0>16)) (some (i 2,[])) (sl ((↑(List.length x.wt):Int) != y0) (some (i 1,[])) (sl ((cnE tLq x.cl)&&((cnE tI x.wt)&&true)) (sl (Nat.beq t1.1 1) (some (i 1,[])) (sl (Nat.beq t1.1 2) (sl ((cnE tLq (rt tLq x.cl))&&((cnE tI (rt tI x.wt))&&true)) (sl (Nat.beq t2.1 1) (some (i 13,[])) (sl (Nat.beq t2.1 2) (some (i 0,[])) none)) none) none)) none))))
def nb9(x:Prt):Int:=L9 (one r1I) (Gb1 x)
def ob0(x:Prt):Bool:=okO (one r1I) (Gb1 x)
def bc8:Sum:=S7 cJ (λx=>.guard (ob0 x) (.ret ((one r1I).enc (nb9 x),[])))
theorem tc4:l8 prog G 13 bc8:=Sc3 (bd b13 Zd7) (one r1I) (o:=Gb1) λx=>Q3 (.s .p (.s .p (.s .p (.s (.s .p (.b (.u gc8.ls))) (.s (.s .p (.b (.u hc3.ls))) .p))))) [gc8.pr,hc3.pr] (.cons Sd3 (.cons Sd5 .nil))
def mc3(x:Prt):ROq:=let y0:=(↑(List.length x.cl):Int);let y2:=(List.replicate y0.toNat [b false]);let y1:=(inB y0 (room+1)&&inB y0 (room+1)&&Nat.ble y0.toNat y0.toNat&&Nat.ble (y0.toNat*1) room);(sl y1 (sl y1 (some ((.agg [(.tree 1 y0.toNat (λi=>c8 y2 (0+i))),(.tree 1 y0.toNat (λi=>c8 y2 (0+i))),nlq]),[])) none) none)
def Rc6(x:Prt):Pce:=L9 (one r1O) (mc3 x)
def mc4(x:Prt):Bool:=okO (one r1O) (mc3 x)
def je6:Sum:=S7 cJ (λx=>.guard (mc4 x) (.ret ((one r1O).enc (Rc6 x),[])))
theorem Ve7:l8 prog G 16 je6:=Sa7 (bd b16 ya0) (one r1O) (o:=mc3)
def Kc5:List (Nat×Sum):=[(70,Ta2)]
theorem Dd0:A4 prog G Kc5:=⟨ab3,trivial⟩
def mc5(p:ua4)(s:ha5):St:=⟨eL tLq p.n7::.unk::.unk::i s.is3::ra 15 [],[]⟩
def Ra8{α:Type}(k:ha5->α)(e:Nat->α)(z:α)(p:ua4)(s:ha5):α:=let y0:=(gL tLq p.n7 s.is3.toNat);let t1:=(W5 (rt tP y0));(sl (decide (s.is3<(↑(List.length p.n7):Int))) (sl (inB s.is3 (List.length p.n7)) (sl (okE tP y0) (sl (qa6 (rt tP y0)) (sl (t1 != 0) (e 1) (k ⟨W (s.is3+1)⟩)) z) z) z) (e 2))
def Ha5(p:ua4)(s:ha5):Stp ha5:=Ra8 .next .exit .fail p s
def Kb8:Lo ua4 ha5:=⟨En Kc5,0,ug3,[1,0,1,4,4],[0,3],.p,[⟨sLq tLq::sUq::sUq::sIq::ru2 15 [],[],λa H=>(⟨aLq tLq a 0⟩,⟨aIq a 3⟩)⟩],Ha5,[(none,λp s=>let t1:=(W5 (rt tP (gL tLq p.n7 s.is3.toNat)));⟨[i t1],[]⟩),(some 0,λp s=>upq (mc5 p s) [(5,i s.is3),(6,eL tLq p.n7),(7,i (↑(List.length p.n7):Int)),(8,b (decide (s.is3<(↑(List.length p.n7):Int))))])],mc5⟩
theorem td5:Kb8.Ok:=Qjt [] .nil λp s=>(.ofq @Ra8)
def ib8(x:LPq):ROq:=let t1:=(lp (Ha5 (⟨rt tLq x⟩:ua4)) (⟨0⟩:ha5));let t2:=(W5 (rt tP (gL tLq (rt tLq x) t1.2.is3.toNat)));(sl ((cnE tLq x)&&true) (sl (Nat.beq t1.1 1) (some (i t2,[])) (sl (Nat.beq t1.1 2) (some (i 0,[])) none)) none)
def Da4(x:LPq):Int:=L9 (one r1I) (ib8 x)
def Pa4(x:LPq):Bool:=okO (one r1I) (ib8 x)
def hc5:Sum:=S7 (M3 tLq) (λx=>.guard (Pa4 x) (.ret ((one r1I).enc (Da4 x),[])))
theorem Kc6:l8 prog G 52 hc5:=Sc3 (bd b52 Dd0) (one r1I) (o:=ib8) λx=>Q3 (.s .p (.s (.s .p (.b (.u Kb8.ls))) .p)) [Kb8.pr] (.cons td5 .nil)
def Ke4:List (Nat×Sum):=[(52,hc5)]
theorem ue5:A4 prog G Ke4:=⟨Kc6,trivial⟩
def Vb8(x:Prt)(y:Pce):ROq:=let t1:=(Da4 (rt tLq y.cu));(sl ((↑(List.length y.su):Int)==(↑(List.length x.cl):Int)) (sl ((↑(List.length y.to):Int)==(↑(List.length x.cl):Int)) (sl (decide ((↑(List.length y.cu):Int)<=24)) (sl (okE tLq y.cu) (sl (Pa4 (rt tLq y.cu)) (some (b (t1==0),[])) none) none) (some (b false,[]))) (some (b false,[]))) (some (b false,[])))
def Ab2(x:Prt)(y:Pce):Bool:=L9 (one r1B) (Vb8 x y)
def Ab3(x:Prt)(y:Pce):Bool:=okO (one r1B) (Vb8 x y)
def tc5:Sum:=Z7 cJ cO (λx y=>.guard (Ab3 x y) (.ret ((one r1B).enc (Ab2 x y),[])))
theorem Kc7:l8 prog G 51 tc5:=Sb2 (bd b51 ue5) (one r1B) (o:=Vb8)
def ld8:List (Nat×Sum):=[(41,Fb2)]
theorem Zd8:A4 prog G ld8:=⟨Ob4,trivial⟩
structure P7 where
 ph:Nat
 is6:Int
 ns5:Nat
 eh0:List (List b7)
def yc6(p:Z0)(s:P7):St:=⟨eL tLq p.n7::eL tP p.T7::ra 3 (nlq::i s.is6::ra 21 []),[]⟩
def yc7(p:Z0)(s:P7):St:=⟨eL tLq p.n7::eL tP p.T7::ra 3 (.sl 0 0 s.ns5 0::i s.is6::ra 21 []),[bq 35 1 s.eh0]⟩
def Sd6(p:Z0)(s:P7):St:=(sel (Nat.beq s.ph 1) (yc7 p s) (yc6 p s))
def wa8{α:Type}(k:P7->α)(e:Nat->α)(z:α)(p:Z0)(s:P7):α:=let y1:=(List.length p.n7);let y0:=(gL tLq p.n7 s.is6.toNat);let t1:=(za2 (rt tP y0) (rt tP p.T7));(sl (decide (s.is6<(↑y1:Int))) (sl (inB s.is6 y1) (sl (okE tP y0) (sl (okE tP p.T7) (sl (za3 (rt tP y0) (rt tP p.T7)) (sl (!t1) (sl (inB s.is6 y1) (k ⟨1,W (s.is6+1),1,[[eL tP y0]]⟩) z) (k ⟨0,W (s.is6+1),0,[]⟩)) z) z) z) z) (e 1))
def wa9{α:Type}(k:P7->α)(e:Nat->α)(z:α)(p:Z0)(s:P7):α:=let y1:=(List.length p.n7);let y0:=(gL tLq p.n7 s.is6.toNat);let t1:=(za2 (rt tP y0) (rt tP p.T7));(sl (decide (s.is6<(↑y1:Int))) (sl (inB s.is6 y1) (sl (okE tP y0) (sl (okE tP p.T7) (sl (za3 (rt tP y0) (rt tP p.T7)) (sl (!t1) (sl (inB s.is6 y1) (sl (Nat.beq s.ns5 (len s.eh0)&&Nat.ble ((s.ns5+1)*24) room) (k ⟨1,W (s.is6+1),s.ns5+1,app s.eh0 [[eL tP y0]]⟩) z) z) (k ⟨1,W (s.is6+1),s.ns5,s.eh0⟩)) z) z) z) z) (e 2))
def Xa5(p:Z0)(s:P7):Stp P7:=(sel (Nat.beq s.ph 1) (wa9 .next .exit .fail p s) (wa8 .next .exit .fail p s))
def hc6:Lo Z0 P7:=⟨En ld8,0,ug5,[1,1,0,1,4,4],[0,1,5,6],.p,[⟨sLq tLq::sLq tP::ru2 3 (.s (.o .nil)::sIq::ru2 21 []),[],λa H=>(⟨aLq tLq a 0,aLq tP a 1⟩,⟨0,aIq a 6,0,[]⟩)⟩,⟨sLq tLq::sLq tP::ru2 3 (.s (.o (.sl 0 0 (some 0) none))::sIq::ru2 21 []),[⟨35,1,true,none⟩],λa H=>(⟨aLq tLq a 0,aLq tP a 1⟩,⟨1,aIq a 6,slN (slT a 5),elT H 0⟩)⟩],Xa5,[(some 0,λp s=>upq (yc6 p s) [(7,i s.is6),(8,eL tLq p.n7),(9,i (↑(List.length p.n7):Int)),(10,b (decide (s.is6<(↑(List.length p.n7):Int))))]),(some 0,λp s=>upq (yc7 p s) [(7,i s.is6),(8,eL tLq p.n7),(9,i (↑(List.length p.n7):Int)),(10,b (decide (s.is6<(↑(List.length p.n7):Int))))])],Sd6⟩
theorem Sd7:hc6.Ok:=Qjt [] .nil λp s=>(.sel (Nat.beq s.ph 1) (.ofq @wa9) (.ofq @wa8))
def Gb2(x:LPq)(y:PLq):ROq:=let t1:=(lp (Xa5 (⟨rt tLq x,rt tP y⟩:Z0)) (⟨0,0,0,[]⟩:P7));(sl ((cnE tLq x)&&((cnE tP y)&&true)) (sl (Nat.beq t1.1 1) (some (nlq,[])) (sl (Nat.beq t1.1 2) (some (.sl 0 0 t1.2.ns5 0,[bq 35 1 t1.2.eh0])) none)) none)
def G4(x:LPq)(y:PLq):LPq:=L9 (one (r1L tLq)) (Gb2 x y)
def aa6(x:LPq)(y:PLq):Bool:=okO (one (r1L tLq)) (Gb2 x y)
def yd6:Sum:=Z7 (M3 tLq) (M3 tP) (λx y=>.guard (aa6 x y) (.ret ((one (r1L tLq)).enc (G4 x y),[])))
theorem ue6:l8 prog G 55 yd6:=dc7 (bd b55 Zd8) (one (r1L tLq)) (o:=Gb2) λx y=>Q3 (.s .p (.s .p (.s (.s .p (.b (.u hc6.ls))) .p))) [hc6.pr] (.cons Sd7 .nil)
structure Tf0 where
 ph:Nat
 is4:Int
 ns3:Nat
 eh0:List (List b7)
def ub1:List (Nat×Sum):=[(13,bc8),(51,tc5),(53,Kc0)]
theorem Dd1:A4 prog G ub1:=⟨tc4,Kc7,ld6,trivial⟩
structure Oa4 where
 D4:ByteArray
 b8:LPq
 o6:List Int
 (B7 F5:List Bool)
 O2:LPq
def mc6(p:Oa4)(s:Eb7):St:=⟨.unk::.unk::.ptr 0 0 0 0::.ptr 1 0 0 0::.unk::.unk::i s.is6::ra 76 [],[bq 0 3 [[.v (.string p.D4),eL tLq p.b8,eL tI p.o6]],bq 0 3 [[eL tB p.B7,eL tB p.F5,eL tLq p.O2]]]⟩
def za8{α:Type}(k:Eb7->α)(e:Nat->α)(z:α)(p:Oa4)(s:Eb7):α:=let y0:=(gL tLq p.b8 s.is6.toNat);let t1:=(G3 (rt tP y0) (rt tLq p.O2));(sl (decide (s.is6<(↑(List.length p.b8):Int))) (sl (inB s.is6 (List.length p.o6)) (sl ((gL tI p.o6 s.is6.toNat)==1) (sl (inB s.is6 (List.length p.b8)) (sl (okE tP y0) (sl (okE tLq p.O2) (sl (X3 (rt tP y0) (rt tLq p.O2)) (sl (!t1) (e 1) (k ⟨W (s.is6+1)⟩)) z) z) z) z) (k ⟨W (s.is6+1)⟩)) z) (e 2))
def bb0(p:Oa4)(s:Eb7):Stp Eb7:=za8 .next .exit .fail p s
def Kb9:Lo Oa4 Eb7:=⟨En ub1,0,Pf2,[1,1,1,1,0,1,4,4],[2,3,6],.p,[⟨sUq::sUq::sPq 0::sPq 1::sUq::sUq::sIq::ru2 76 [],[⟨0,3,true,some [[.o .val,.c 1 (nL tLq),.c 1 (nL tI)]]⟩,⟨0,3,true,some [[.c 1 (nL tB),.c 1 (nL tB),.c 1 (nL tLq)]]⟩],λa H=>(⟨Sa1 (slT (rwT (elT H 0) 0) 0),hLq tLq H 0 0 1,hLq tI H 0 0 2,hLq tB H 1 0 0,hLq tB H 1 0 1,hLq tLq H 1 0 2⟩,⟨aIq a 6⟩)⟩],bb0,[(none,λp s=>⟨[i 35],[]⟩),(some 0,λp s=>upq (mc6 p s) [(18,i s.is6),(19,.ptr 0 0 1 0),(20,eL tLq p.b8),(21,i (↑(List.length p.b8):Int)),(22,b (decide (s.is6<(↑(List.length p.b8):Int))))])],mc6⟩
theorem td6:Kb9.Ok:=Qjt [] .nil λp s=>(.ofq @za8)
def mc7(p:Oa4)(s:qb8):St:=⟨.unk::.unk::.ptr 0 0 0 0::.ptr 1 0 0 0::ra 3 (i s.is7::ra 75 []),[bq 0 3 [[.v (.string p.D4),eL tLq p.b8,eL tI p.o6]],bq 0 3 [[eL tB p.B7,eL tB p.F5,eL tLq p.O2]]]⟩
def za9{α:Type}(k:qb8->α)(e:Nat->α)(z:α)(p:Oa4)(s:qb8):α:=(sl (decide (s.is7<(↑(List.length p.b8):Int))) (sl (inB s.is7 (List.length p.o6)) (sl ((gL tI p.o6 s.is7.toNat)==1) (sl (inB s.is7 (List.length p.F5)) (sl (gL tB p.F5 s.is7.toNat) (e 1) (k ⟨W (s.is7+1)⟩)) z) (k ⟨W (s.is7+1)⟩)) z) (e 2))
def bb1(p:Oa4)(s:qb8):Stp qb8:=za9 .next .exit .fail p s
def Lb0:Lo Oa4 qb8:=⟨En ub1,0,Pf2,[1,1,1,1,1,0,1,4,4],[2,3,7],.p,[⟨sUq::sUq::sPq 0::sPq 1::ru2 3 (sIq::ru2 75 []),[⟨0,3,true,some [[.o .val,.c 1 (nL tLq),.c 1 (nL tI)]]⟩,⟨0,3,true,some [[.c 1 (nL tB),.c 1 (nL tB),.c 1 (nL tLq)]]⟩],λa H=>(⟨Sa1 (slT (rwT (elT H 0) 0) 0),hLq tLq H 0 0 1,hLq tI H 0 0 2,hLq tB H 1 0 0,hLq tB H 1 0 1,hLq tLq H 1 0 2⟩,⟨aIq a 7⟩)⟩],bb1,[(none,λp s=>⟨[i 30],[]⟩),(some 2,λp s=>upq (mc7 p s) [(42,i s.is7),(43,.ptr 0 0 1 0),(44,eL tLq p.b8),(45,i (↑(List.length p.b8):Int)),(46,b (decide (s.is7<(↑(List.length p.b8):Int))))])],mc7⟩
theorem td7:Lb0.Ok:=Qjt [] .nil λp s=>(.ofq @za9)
def mc8(p:Oa4)(s:B8):St:=⟨.unk::.unk::.ptr 0 0 0 0::.ptr 1 0 0 0::ra 4 (i s.is8::ra 74 []),[bq 0 3 [[.v (.string p.D4),eL tLq p.b8,eL tI p.o6]],bq 0 3 [[eL tB p.B7,eL tB p.F5,eL tLq p.O2]]]⟩
def Aa0{α:Type}(k:B8->α)(e:Nat->α)(z:α)(p:Oa4)(s:B8):α:=(sl (decide (s.is8<(↑(List.length p.b8):Int))) (sl (inB s.is8 (List.length p.o6)) (sl ((gL tI p.o6 s.is8.toNat)==2) (sl (inB s.is8 (List.length p.B7)) (sl (!(gL tB p.B7 s.is8.toNat)) (e 1) (k ⟨W (s.is8+1)⟩)) z) (k ⟨W (s.is8+1)⟩)) z) (e 2))
def bb2(p:Oa4)(s:B8):Stp B8:=Aa0 .next .exit .fail p s
def Lb1:Lo Oa4 B8:=⟨En ub1,0,Pf2,[1,1,1,1,1,1,0,1,4,4],[2,3,8],.p,[⟨sUq::sUq::sPq 0::sPq 1::ru2 4 (sIq::ru2 74 []),[⟨0,3,true,some [[.o .val,.c 1 (nL tLq),.c 1 (nL tI)]]⟩,⟨0,3,true,some [[.c 1 (nL tB),.c 1 (nL tB),.c 1 (nL tLq)]]⟩],λa H=>(⟨Sa1 (slT (rwT (elT H 0) 0) 0),hLq tLq H 0 0 1,hLq tI H 0 0 2,hLq tB H 1 0 0,hLq tB H 1 0 1,hLq tLq H 1 0 2⟩,⟨aIq a 8⟩)⟩],bb2,[(none,λp s=>⟨[i 34],[]⟩),(some 4,λp s=>upq (mc8 p s) [(62,i s.is8),(63,.ptr 0 0 1 0),(64,eL tLq p.b8),(65,i (↑(List.length p.b8):Int)),(66,b (decide (s.is8<(↑(List.length p.b8):Int))))])],mc8⟩
theorem td8:Lb1.Ok:=Qjt [] .nil λp s=>(.ofq @Aa0)
def ib9(x:Prt)(y:Pce):ROq:=let y7:=(rt tB (rt tB y.to));let y6:=(rt tB (rt tB y.su));let y5:=(rt tI (rt tI x.wt));let y4:=(rt tLq (rt tLq y.cu));let y3:=(rt tLq (rt tLq x.cl));let y2:=((okE tLq x.cl)&&((okE tI x.wt)&&true));let y1:=(⟨rt tB y.su,rt tB y.to,rt tLq y.cu⟩:Pce);let y0:=(⟨x.nm,rt tLq x.cl,rt tI x.wt⟩:Prt);let t1:=(nb9 y0);let t2:=(Ab2 y0 y1);let t3:=(lp (bb0 (⟨x.nm,rt tLq x.cl,rt tI x.wt,rt tB y.su,rt tB y.to,rt tLq y.cu⟩:Oa4)) (⟨0⟩:Eb7));let t4:=(lp (bb1 (⟨x.nm,y3,y5,y6,y7,y4⟩:Oa4)) (⟨0⟩:qb8));let t5:=(lp (bb2 (⟨x.nm,rt tLq y3,rt tI y5,rt tB y6,rt tB y7,rt tLq y4⟩:Oa4)) (⟨0⟩:B8));(sl y2 (sl (ob0 y0) (sl (t1 != 0) (some (i t1,[])) (sl y2 (sl ((okE tB y.su)&&((okE tB y.to)&&((okE tLq y.cu)&&true))) (sl (Ab3 y0 y1) (sl (!t2) (some (i 4,[])) (sl ((cnE tLq x.cl)&&((cnE tI x.wt)&&((cnE tB y.su)&&((cnE tB y.to)&&((cnE tLq y.cu)&&true))))) (sl (Nat.beq t3.1 1) (some (i 35,[])) (sl (Nat.beq t3.1 2) (sl ((cnE tLq (rt tLq x.cl))&&((cnE tI (rt tI x.wt))&&((cnE tB (rt tB y.su))&&((cnE tB (rt tB y.to))&&((cnE tLq (rt tLq y.cu))&&true))))) (sl (Nat.beq t4.1 1) (some (i 30,[])) (sl (Nat.beq t4.1 2) (sl ((cnE tLq y3)&&((cnE tI y5)&&((cnE tB y6)&&((cnE tB y7)&&((cnE tLq y4)&&true))))) (sl (Nat.beq t5.1 1) (some (i 34,[])) (sl (Nat.beq t5.1 2) (some (i 0,[])) none)) none) none)) none) none)) none)) none) none) none)) none) none)
def ba6(x:Prt)(y:Pce):Int:=L9 (one r1I) (ib9 x y)
def ba7(x:Prt)(y:Pce):Bool:=okO (one r1I) (ib9 x y)
def Wc5:Sum:=Z7 cJ cO (λx y=>.guard (ba7 x y) (.ret ((one r1I).enc (ba6 x y),[])))
theorem Sd8:l8 prog G 23 Wc5:=dc7 (bd b23 Dd1) (one r1I) (o:=ib9) λx y=>Q3 (.s .p (.s .p (.s .p (.s .p (.s (.s .p (.b (.u Kb9.ls))) (.s (.s .p (.b (.u Lb0.ls))) (.s (.s .p (.b (.u Lb1.ls))) .p))))))) [Kb9.pr,Lb0.pr,Lb1.pr] (.cons td6 (.cons td7 (.cons td8 .nil)))
def yd7:List (Nat×Sum):=[(13,bc8),(51,tc5)]
theorem ue7:A4 prog G yd7:=⟨tc4,Kc7,trivial⟩
structure V2 where
 ph:Nat
 is6:Int
 ns5:Nat
 eh2:List (List b7)
def Kc8(p:Oa4)(s:V2):St:=⟨.unk::.unk::.ptr 0 0 0 0::.ptr 1 0 0 0::.unk::nlq::i s.is6::ra 33 [],[bq 0 3 [[.v (.string p.D4),eL tLq p.b8,eL tI p.o6]],bq 0 3 [[eL tB p.B7,eL tB p.F5,eL tLq p.O2]]]⟩
def Kc9(p:Oa4)(s:V2):St:=⟨.unk::.unk::.ptr 0 0 0 0::.ptr 1 0 0 0::.unk::.sl 2 0 s.ns5 0::i s.is6::ra 33 [],[bq 0 3 [[.v (.string p.D4),eL tLq p.b8,eL tI p.o6]],bq 0 3 [[eL tB p.B7,eL tB p.F5,eL tLq p.O2]],bq 35 1 s.eh2]⟩
def Zd9(p:Oa4)(s:V2):St:=(sel (Nat.beq s.ph 1) (Kc9 p s) (Kc8 p s))
def Ha6{α:Type}(k:V2->α)(e:Nat->α)(z:α)(p:Oa4)(s:V2):α:=let y0:=(gL tLq p.b8 s.is6.toNat);let y1:=(List.range (List.length y0));(sl (decide (s.is6<(↑(List.length p.b8):Int))) (sl (inB s.is6 (List.length p.B7)) (sl (!(gL tB p.B7 s.is6.toNat)) (sl (inB s.is6 (List.length p.b8)) (sl (Nat.beq 0 0&&Nat.ble ((0+(len (s5 (λk=>(tP).row (gL tP y0 k)) y1)))*32) room) (k ⟨1,W (s.is6+1),1,[[(.tree 4 (0+(len (s5 (λk=>(tP).row (gL tP y0 k)) y1))) (λk=>c8 (app [] (s5 (λk=>(tP).row (gL tP y0 k)) y1)) (0+k)))]]⟩) z) z) (k ⟨0,W (s.is6+1),0,[]⟩)) z) (e 1))
def Ha7{α:Type}(k:V2->α)(e:Nat->α)(z:α)(p:Oa4)(s:V2):α:=let y0:=(gL tLq p.b8 s.is6.toNat);let y1:=(List.range (List.length y0));(sl (decide (s.is6<(↑(List.length p.b8):Int))) (sl (inB s.is6 (List.length p.B7)) (sl (!(gL tB p.B7 s.is6.toNat)) (sl (inB s.is6 (List.length p.b8)) (sl (Nat.beq 0 0&&Nat.ble ((0+(len (s5 (λk=>(tP).row (gL tP y0 k)) y1)))*32) room) (sl (Nat.beq s.ns5 (len s.eh2)&&Nat.ble ((s.ns5+1)*24) room) (k ⟨1,W (s.is6+1),s.ns5+1,(app s.eh2 [[(.tree 4 (0+(len (s5 (λk=>(tP).row (gL tP y0 k)) y1))) (λk=>c8 (app [] (s5 (λk=>(tP).row (gL tP y0 k)) y1)) (0+k)))]])⟩) z) z) z) (k ⟨1,W (s.is6+1),s.ns5,s.eh2⟩)) z) (e 2))
def Pa5(p:Oa4)(s:V2):Stp V2:=(sel (Nat.beq s.ph 1) (Ha7 .next .exit .fail p s) (Ha6 .next .exit .fail p s))
def yc8(a:List b7)(H:List c7):Oa4:=⟨Sa1 (slT (rwT (elT H 0) 0) 0),hLq tLq H 0 0 1,hLq tI H 0 0 2,hLq tB H 1 0 0,hLq tB H 1 0 1,hLq tLq H 1 0 2⟩
def tc6:Lo Oa4 V2:=⟨En yd7,0,tg2,[1,1,1,0,1,4,4],[2,3,5,6],.p,[⟨sUq::sUq::sPq 0::sPq 1::sUq::.s (.o .nil)::sIq::ru2 33 [],[⟨0,3,true,some [[.o .val,.c 1 (nL tLq),.c 1 (nL tI)]]⟩,⟨0,3,true,some [[.c 1 (nL tB),.c 1 (nL tB),.c 1 (nL tLq)]]⟩],λa H=>(yc8 a H,⟨0,aIq a 6,0,[]⟩)⟩,⟨sUq::sUq::sPq 0::sPq 1::sUq::.s (.o (.sl 2 0 (some 0) none))::sIq::ru2 33 [],[⟨0,3,true,some [[.o .val,.c 1 (nL tLq),.c 1 (nL tI)]]⟩,⟨0,3,true,some [[.c 1 (nL tB),.c 1 (nL tB),.c 1 (nL tLq)]]⟩,⟨35,1,true,none⟩],λa H=>(yc8 a H,⟨1,aIq a 6,slN (slT a 5),elT H 2⟩)⟩],Pa5,[(some 0,λp s=>upq (Kc8 p s) [(16,i s.is6),(17,.ptr 0 0 1 0),(18,eL tLq p.b8),(19,i (↑(List.length p.b8):Int)),(20,b (decide (s.is6<(↑(List.length p.b8):Int))))]),(some 0,λp s=>upq (Kc9 p s) [(16,i s.is6),(17,.ptr 0 0 1 0),(18,eL tLq p.b8),(19,i (↑(List.length p.b8):Int)),(20,b (decide (s.is6<(↑(List.length p.b8):Int))))])],Zd9⟩
theorem ae0:tc6.Ok:=Qjt [] .nil λp s=>(.sel (Nat.beq s.ph 1) (.ofq @Ha7) (.ofq @Ha6))
def Vb9(x:Prt)(y:Pce):ROq:=let y2:=((okE tLq x.cl)&&((okE tI x.wt)&&true));let y1:=(⟨rt tB y.su,rt tB y.to,rt tLq y.cu⟩:Pce);let y0:=(⟨x.nm,rt tLq x.cl,rt tI x.wt⟩:Prt);let t1:=(nb9 y0);let t2:=(Ab2 y0 y1);let t3:=(lp (Pa5 (⟨x.nm,rt tLq x.cl,rt tI x.wt,rt tB y.su,rt tB y.to,rt tLq y.cu⟩:Oa4)) (⟨0,0,0,[]⟩:V2));(sl y2 (sl (ob0 y0) (sl (t1 != 0) (some (nlq,[])) (sl y2 (sl ((okE tB y.su)&&((okE tB y.to)&&((okE tLq y.cu)&&true))) (sl (Ab3 y0 y1) (sl (!t2) (some (nlq,[])) (sl ((cnE tLq x.cl)&&((cnE tI x.wt)&&((cnE tB y.su)&&((cnE tB y.to)&&((cnE tLq y.cu)&&true))))) (sl (Nat.beq t3.1 1) (some (nlq,[])) (sl (Nat.beq t3.1 2) (some (.sl 0 0 t3.2.ns5 0,[bq 35 1 t3.2.eh2])) none)) none)) none) none) none)) none) none)
def La4(x:Prt)(y:Pce):LPq:=L9 (one (r1L tLq)) (Vb9 x y)
def La5(x:Prt)(y:Pce):Bool:=okO (one (r1L tLq)) (Vb9 x y)
def Sd9:Sum:=Z7 cJ cO (λx y=>.guard (La5 x y) (.ret ((one (r1L tLq)).enc (La4 x y),[])))
theorem Ke5:l8 prog G 26 Sd9:=dc7 (bd b26 ue7) (one (r1L tLq)) (o:=Vb9) λx y=>Q3 (.s .p (.s .p (.s .p (.s (.s .p (.b (.u tc6.ls))) .p)))) [tc6.pr] (.cons ae0 .nil)
def yc9(p:ua4)(s:Tf0):St:=⟨eL tLq p.n7::.unk::.unk::nlq::i s.is4::ra 16 [],[]⟩
def zc0(p:ua4)(s:Tf0):St:=⟨eL tLq p.n7::.unk::.unk::.sl 0 0 s.ns3 0::i s.is4::ra 16 [],[bq 35 1 s.eh0]⟩
def Td0(p:ua4)(s:Tf0):St:=(sel (Nat.beq s.ph 1) (zc0 p s) (yc9 p s))
def xa0{α:Type}(k:Tf0->α)(e:Nat->α)(z:α)(p:ua4)(s:Tf0):α:=let y0:=(gL tLq p.n7 s.is4.toNat);let y1:=(List.range (List.length y0));(sl (decide (s.is4<(↑(List.length p.n7):Int))) (sl (inB s.is4 (List.length p.n7)) (sl (Nat.beq 0 0&&Nat.ble ((0+(len (s5 (λk=>(tP).row (gL tP y0 k)) y1)))*32) room) (k ⟨1,W (s.is4+1),1,[[(.tree 4 (0+(len (s5 (λk=>(tP).row (gL tP y0 k)) y1))) (λk=>c8 (app [] (s5 (λk=>(tP).row (gL tP y0 k)) y1)) (0+k)))]]⟩) z) z) (e 1))
def xa1{α:Type}(k:Tf0->α)(e:Nat->α)(z:α)(p:ua4)(s:Tf0):α:=let y0:=(gL tLq p.n7 s.is4.toNat);let y1:=(List.range (List.length y0));(sl (decide (s.is4<(↑(List.length p.n7):Int))) (sl (inB s.is4 (List.length p.n7)) (sl (Nat.beq 0 0&&Nat.ble ((0+(len (s5 (λk=>(tP).row (gL tP y0 k)) y1)))*32) room) (sl (Nat.beq s.ns3 (len s.eh0)&&Nat.ble ((s.ns3+1)*24) room) (k ⟨1,W (s.is4+1),s.ns3+1,(app s.eh0 [[(.tree 4 (0+(len (s5 (λk=>(tP).row (gL tP y0 k)) y1))) (λk=>c8 (app [] (s5 (λk=>(tP).row (gL tP y0 k)) y1)) (0+k)))]])⟩) z) z) z) (e 2))
def Ha8(p:ua4)(s:Tf0):Stp Tf0:=(sel (Nat.beq s.ph 1) (xa1 .next .exit .fail p s) (xa0 .next .exit .fail p s))
def hc7:Lo ua4 Tf0:=⟨En tbN,0,tg4,[1,1,0,1,4,4],[0,3,4],.p,[⟨sLq tLq::sUq::sUq::.s (.o .nil)::sIq::ru2 16 [],[],λa H=>(⟨aLq tLq a 0⟩,⟨0,aIq a 4,0,[]⟩)⟩,⟨sLq tLq::sUq::sUq::.s (.o (.sl 0 0 (some 0) none))::sIq::ru2 16 [],[⟨35,1,true,none⟩],λa H=>(⟨aLq tLq a 0⟩,⟨1,aIq a 4,slN (slT a 3),elT H 0⟩)⟩],Ha8,[(some 0,λp s=>upq (yc9 p s) [(5,i s.is4),(6,eL tLq p.n7),(7,i (↑(List.length p.n7):Int)),(8,b (decide (s.is4<(↑(List.length p.n7):Int))))]),(some 0,λp s=>upq (zc0 p s) [(5,i s.is4),(6,eL tLq p.n7),(7,i (↑(List.length p.n7):Int)),(8,b (decide (s.is4<(↑(List.length p.n7):Int))))])],Td0⟩
theorem Td1:hc7.Ok:=Qjt [] .nil λp s=>(.sel (Nat.beq s.ph 1) (.ofq @xa1) (.ofq @xa0))
def Lc1{α:Type}(kk:Qa2->α)(x:LPq):α:=let t1:=(lp (Ha8 (⟨rt tLq x⟩:ua4)) (⟨0,0,0,[]⟩:Tf0));(sl ((cnE tLq x)&&true) (sl (Nat.beq t1.1 1) (kk ⟨1,0,[]⟩) (sl (Nat.beq t1.1 2) (kk ⟨2,t1.2.ns3,t1.2.eh0⟩) (kk ⟨0,0,[]⟩))) (kk ⟨0,0,[]⟩))
def Xa6(x:LPq):Qa2:=Lc1 (λr=>r) x
def ld9(r:Qa2):DT (b7×List c7):=(Ma1 r.alt 1 (nlq,[]) (Ma1 r.alt 2 (.sl 0 0 r.ns0 0,[bq 35 1 r.eh0]) .fail))
def bc9:Sum:=S7 (M3 tLq) (λx=>ld9 (Xa6 x))
theorem tc7:l8 prog G 30 bc9:=Zb2 (bd b30 ya0) λx=>Q3 (.s .p (.s .p (.s (.s .p (.b (.u hc7.ls))) .p))) [hc7.pr] (.cons Td1 .nil) (mEq @Lc1 (λr=>(ld9 r).run) x)
def md0:List (Nat×Sum):=[(13,bc8),(51,tc5),(52,hc5),(30,bc9),(55,yd6),(54,ld4),(53,Kc0)]
theorem ae1:A4 prog G md0:=⟨tc4,Kc7,Kc6,tc7,ue6,Zd5,ld6,trivial⟩
structure z8 where
 (ba2 ba3:LPq)
 D4:ByteArray
 b8:LPq
 o6:List Int
 (B7 F5:List Bool)
 O2:LPq
 O3:Nat
structure m9 where
 ph:Nat
 G1:Int
 (G8 B3:Nat)
 (eh4 eh5 eh6:List (List b7))
def zc1(p:z8)(s:m9):St:=⟨.unk::.unk::eL tLq p.ba2::eL tLq p.ba3::.ptr 0 0 0 0::.ptr 1 0 0 0::.unk::.unk::.ptr 2 0 0 0::.unk::.unk::.ptr 3 0 0 0::i s.G1::ra 99 [],[bq 0 3 [[.v (.string p.D4),eL tLq p.b8,eL tI p.o6]],bq 0 3 [[eL tB p.B7,eL tB p.F5,eL tLq p.O2]],bq 0 3 [[nlq,nlq,nlq]],bq 0 0 [[nlq,nlq,nlq]]]⟩
def zc2(p:z8)(s:m9):St:=⟨.unk::.unk::eL tLq p.ba2::eL tLq p.ba3::.ptr 0 0 0 0::.ptr 1 0 0 0::.unk::.unk::.ptr 2 0 0 0::.unk::.unk::.ptr 3 0 0 0::i s.G1::ra 99 [],[bq 0 3 [[.v (.string p.D4),eL tLq p.b8,eL tI p.o6]],bq 0 3 [[eL tB p.B7,eL tB p.F5,eL tLq p.O2]],bq 0 3 [[nlq,nlq,nlq]],bq 0 0 [[.sl 4 0 s.G8 0,.sl 5 0 s.B3 0,nlq]],bq 4 1 s.eh4,bq 4 1 s.eh5]⟩
def zc3(p:z8)(s:m9):St:=⟨.unk::.unk::eL tLq p.ba2::eL tLq p.ba3::.ptr 0 0 0 0::.ptr 1 0 0 0::.unk::.unk::.ptr 2 0 0 0::.unk::.unk::.ptr 3 0 0 0::i s.G1::ra 99 [],[bq 0 3 [[.v (.string p.D4),eL tLq p.b8,eL tI p.o6]],bq 0 3 [[eL tB p.B7,eL tB p.F5,eL tLq p.O2]],bq 0 3 [[nlq,nlq,nlq]],bq 0 0 [[nlq,nlq,.sl 4 0 p.O3 0]],bq 35 1 s.eh4]⟩
def zc4(p:z8)(s:m9):St:=⟨.unk::.unk::eL tLq p.ba2::eL tLq p.ba3::.ptr 0 0 0 0::.ptr 1 0 0 0::.unk::.unk::.ptr 2 0 0 0::.unk::.unk::.ptr 3 0 0 0::i s.G1::ra 99 [],[bq 0 3 [[.v (.string p.D4),eL tLq p.b8,eL tI p.o6]],bq 0 3 [[eL tB p.B7,eL tB p.F5,eL tLq p.O2]],bq 0 3 [[nlq,nlq,nlq]],bq 0 0 [[.sl 4 0 s.G8 0,.sl 5 0 s.B3 0,.sl 6 0 p.O3 0]],bq 4 1 s.eh4,bq 4 1 s.eh5,⟨35,1,s.eh6,false,false,0⟩]⟩
def zc5(p:z8)(s:m9):St:=⟨.unk::.unk::eL tLq p.ba2::eL tLq p.ba3::.ptr 0 0 0 0::.ptr 1 0 0 0::.unk::.unk::.ptr 2 0 0 0::.unk::.unk::.ptr 3 0 0 0::i s.G1::ra 99 [],[bq 0 3 [[.v (.string p.D4),eL tLq p.b8,eL tI p.o6]],bq 0 3 [[eL tB p.B7,eL tB p.F5,eL tLq p.O2]],bq 0 3 [[nlq,nlq,nlq]],bq 0 0 [[.sl 4 0 s.G8 0,.sl 5 0 s.B3 0,.sl 6 0 p.O3 0]],bq 4 1 s.eh4,bq 4 1 s.eh5,bq 35 1 s.eh6]⟩
def Td2(p:z8)(s:m9):St:=(sel (Nat.beq s.ph 4) (zc5 p s) (sel (Nat.beq s.ph 3) (zc4 p s) (sel (Nat.beq s.ph 2) (zc3 p s) (sel (Nat.beq s.ph 1) (zc2 p s) (zc1 p s)))))
def xa2{α:Type}(k:m9->α)(e:Nat->α)(z:α)(p:z8)(s:m9):α:=let y4:=(W (s.G1+1));let y2:=(inB s.G1 (List.length p.B7));let y1:=(gL tB p.B7 s.G1.toNat);let y0:=(gL tLq p.b8 s.G1.toNat);let y5:=(aa6 [] (rt tP y0));let t1:=(G4 [] (rt tP y0));let y3:=(za6 (rt tLq t1) (rt tP y0));let t2:=(E6 (rt tLq t1) (rt tP y0));let t3:=(G3 (rt tP y0) (rt tLq p.ba2));let t4:=(G3 (rt tP y0) (rt tLq p.ba3));(sl (decide (s.G1<(↑(List.length p.b8):Int))) (sl (inB s.G1 (List.length p.b8)) (sl (inB s.G1 (List.length p.F5)) (sl (gL tB p.F5 s.G1.toNat) (sl y2 (sl (!y1) (sl (okE tP y0) (sl y5 (sl (okE tLq t1) (sl (okE tP y0) (sl y3 (sl (t2.2 != 0) (e 1) (k ⟨1,y4,1,1,[[b t2.1]],[[b true]],[]⟩)) z) z) z) z) z) (k ⟨1,y4,1,1,[[b y1]],[[b true]],[]⟩)) z) (sl (okE tP y0) (sl (okE tLq p.ba2) (sl (X3 (rt tP y0) (rt tLq p.ba2)) (sl (!t3) (sl y2 (sl (!y1) (sl (okE tP y0) (sl y5 (sl (okE tLq t1) (sl (okE tP y0) (sl y3 (sl (t2.2 != 0) (e 2) (k ⟨1,y4,1,1,[[b t2.1]],[[b true]],[]⟩)) z) z) z) z) z) (k ⟨1,y4,1,1,[[b y1]],[[b true]],[]⟩)) z) (sl (okE tP y0) (sl (okE tLq p.ba3) (sl (X3 (rt tP y0) (rt tLq p.ba3)) (sl y2 (sl (!y1) (sl (okE tP y0) (sl y5 (sl (okE tLq t1) (sl (okE tP y0) (sl y3 (sl (t2.2 != 0) (e 3) (k ⟨1,y4,1,1,[[b t2.1]],[[b (!t4)]],[]⟩)) z) z) z) z) z) (k ⟨1,y4,1,1,[[b y1]],[[b (!t4)]],[]⟩)) z) z) z) z)) z) z) z)) z) z) (e 4))
def xa3{α:Type}(k:m9->α)(e:Nat->α)(z:α)(p:z8)(s:m9):α:=let y7:=(W (s.G1+1));let y4:=(inB s.G1 (List.length p.B7));let y3:=(gL tB p.B7 s.G1.toNat);let y2:=(Nat.beq s.B3 (len s.eh5)&&Nat.ble ((s.B3+1)*1) room);let y1:=(Nat.beq s.G8 (len s.eh4)&&Nat.ble ((s.G8+1)*1) room);let y0:=(gL tLq p.b8 s.G1.toNat);let y6:=(aa6 [] (rt tP y0));let t1:=(G4 [] (rt tP y0));let y5:=(za6 (rt tLq t1) (rt tP y0));let t2:=(E6 (rt tLq t1) (rt tP y0));let t3:=(G3 (rt tP y0) (rt tLq p.ba2));let t4:=(G3 (rt tP y0) (rt tLq p.ba3));let w0:α:=(sl y1 (k ⟨1,y7,s.G8+1,s.B3+1,app s.eh4 [[b y3]],app s.eh5 [[b true]],[]⟩) z);let w1:α:=(sl y1 (k ⟨1,y7,s.G8+1,s.B3+1,app s.eh4 [[b t2.1]],app s.eh5 [[b true]],[]⟩) z);(sl (decide (s.G1<(↑(List.length p.b8):Int))) (sl (inB s.G1 (List.length p.b8)) (sl (inB s.G1 (List.length p.F5)) (sl (gL tB p.F5 s.G1.toNat) (sl y2 (sl y4 (sl (!y3) (sl (okE tP y0) (sl y6 (sl (okE tLq t1) (sl (okE tP y0) (sl y5 (sl (t2.2 != 0) (e 5) w1) z) z) z) z) z) w0) z) z) (sl (okE tP y0) (sl (okE tLq p.ba2) (sl (X3 (rt tP y0) (rt tLq p.ba2)) (sl (!t3) (sl y2 (sl y4 (sl (!y3) (sl (okE tP y0) (sl y6 (sl (okE tLq t1) (sl (okE tP y0) (sl y5 (sl (t2.2 != 0) (e 6) w1) z) z) z) z) z) w0) z) z) (sl (okE tP y0) (sl (okE tLq p.ba3) (sl (X3 (rt tP y0) (rt tLq p.ba3)) (sl y2 (sl y4 (sl (!y3) (sl (okE tP y0) (sl y6 (sl (okE tLq t1) (sl (okE tP y0) (sl y5 (sl (t2.2 != 0) (e 7) (sl y1 (k ⟨1,y7,s.G8+1,s.B3+1,app s.eh4 [[b t2.1]],app s.eh5 [[b (!t4)]],[]⟩) z)) z) z) z) z) z) (sl y1 (k ⟨1,y7,s.G8+1,s.B3+1,app s.eh4 [[b y3]],app s.eh5 [[b (!t4)]],[]⟩) z)) z) z) z) z) z)) z) z) z)) z) z) (e 8))
def xa4{α:Type}(k:m9->α)(e:Nat->α)(z:α)(p:z8)(s:m9):α:=let y4:=(W (s.G1+1));let y2:=(inB s.G1 (List.length p.B7));let y1:=(gL tB p.B7 s.G1.toNat);let y0:=(gL tLq p.b8 s.G1.toNat);let t1:=(G4 (lsL tLq p.O3 (λk=>c8 s.eh4 (0+k))) (rt tP y0));let y3:=(za6 (rt tLq t1) (rt tP y0));let t2:=(E6 (rt tLq t1) (rt tP y0));let t3:=(G3 (rt tP y0) (rt tLq p.ba2));let t4:=(G3 (rt tP y0) (rt tLq p.ba3));(sl (decide (s.G1<(↑(List.length p.b8):Int))) (sl (inB s.G1 (List.length p.b8)) (sl (inB s.G1 (List.length p.F5)) (sl (gL tB p.F5 s.G1.toNat) (sl y2 (sl (!y1) (sl (okL tLq p.O3 (λk=>c8 s.eh4 (0+k))) (sl (okE tP y0) (sl (aa6 (lsL tLq p.O3 (λk=>c8 s.eh4 (0+k))) (rt tP y0)) (sl (okE tLq t1) (sl (okE tP y0) (sl y3 (sl (t2.2 != 0) (e 9) (k ⟨3,y4,1,1,[[b t2.1]],[[b true]],s.eh4⟩)) z) z) z) z) z) z) (k ⟨4,y4,1,1,[[b y1]],[[b true]],s.eh4⟩)) z) (sl (okE tP y0) (sl (okE tLq p.ba2) (sl (X3 (rt tP y0) (rt tLq p.ba2)) (sl (!t3) (sl y2 (sl (!y1) (sl (okL tLq p.O3 (λk=>c8 s.eh4 (0+k))) (sl (okE tP y0) (sl (aa6 (lsL tLq p.O3 (λk=>c8 s.eh4 (0+k))) (rt tP y0)) (sl (okE tLq t1) (sl (okE tP y0) (sl y3 (sl (t2.2 != 0) (e 10) (k ⟨3,y4,1,1,[[b t2.1]],[[b true]],s.eh4⟩)) z) z) z) z) z) z) (k ⟨4,y4,1,1,[[b y1]],[[b true]],s.eh4⟩)) z) (sl (okE tP y0) (sl (okE tLq p.ba3) (sl (X3 (rt tP y0) (rt tLq p.ba3)) (sl y2 (sl (!y1) (sl (okL tLq p.O3 (λk=>c8 s.eh4 (0+k))) (sl (okE tP y0) (sl (aa6 (lsL tLq p.O3 (λk=>c8 s.eh4 (0+k))) (rt tP y0)) (sl (okE tLq t1) (sl (okE tP y0) (sl y3 (sl (t2.2 != 0) (e 11) (k ⟨3,y4,1,1,[[b t2.1]],[[b (!t4)]],s.eh4⟩)) z) z) z) z) z) z) (k ⟨4,y4,1,1,[[b y1]],[[b (!t4)]],s.eh4⟩)) z) z) z) z)) z) z) z)) z) z) (e 12))
def xa5{α:Type}(k:m9->α)(e:Nat->α)(z:α)(p:z8)(s:m9):α:=let y6:=(W (s.G1+1));let y4:=(inB s.G1 (List.length p.B7));let y3:=(gL tB p.B7 s.G1.toNat);let y2:=(Nat.beq s.B3 (len s.eh5)&&Nat.ble ((s.B3+1)*1) room);let y1:=(Nat.beq s.G8 (len s.eh4)&&Nat.ble ((s.G8+1)*1) room);let y0:=(gL tLq p.b8 s.G1.toNat);let t1:=(G4 (lsL tLq p.O3 (λk=>c8 s.eh6 (0+k))) (rt tP y0));let y5:=(za6 (rt tLq t1) (rt tP y0));let t2:=(E6 (rt tLq t1) (rt tP y0));let t3:=(G3 (rt tP y0) (rt tLq p.ba2));let t4:=(G3 (rt tP y0) (rt tLq p.ba3));let w0:α:=(sl y1 (k ⟨3,y6,s.G8+1,s.B3+1,app s.eh4 [[b y3]],app s.eh5 [[b true]],s.eh6⟩) z);let w1:α:=(sl y1 (k ⟨3,y6,s.G8+1,s.B3+1,app s.eh4 [[b t2.1]],app s.eh5 [[b true]],s.eh6⟩) z);(sl (decide (s.G1<(↑(List.length p.b8):Int))) (sl (inB s.G1 (List.length p.b8)) (sl (inB s.G1 (List.length p.F5)) (sl (gL tB p.F5 s.G1.toNat) (sl y2 (sl y4 (sl (!y3) (sl (okL tLq p.O3 (λk=>c8 s.eh6 (0+k))) (sl (okE tP y0) (sl (aa6 (lsL tLq p.O3 (λk=>c8 s.eh6 (0+k))) (rt tP y0)) (sl (okE tLq t1) (sl (okE tP y0) (sl y5 (sl (t2.2 != 0) (e 13) w1) z) z) z) z) z) z) w0) z) z) (sl (okE tP y0) (sl (okE tLq p.ba2) (sl (X3 (rt tP y0) (rt tLq p.ba2)) (sl (!t3) (sl y2 (sl y4 (sl (!y3) (sl (okL tLq p.O3 (λk=>c8 s.eh6 (0+k))) (sl (okE tP y0) (sl (aa6 (lsL tLq p.O3 (λk=>c8 s.eh6 (0+k))) (rt tP y0)) (sl (okE tLq t1) (sl (okE tP y0) (sl y5 (sl (t2.2 != 0) (e 14) w1) z) z) z) z) z) z) w0) z) z) (sl (okE tP y0) (sl (okE tLq p.ba3) (sl (X3 (rt tP y0) (rt tLq p.ba3)) (sl y2 (sl y4 (sl (!y3) (sl (okL tLq p.O3 (λk=>c8 s.eh6 (0+k))) (sl (okE tP y0) (sl (aa6 (lsL tLq p.O3 (λk=>c8 s.eh6 (0+k))) (rt tP y0)) (sl (okE tLq t1) (sl (okE tP y0) (sl y5 (sl (t2.2 != 0) (e 15) (sl y1 (k ⟨3,y6,s.G8+1,s.B3+1,app s.eh4 [[b t2.1]],app s.eh5 [[b (!t4)]],s.eh6⟩) z)) z) z) z) z) z) z) (sl y1 (k ⟨3,y6,s.G8+1,s.B3+1,app s.eh4 [[b y3]],app s.eh5 [[b (!t4)]],s.eh6⟩) z)) z) z) z) z) z)) z) z) z)) z) z) (e 16))
def xa6{α:Type}(k:m9->α)(e:Nat->α)(z:α)(p:z8)(s:m9):α:=let y6:=(W (s.G1+1));let y4:=(inB s.G1 (List.length p.B7));let y3:=(gL tB p.B7 s.G1.toNat);let y2:=(Nat.beq s.B3 (len s.eh5)&&Nat.ble ((s.B3+1)*1) room);let y1:=(Nat.beq s.G8 (len s.eh4)&&Nat.ble ((s.G8+1)*1) room);let y0:=(gL tLq p.b8 s.G1.toNat);let t1:=(G4 (lsL tLq p.O3 (λk=>c8 s.eh6 (0+k))) (rt tP y0));let y5:=(za6 (rt tLq t1) (rt tP y0));let t2:=(E6 (rt tLq t1) (rt tP y0));let t3:=(G3 (rt tP y0) (rt tLq p.ba2));let t4:=(G3 (rt tP y0) (rt tLq p.ba3));let w0:α:=(sl y1 (k ⟨4,y6,s.G8+1,s.B3+1,app s.eh4 [[b y3]],app s.eh5 [[b true]],s.eh6⟩) z);let w1:α:=(sl y1 (k ⟨3,y6,s.G8+1,s.B3+1,app s.eh4 [[b t2.1]],app s.eh5 [[b true]],s.eh6⟩) z);(sl (decide (s.G1<(↑(List.length p.b8):Int))) (sl (inB s.G1 (List.length p.b8)) (sl (inB s.G1 (List.length p.F5)) (sl (gL tB p.F5 s.G1.toNat) (sl y2 (sl y4 (sl (!y3) (sl (okL tLq p.O3 (λk=>c8 s.eh6 (0+k))) (sl (okE tP y0) (sl (aa6 (lsL tLq p.O3 (λk=>c8 s.eh6 (0+k))) (rt tP y0)) (sl (okE tLq t1) (sl (okE tP y0) (sl y5 (sl (t2.2 != 0) (e 17) w1) z) z) z) z) z) z) w0) z) z) (sl (okE tP y0) (sl (okE tLq p.ba2) (sl (X3 (rt tP y0) (rt tLq p.ba2)) (sl (!t3) (sl y2 (sl y4 (sl (!y3) (sl (okL tLq p.O3 (λk=>c8 s.eh6 (0+k))) (sl (okE tP y0) (sl (aa6 (lsL tLq p.O3 (λk=>c8 s.eh6 (0+k))) (rt tP y0)) (sl (okE tLq t1) (sl (okE tP y0) (sl y5 (sl (t2.2 != 0) (e 18) w1) z) z) z) z) z) z) w0) z) z) (sl (okE tP y0) (sl (okE tLq p.ba3) (sl (X3 (rt tP y0) (rt tLq p.ba3)) (sl y2 (sl y4 (sl (!y3) (sl (okL tLq p.O3 (λk=>c8 s.eh6 (0+k))) (sl (okE tP y0) (sl (aa6 (lsL tLq p.O3 (λk=>c8 s.eh6 (0+k))) (rt tP y0)) (sl (okE tLq t1) (sl (okE tP y0) (sl y5 (sl (t2.2 != 0) (e 19) (sl y1 (k ⟨3,y6,s.G8+1,s.B3+1,app s.eh4 [[b t2.1]],app s.eh5 [[b (!t4)]],s.eh6⟩) z)) z) z) z) z) z) z) (sl y1 (k ⟨4,y6,s.G8+1,s.B3+1,app s.eh4 [[b y3]],app s.eh5 [[b (!t4)]],s.eh6⟩) z)) z) z) z) z) z)) z) z) z)) z) z) (e 20))
def T5(p:z8)(s:m9):Stp m9:=(sel (Nat.beq s.ph 4) (xa6 .next .exit .fail p s) (sel (Nat.beq s.ph 3) (xa5 .next .exit .fail p s) (sel (Nat.beq s.ph 2) (xa4 .next .exit .fail p s) (sel (Nat.beq s.ph 1) (xa3 .next .exit .fail p s) (xa2 .next .exit .fail p s)))))
def bb3(p:z8)(s:m9):St:=let t1:=(G4 [] (rt tP (gL tLq p.b8 s.G1.toNat)));let t2:=(E6 (rt tLq t1) (rt tP (gL tLq p.b8 s.G1.toNat)));⟨.unk::.unk::eL tLq p.ba2::eL tLq p.ba3::.ptr 0 0 0 0::.ptr 1 0 0 0::.unk::.unk::.ptr 2 0 0 0::i t2.2::i t2.2::.ptr 3 0 0 0::i s.G1::eL tP (gL tLq p.b8 s.G1.toNat)::b t2.1::ra 36 (i s.G1::.ptr 0 0 1 0::eL tLq p.b8::i (↑(List.length p.b8):Int)::b (decide (s.G1<(↑(List.length p.b8):Int)))::.unk::.unk::.ptr 0 0 1 0::eL tLq p.b8::i s.G1::.tptr [eL tP (gL tLq p.b8 s.G1.toNat)]::eL tP (gL tLq p.b8 s.G1.toNat)::.ptr 3 0 1 0::nlq::.ptr 1 0 1 0::eL tB p.F5::i s.G1::.tptr [b (gL tB p.F5 s.G1.toNat)]::b (gL tB p.F5 s.G1.toNat)::b true::u::u::u::u::b true::b true::u::u::u::u::b true::.sl 4 0 1 0::.sl 5 0 1 0::.ptr 3 0 1 0::.ptr 1 0 0 0::eL tB p.B7::i s.G1::.tptr [b (gL tB p.B7 s.G1.toNat)]::b (gL tB p.B7 s.G1.toNat)::b (gL tB p.B7 s.G1.toNat)::b (!(gL tB p.B7 s.G1.toNat))::.tup [b t2.1,i t2.2]::.ptr 3 0 2 0::nlq::eL tP (gL tLq p.b8 s.G1.toNat)::eL tLq t1::eL tP (gL tLq p.b8 s.G1.toNat)::.tup [b t2.1,i t2.2]::b t2.1::i t2.2::i t2.2::b (t2.2 != 0)::.agg [nlq,nlq,nlq]::i t2.2::ra 7 []),[bq 0 3 [[.v (.string p.D4),eL tLq p.b8,eL tI p.o6]],bq 0 3 [[eL tB p.B7,eL tB p.F5,eL tLq p.O2]],bq 0 3 [[nlq,nlq,nlq]],bq 0 0 [[nlq,.sl 5 0 1 0,nlq]],bq 4 1 [[b true]],bq 4 1 [[b true]]]⟩
def mc9(p:z8)(s:m9):St:=let t3:=(G3 (rt tP (gL tLq p.b8 s.G1.toNat)) (rt tLq p.ba2));upq (bb3 p s) [(70,b false),(71,eL tP (gL tLq p.b8 s.G1.toNat)),(72,eL tLq p.ba2),(73,b t3),(74,b (!t3)),(75,b (!t3))]
def Ab4(p:z8)(s:m9):St:=Ee5 (bb3 p s) [(64,.sl 5 0 s.B3 0),(82,.sl 6 0 1 0),(83,.sl 5 0 (s.B3+1) 1)] 3 [bq 0 0 [[.sl 4 0 s.G8 0,.sl 5 0 (s.B3+1) 1,nlq]],bq 4 1 s.eh4,⟨4,1,app s.eh5 [[b true]],true,false,1⟩,bq 4 1 [[b true]]]
def nc0(p:z8)(s:m9):St:=let t3:=(G3 (rt tP (gL tLq p.b8 s.G1.toNat)) (rt tLq p.ba2));upq (Ab4 p s) [(70,b false),(71,eL tP (gL tLq p.b8 s.G1.toNat)),(72,eL tLq p.ba2),(73,b t3),(74,b (!t3)),(75,b (!t3))]
def nc1(p:z8)(s:m9):St:=let t1:=(G4 (lsL tLq p.O3 (λk=>c8 s.eh4 (0+k))) (rt tP (gL tLq p.b8 s.G1.toNat)));let t2:=(E6 (rt tLq t1) (rt tP (gL tLq p.b8 s.G1.toNat)));Ee5 (bb3 p s) [(9,i t2.2),(10,i t2.2),(14,b t2.1),(82,.sl 5 0 1 0),(83,.sl 6 0 1 0),(92,.tup [b t2.1,i t2.2]),(94,.sl 4 0 p.O3 0),(96,eL tLq t1),(98,.tup [b t2.1,i t2.2]),(99,b t2.1),(100,i t2.2),(101,i t2.2),(102,b (t2.2 != 0)),(104,i t2.2)] 3 [bq 0 0 [[nlq,.sl 6 0 1 0,.sl 4 0 p.O3 0]],⟨35,1,s.eh4,false,false,0⟩,bq 4 1 [[b true]],bq 4 1 [[b true]]]
def nc2(p:z8)(s:m9):St:=let t3:=(G3 (rt tP (gL tLq p.b8 s.G1.toNat)) (rt tLq p.ba2));upq (nc1 p s) [(70,b false),(71,eL tP (gL tLq p.b8 s.G1.toNat)),(72,eL tLq p.ba2),(73,b t3),(74,b (!t3)),(75,b (!t3))]
def Ab5(p:z8)(s:m9):St:=let t1:=(G4 (lsL tLq p.O3 (λk=>c8 s.eh6 (0+k))) (rt tP (gL tLq p.b8 s.G1.toNat)));let t2:=(E6 (rt tLq t1) (rt tP (gL tLq p.b8 s.G1.toNat)));Ee5 (Ab4 p s) [(9,i t2.2),(10,i t2.2),(14,b t2.1),(82,.sl 7 0 1 0),(92,.tup [b t2.1,i t2.2]),(94,.sl 6 0 p.O3 0),(96,eL tLq t1),(98,.tup [b t2.1,i t2.2]),(99,b t2.1),(100,i t2.2),(101,i t2.2),(102,b (t2.2 != 0)),(104,i t2.2)] 3 [bq 0 0 [[.sl 4 0 s.G8 0,.sl 5 0 (s.B3+1) 1,.sl 6 0 p.O3 0]],bq 4 1 s.eh4,⟨4,1,app s.eh5 [[b true]],true,false,1⟩,⟨35,1,s.eh6,false,false,0⟩,bq 4 1 [[b true]]]
def ub2(p:z8)(s:m9):St:=let t3:=(G3 (rt tP (gL tLq p.b8 s.G1.toNat)) (rt tLq p.ba2));upq (Ab5 p s) [(70,b false),(71,eL tP (gL tLq p.b8 s.G1.toNat)),(72,eL tLq p.ba2),(73,b t3),(74,b (!t3)),(75,b (!t3))]
def cc2(p:z8)(s:m9):St:=let t4:=(G3 (rt tP (gL tLq p.b8 s.G1.toNat)) (rt tLq p.ba3));Mg3 (ub2 p s) [(76,b false),(77,eL tP (gL tLq p.b8 s.G1.toNat)),(78,eL tLq p.ba3),(79,b t4),(80,b (!t4)),(81,b (!t4))] [(5,⟨4,1,app s.eh5 [[b (!t4)]],true,false,1⟩),(7,bq 4 1 [[b (!t4)]])]
abbrev Ha9:B2:=⟨0,3,true,some [[.o .val,.c 1 (nL tLq),.c 1 (nL tI)]]⟩
abbrev Ia0:B2:=⟨0,3,true,some [[.c 1 (nL tB),.c 1 (nL tB),.c 1 (nL tLq)]]⟩
abbrev Ia1:B2:=⟨0,3,true,some [[.o .nil,.o .nil,.o .nil]]⟩
abbrev nc3:B2:=⟨0,0,true,some [[.o (.sl 4 0 (some 0) none),.o (.sl 5 0 (some 0) none),.o (.sl 6 0 (some 0) none)]]⟩
def nc4(a:List b7)(H:List c7):z8:=⟨aLq tLq a 2,aLq tLq a 3,Sa1 (slT (rwT (elT H 0) 0) 0),hLq tLq H 0 0 1,hLq tI H 0 0 2,hLq tB H 1 0 0,hLq tB H 1 0 1,hLq tLq H 1 0 2,0⟩
def Ab6(a:List b7)(H:List c7):z8:=⟨aLq tLq a 2,aLq tLq a 3,Sa1 (slT (rwT (elT H 0) 0) 0),hLq tLq H 0 0 1,hLq tI H 0 0 2,hLq tB H 1 0 0,hLq tB H 1 0 1,hLq tLq H 1 0 2,slN (slT (rwT (elT H 3) 0) 2)⟩
def hc8:Lo z8 m9:=⟨En md0,0,sg9,[1,1,1,1,1,1,1,1,1,0,1,4,4],[2,3,4,5,8,11,12],.p,[⟨sUq::sUq::sLq tLq::sLq tLq::sPq 0::sPq 1::sUq::sUq::sPq 2::sUq::sUq::sPq 3::sIq::ru2 99 [],[Ha9,Ia0,Ia1,⟨0,0,true,some [[.o .nil,.o .nil,.o .nil]]⟩],λa H=>(nc4 a H,⟨0,aIq a 12,0,0,[],[],[]⟩)⟩,⟨sUq::sUq::sLq tLq::sLq tLq::sPq 0::sPq 1::sUq::sUq::sPq 2::sUq::sUq::sPq 3::sIq::ru2 99 [],[Ha9,Ia0,Ia1,⟨0,0,true,some [[.o (.sl 4 0 (some 0) none),.o (.sl 5 0 (some 0) none),.o .nil]]⟩,⟨4,1,true,none⟩,⟨4,1,true,none⟩],λa H=>(nc4 a H,⟨1,aIq a 12,slN (slT (rwT (elT H 3) 0) 0),slN (slT (rwT (elT H 3) 0) 1),elT H 4,elT H 5,[]⟩)⟩,⟨sUq::sUq::sLq tLq::sLq tLq::sPq 0::sPq 1::sUq::sUq::sPq 2::sUq::sUq::sPq 3::sIq::ru2 99 [],[Ha9,Ia0,Ia1,⟨0,0,true,some [[.o .nil,.o .nil,.o (.sl 4 0 (some 0) none)]]⟩,⟨35,1,true,none⟩],λa H=>(Ab6 a H,⟨2,aIq a 12,0,0,elT H 4,[],[]⟩)⟩,⟨sUq::sUq::sLq tLq::sLq tLq::sPq 0::sPq 1::sUq::sUq::sPq 2::sUq::sUq::sPq 3::sIq::ru2 99 [],[Ha9,Ia0,Ia1,nc3,⟨4,1,true,none⟩,⟨4,1,true,none⟩,⟨35,1,false,none⟩],λa H=>(Ab6 a H,⟨3,aIq a 12,slN (slT (rwT (elT H 3) 0) 0),slN (slT (rwT (elT H 3) 0) 1),elT H 4,elT H 5,elT H 6⟩)⟩,⟨sUq::sUq::sLq tLq::sLq tLq::sPq 0::sPq 1::sUq::sUq::sPq 2::sUq::sUq::sPq 3::sIq::ru2 99 [],[Ha9,Ia0,Ia1,nc3,⟨4,1,true,none⟩,⟨4,1,true,none⟩,⟨35,1,true,none⟩],λa H=>(Ab6 a H,⟨4,aIq a 12,slN (slT (rwT (elT H 3) 0) 0),slN (slT (rwT (elT H 3) 0) 1),elT H 4,elT H 5,elT H 6⟩)⟩],T5,[(none,λp s=>bb3 p s),(none,λp s=>mc9 p s),(none,λp s=>let t4:=(G3 (rt tP (gL tLq p.b8 s.G1.toNat)) (rt tLq p.ba3));Ee5 (mc9 p s) [(76,b false),(77,eL tP (gL tLq p.b8 s.G1.toNat)),(78,eL tLq p.ba3),(79,b t4),(80,b (!t4)),(81,b (!t4))] 4 [bq 4 1 [[b (!t4)]],bq 4 1 [[b (!t4)]]]),(some 0,λp s=>upq (zc1 p s) [(51,i s.G1),(52,.ptr 0 0 1 0),(53,eL tLq p.b8),(54,i (↑(List.length p.b8):Int)),(55,b (decide (s.G1<(↑(List.length p.b8):Int))))]),(none,λp s=>Ab4 p s),(none,λp s=>nc0 p s),(none,λp s=>let t4:=(G3 (rt tP (gL tLq p.b8 s.G1.toNat)) (rt tLq p.ba3));Ee5 (nc0 p s) [(76,b false),(77,eL tP (gL tLq p.b8 s.G1.toNat)),(78,eL tLq p.ba3),(79,b t4),(80,b (!t4)),(81,b (!t4))] 5 [⟨4,1,app s.eh5 [[b (!t4)]],true,false,1⟩,bq 4 1 [[b (!t4)]]]),(some 0,λp s=>upq (zc2 p s) [(51,i s.G1),(52,.ptr 0 0 1 0),(53,eL tLq p.b8),(54,i (↑(List.length p.b8):Int)),(55,b (decide (s.G1<(↑(List.length p.b8):Int))))]),(none,λp s=>nc1 p s),(none,λp s=>nc2 p s),(none,λp s=>let t4:=(G3 (rt tP (gL tLq p.b8 s.G1.toNat)) (rt tLq p.ba3));Ee5 (nc2 p s) [(76,b false),(77,eL tP (gL tLq p.b8 s.G1.toNat)),(78,eL tLq p.ba3),(79,b t4),(80,b (!t4)),(81,b (!t4))] 5 [bq 4 1 [[b (!t4)]],bq 4 1 [[b (!t4)]]]),(some 0,λp s=>upq (zc3 p s) [(51,i s.G1),(52,.ptr 0 0 1 0),(53,eL tLq p.b8),(54,i (↑(List.length p.b8):Int)),(55,b (decide (s.G1<(↑(List.length p.b8):Int))))]),(none,λp s=>Ab5 p s),(none,λp s=>ub2 p s),(none,λp s=>cc2 p s),(some 0,λp s=>upq (zc4 p s) [(51,i s.G1),(52,.ptr 0 0 1 0),(53,eL tLq p.b8),(54,i (↑(List.length p.b8):Int)),(55,b (decide (s.G1<(↑(List.length p.b8):Int))))]),(none,λp s=>upq (Ab5 p s) []),(none,λp s=>upq (ub2 p s) []),(none,λp s=>upq (cc2 p s) []),(some 0,λp s=>upq (zc5 p s) [(51,i s.G1),(52,.ptr 0 0 1 0),(53,eL tLq p.b8),(54,i (↑(List.length p.b8):Int)),(55,b (decide (s.G1<(↑(List.length p.b8):Int))))])],Td2⟩
theorem Td3:hc8.OkM:=Lo.okMq [] .nil λp s=>(.sel (Nat.beq s.ph 4) (.ofq @xa6) (.sel (Nat.beq s.ph 3) (.ofq @xa5) (.sel (Nat.beq s.ph 2) (.ofq @xa4) (.sel (Nat.beq s.ph 1) (.ofq @xa3) (.ofq @xa2)))))
def Gb3(x:Prt)(y:Pce)(z:LPq)(w:LPq):ROq:=let y23:=((okE tLq x.cl)&&((okE tI x.wt)&&true));let y22:=(⟨rt tB y.su,rt tB y.to,rt tLq y.cu⟩:Pce);let y11:=(⟨x.nm,rt tLq x.cl,rt tI x.wt⟩:Prt);let y10:=(.tup [.agg [nlq,nlq,nlq],i 0],[]);let t1:=(nb9 y11);let t2:=(Ab2 y11 y22);let t3:=(Da4 (rt tLq z));let t4:=(Da4 (rt tLq w));let t5:=(Xa6 (rt tLq y.cu));let t6:=(Xa6 (rt tLq z));let y20:=(J6 (s9 t6.eh0 0) t6.ns0);let t7:=(lp (T5 (⟨rt tLq z,rt tLq w,x.nm,rt tLq x.cl,rt tI x.wt,rt tB y.su,rt tB y.to,rt tLq y.cu,0⟩:z8)) (⟨0,0,0,0,[],[],[]⟩:m9));let t25:=(lp (T5 (⟨rt tLq z,rt tLq w,x.nm,rt tLq x.cl,rt tI x.wt,rt tB y.su,rt tB y.to,rt tLq y.cu,t5.ns0+0⟩:z8)) (⟨2,0,0,0,app t5.eh0 [],[],[]⟩:m9));let a0:=((cnE tLq w)&&((cnE tLq x.cl)&&((cnE tI x.wt)&&((cnE tB y.su)&&((cnE tB y.to)&&((cnE tLq y.cu)&&true))))));let y19:=((cnE tLq z)&&a0);let a1:=(len y20);let t16:=(lp (T5 (⟨rt tLq z,rt tLq w,x.nm,rt tLq x.cl,rt tI x.wt,rt tB y.su,rt tB y.to,rt tLq y.cu,a1⟩:z8)) (⟨2,0,0,0,y20,[],[]⟩:m9));let t34:=(lp (T5 (⟨rt tLq z,rt tLq w,x.nm,rt tLq x.cl,rt tI x.wt,rt tB y.su,rt tB y.to,rt tLq y.cu,t5.ns0+a1⟩:z8)) (⟨2,0,0,0,app t5.eh0 y20,[],[]⟩:m9));let a2:=(λk=>c8 t7.2.eh4 (0+k));let y21:=(.tup [.agg [nlq,nlq,.tree 1 0 a2],i 0],[]);let a3:=(λk=>c8 t7.2.eh5 (0+k));let y18:=(.tup [.agg [.tree 1 t7.2.G8 a2,.tree 1 t7.2.B3 a3,nlq],i 0],[]);let a4:=(rt tP (gL tLq (rt tLq x.cl) t16.2.G1.toNat));let t17:=(G4 [] a4);let t18:=(E6 (rt tLq t17) a4);let y4:=(.tup [.agg [nlq,nlq,nlq],i t18.2],[]);let a5:=(rt tP (gL tLq (rt tLq x.cl) t25.2.G1.toNat));let t26:=(G4 [] a5);let t27:=(E6 (rt tLq t26) a5);let y6:=(.tup [.agg [nlq,nlq,nlq],i t27.2],[]);let a6:=(rt tP (gL tLq (rt tLq x.cl) t34.2.G1.toNat));let t35:=(G4 [] a6);let t36:=(E6 (rt tLq t35) a6);let y8:=(.tup [.agg [nlq,nlq,nlq],i t36.2],[]);let a7:=(rt tP (gL tLq (rt tLq x.cl) t7.2.G1.toNat));let t8:=(G4 [] a7);let t9:=(E6 (rt tLq t8) a7);let y1:=(.tup [.agg [nlq,nlq,nlq],i t9.2],[]);let t12:=(G4 (lsL tLq 0 a2) a7);let t13:=(E6 (rt tLq t12) a7);let y3:=(.tup [.agg [nlq,nlq,nlq],i t13.2],[]);let a8:=(λk=>c8 t16.2.eh4 (0+k));let t21:=(G4 (lsL tLq a1 a8) a4);let t22:=(E6 (rt tLq t21) a4);let y15:=(.tup [.agg [nlq,nlq,nlq],i t22.2],[]);let a9:=(λk=>c8 t25.2.eh4 (0+k));let t30:=(G4 (lsL tLq (t5.ns0+0) a9) a5);let t31:=(E6 (rt tLq t30) a5);let y16:=(.tup [.agg [nlq,nlq,nlq],i t31.2],[]);let a10:=(λk=>c8 t34.2.eh4 (0+k));let t39:=(G4 (lsL tLq (t5.ns0+a1) a10) a6);let t40:=(E6 (rt tLq t39) a6);let y17:=(.tup [.agg [nlq,nlq,nlq],i t40.2],[]);let a11:=(λk=>c8 t7.2.eh6 (0+k));let y2:=(.tup [.agg [.tree 1 t7.2.G8 a2,.tree 1 t7.2.B3 a3,.tree 1 0 a11],i 0],[]);let t14:=(G4 (lsL tLq 0 a11) a7);let t15:=(E6 (rt tLq t14) a7);let y0:=(.tup [.agg [nlq,nlq,nlq],i t15.2],[]);let a12:=(λk=>c8 t16.2.eh5 (0+k));let a13:=(λk=>c8 t25.2.eh5 (0+k));let a14:=(λk=>c8 t34.2.eh5 (0+k));let a15:=(λk=>c8 t16.2.eh6 (0+k));let y14:=(.tup [.agg [.tree 1 t16.2.G8 a8,.tree 1 t16.2.B3 a12,.tree 1 a1 a15],i 0],[]);let t23:=(G4 (lsL tLq a1 a15) a4);let t24:=(E6 (rt tLq t23) a4);let y5:=(.tup [.agg [nlq,nlq,nlq],i t24.2],[]);let a16:=(λk=>c8 t25.2.eh6 (0+k));let y13:=(.tup [.agg [.tree 1 t25.2.G8 a9,.tree 1 t25.2.B3 a13,.tree 1 (t5.ns0+0) a16],i 0],[]);let t32:=(G4 (lsL tLq (t5.ns0+0) a16) a5);let t33:=(E6 (rt tLq t32) a5);let y7:=(.tup [.agg [nlq,nlq,nlq],i t33.2],[]);let a17:=(λk=>c8 t34.2.eh6 (0+k));let y12:=(.tup [.agg [.tree 1 t34.2.G8 a10,.tree 1 t34.2.B3 a14,.tree 1 (t5.ns0+a1) a17],i 0],[]);let t41:=(G4 (lsL tLq (t5.ns0+a1) a17) a6);let t42:=(E6 (rt tLq t41) a6);let y9:=(.tup [.agg [nlq,nlq,nlq],i t42.2],[]);let w0:ROq:=(sl (decide ((W ((↑(List.length y.cu):Int)+(↑(List.length z):Int)))>24)) (some (.tup [.agg [nlq,nlq,nlq],i 2],[])) (sl (okE tLq y.cu) (sl (Nat.beq t5.alt 1) (sl (okE tLq z) (sl (Nat.beq t6.alt 1) (sl y19 (sl (Nat.beq t7.1 1) (some y1) (sl (Nat.beq t7.1 2) (some y1) (sl (Nat.beq t7.1 3) (some y1) (sl (Nat.beq t7.1 4) (some y10) (sl (Nat.beq t7.1 5) (some y1) (sl (Nat.beq t7.1 6) (some y1) (sl (Nat.beq t7.1 7) (some y1) (sl (Nat.beq t7.1 8) (some y18) (sl (Nat.beq t7.1 9) (some y3) (sl (Nat.beq t7.1 10) (some y3) (sl (Nat.beq t7.1 11) (some y3) (sl (Nat.beq t7.1 12) (some y21) (sl (Nat.beq t7.1 13) (some y0) (sl (Nat.beq t7.1 14) (some y0) (sl (Nat.beq t7.1 15) (some y0) (sl (Nat.beq t7.1 16) (some y2) (sl (Nat.beq t7.1 17) (some y0) (sl (Nat.beq t7.1 18) (some y0) (sl (Nat.beq t7.1 19) (some y0) (sl (Nat.beq t7.1 20) (some y2) none)))))))))))))))))))) none) (sl (Nat.beq t6.alt 2) (sl (Nat.beq a1 0) (sl y19 (sl (Nat.beq t7.1 1) (some y1) (sl (Nat.beq t7.1 2) (some y1) (sl (Nat.beq t7.1 3) (some y1) (sl (Nat.beq t7.1 4) (some y10) (sl (Nat.beq t7.1 5) (some y1) (sl (Nat.beq t7.1 6) (some y1) (sl (Nat.beq t7.1 7) (some y1) (sl (Nat.beq t7.1 8) (some y18) (sl (Nat.beq t7.1 9) (some y3) (sl (Nat.beq t7.1 10) (some y3) (sl (Nat.beq t7.1 11) (some y3) (sl (Nat.beq t7.1 12) (some y21) (sl (Nat.beq t7.1 13) (some y0) (sl (Nat.beq t7.1 14) (some y0) (sl (Nat.beq t7.1 15) (some y0) (sl (Nat.beq t7.1 16) (some y2) (sl (Nat.beq t7.1 17) (some y0) (sl (Nat.beq t7.1 18) (some y0) (sl (Nat.beq t7.1 19) (some y0) (sl (Nat.beq t7.1 20) (some y2) none)))))))))))))))))))) none) (sl (Nat.ble (a1*24) room) (sl y19 (sl (Nat.beq t16.1 1) (some y4) (sl (Nat.beq t16.1 2) (some y4) (sl (Nat.beq t16.1 3) (some y4) (sl (Nat.beq t16.1 4) (some y10) (sl (Nat.beq t16.1 5) (some y4) (sl (Nat.beq t16.1 6) (some y4) (sl (Nat.beq t16.1 7) (some y4) (sl (Nat.beq t16.1 8) (some (.tup [.agg [.tree 1 t16.2.G8 a8,.tree 1 t16.2.B3 a12,nlq],i 0],[])) (sl (Nat.beq t16.1 9) (some y15) (sl (Nat.beq t16.1 10) (some y15) (sl (Nat.beq t16.1 11) (some y15) (sl (Nat.beq t16.1 12) (some (.tup [.agg [nlq,nlq,.tree 1 a1 a8],i 0],[])) (sl (Nat.beq t16.1 13) (some y5) (sl (Nat.beq t16.1 14) (some y5) (sl (Nat.beq t16.1 15) (some y5) (sl (Nat.beq t16.1 16) (some y14) (sl (Nat.beq t16.1 17) (some y5) (sl (Nat.beq t16.1 18) (some y5) (sl (Nat.beq t16.1 19) (some y5) (sl (Nat.beq t16.1 20) (some y14) none)))))))))))))))))))) none) none)) none)) none) (sl (Nat.beq t5.alt 2) (sl (okE tLq z) (sl (Nat.beq t6.alt 1) (sl (Nat.beq t5.ns0 (len t5.eh0)&&Nat.ble ((t5.ns0+0)*24) room) (sl y19 (sl (Nat.beq t25.1 1) (some y6) (sl (Nat.beq t25.1 2) (some y6) (sl (Nat.beq t25.1 3) (some y6) (sl (Nat.beq t25.1 4) (some y10) (sl (Nat.beq t25.1 5) (some y6) (sl (Nat.beq t25.1 6) (some y6) (sl (Nat.beq t25.1 7) (some y6) (sl (Nat.beq t25.1 8) (some (.tup [.agg [.tree 1 t25.2.G8 a9,.tree 1 t25.2.B3 a13,nlq],i 0],[])) (sl (Nat.beq t25.1 9) (some y16) (sl (Nat.beq t25.1 10) (some y16) (sl (Nat.beq t25.1 11) (some y16) (sl (Nat.beq t25.1 12) (some (.tup [.agg [nlq,nlq,.tree 1 (t5.ns0+0) a9],i 0],[])) (sl (Nat.beq t25.1 13) (some y7) (sl (Nat.beq t25.1 14) (some y7) (sl (Nat.beq t25.1 15) (some y7) (sl (Nat.beq t25.1 16) (some y13) (sl (Nat.beq t25.1 17) (some y7) (sl (Nat.beq t25.1 18) (some y7) (sl (Nat.beq t25.1 19) (some y7) (sl (Nat.beq t25.1 20) (some y13) none)))))))))))))))))))) none) none) (sl (Nat.beq t6.alt 2) (sl (Nat.beq t5.ns0 (len t5.eh0)&&Nat.ble ((t5.ns0+a1)*24) room) (sl y19 (sl (Nat.beq t34.1 1) (some y8) (sl (Nat.beq t34.1 2) (some y8) (sl (Nat.beq t34.1 3) (some y8) (sl (Nat.beq t34.1 4) (some y10) (sl (Nat.beq t34.1 5) (some y8) (sl (Nat.beq t34.1 6) (some y8) (sl (Nat.beq t34.1 7) (some y8) (sl (Nat.beq t34.1 8) (some (.tup [.agg [.tree 1 t34.2.G8 a10,.tree 1 t34.2.B3 a14,nlq],i 0],[])) (sl (Nat.beq t34.1 9) (some y17) (sl (Nat.beq t34.1 10) (some y17) (sl (Nat.beq t34.1 11) (some y17) (sl (Nat.beq t34.1 12) (some (.tup [.agg [nlq,nlq,.tree 1 (t5.ns0+a1) a10],i 0],[])) (sl (Nat.beq t34.1 13) (some y9) (sl (Nat.beq t34.1 14) (some y9) (sl (Nat.beq t34.1 15) (some y9) (sl (Nat.beq t34.1 16) (some y12) (sl (Nat.beq t34.1 17) (some y9) (sl (Nat.beq t34.1 18) (some y9) (sl (Nat.beq t34.1 19) (some y9) (sl (Nat.beq t34.1 20) (some y12) none)))))))))))))))))))) none) none) none)) none) none)) none));(sl y23 (sl (ob0 y11) (sl (t1 != 0) (some (.tup [.agg [nlq,nlq,nlq],i t1],[])) (sl y23 (sl ((okE tB y.su)&&((okE tB y.to)&&((okE tLq y.cu)&&true))) (sl (Ab3 y11 y22) (sl (!t2) (some (.tup [.agg [nlq,nlq,nlq],i 4],[])) (sl (okE tLq z) (sl (Pa4 (rt tLq z)) (sl (t3==0) (sl (okE tLq w) (sl (Pa4 (rt tLq w)) (sl (t4 != 0) (some (.tup [.agg [nlq,nlq,nlq],i t4],[])) w0) none) none) (sl (t3 != 0) (some (.tup [.agg [nlq,nlq,nlq],i t3],[])) w0)) none) none)) none) none) none)) none) none)
def cc3(x:Prt)(y:Pce)(z:LPq)(w:LPq):Pce×Int:=L9 (two r1O r1I) (Gb3 x y z w)
def Lc2(x:Prt)(y:Pce)(z:LPq)(w:LPq):Bool:=okO (two r1O r1I) (Gb3 x y z w)
def yd8:Sum:=Vd6 cJ cO (M3 tLq) (M3 tLq) (λx y z w=>.guard (Lc2 x y z w) (.ret ((two r1O r1I).enc (cc3 x y z w),[])))
theorem ue8:l8 prog G 20 yd8:=rg5 (bd b20 ae1) (two r1O r1I) (o:=Gb3) λx y z w=>pd9 (.s .p (.s .p (.s .p (.s .p (.s .p (.s .p (.s .p (.s .p (.s .p (.s (.s .p (.b (.u hc8.lsM))) .p)))))))))) [hc8.prM] (.cons Td3 .nil)
theorem ff4(x:PLq)(y:Pln)(hx:x.length<=1000000):Rd (one (r1L tP)) (Vb6 x y) (λr=>r=x++[y]):=by
 unfold Vb6;have ea:app (bL tP x) [[i y.n.x,i y.n.y,i y.n.z,i y.b]]=bL tP (x++[y]):=jd3 x y.n.x y.n.y y.n.z y.b;have e0:∀l:List (List b7),app [] l=l:=λ_=>rfl
 have r1:Nat.ble (x.length*32) room=true:=Qkc (by unfold room;omega)
 have r2:Nat.ble ((x.length+1)*32) room=true:=Qkc (by unfold room;omega)
 simp only[ra5,e0,J2,Qar,ea,r1,r2,Qim,Qka,g7,show Nat.beq 0 0=true from rfl]
 refine⟨_,x++[y],rfl,?_,rfl⟩
 have:=Df3 tP 73 (x++[y])
 rw[Qdc] at this;exact this
theorem Gf2{x:PLq}{y:Pln}(hx:x.length<=1000000):Ab0 x y=x++[y]:=(ff4 x y hx).p
theorem Gf3{x:PLq}{y:Pln}(hx:x.length<=1000000):Xa1 x y=true:=(ff4 x y hx).g
def tc8(x fs:PLq):LPq×Int:=if mb0 x fs then (ib0 x fs fs.length,0) else ([],9)
theorem Ve8(x fs:PLq)(hf:∀p∈fs,okp p=true)(hfl:fs.length<=1000) :
  ∃t s,lp (da5 ⟨fs⟩) ⟨0,x,0,0,[]⟩=(t,s) /\
   ((mb0 x fs=true->t=phL (ib0 x fs fs.length)+2/\s.ns6=(ib0 x fs fs.length).length/\s.eh0=bL tLq (ib0 x fs fs.length))/\(mb0 x fs=false->t=1)):=by
 refine da0 (step:=da5 ⟨fs⟩) (mk:=λj (O':LPq)=>(⟨phL O',ja4 x fs j,(j:Int),O'.length,bL tLq O'⟩:I8)) fs.length
  (λj O'=>j<=fs.length/\O'=ib0 x fs j/\∀i,i<j->(ja4 x fs i).length<48)
  (λt s=>(mb0 x fs=true->t=phL (ib0 x fs fs.length)+2/\s.ns6=(ib0 x fs fs.length).length/\s.eh0=bL tLq (ib0 x fs fs.length))/\(mb0 x fs=false->t=1)) (by omega)
  (λj O' hj hi=>?_) (λj O' hj hi=>?_) 0 [] ⟨Qbv _,by simp[ib0],λi hi=>absurd hi (Nat.not_lt_zero i)⟩
 ·obtain⟨_,hO',hr⟩:=hi;have hn:W ((j:Int)+1)=((j+1:Nat):Int):=A5 hj (by omega)
  have hp:=hf _ (M1 tP hj);have hb:=sd0 hp;have hOl:O'.length<=1000000:=by
   rw[hO']
   have:=Rd0 x fs j
   omega
  have hroom:=ue0 O' hOl;by_cases h48:(ja4 x fs j).length<48
  ·have e1:decide (((ja4 x fs j).length:Int)>=48)=false:=decide_eq_false (by omega)
   have w1:=Gf2 (x:=ja4 x fs j) (y:=Oa2 (gL tP fs j)) (by omega)
   have w2:=Gf3 (x:=ja4 x fs j) (y:=Oa2 (gL tP fs j)) (by omega)
   have w3:=Gf2 (x:=ja4 x fs j) (y:=gL tP fs j) (by omega)
   have w4:=Gf3 (x:=ja4 x fs j) (y:=gL tP fs j) (by omega)
   have k1:=kd9 (ja4 x fs j++[Oa2 (gL tP fs j)]) (by rw[Qdc];simp only[List.length_singleton];omega)
   have k2:=Fd7 (ja4 x fs j++[Oa2 (gL tP fs j)]) (by rw[Qdc];simp only[List.length_singleton];omega)
   have k3:=kd9 (ja4 x fs j++[gL tP fs j]) (by rw[Qdc];simp only[List.length_singleton];omega)
   have k4:=Fd7 (ja4 x fs j++[gL tP fs j]) (by rw[Qdc];simp only[List.length_singleton];omega)
   have m1:lean (ja4 x fs j++[Oa2 (gL tP fs j)])=Bc1 x fs j:=rfl;have m2:lean (ja4 x fs j++[gL tP fs j])=ja4 x fs (j+1):=rfl;have hnew:ib0 x fs (j+1)=O'++(if 0<(Bc1 x fs j).length then [Bc1 x fs j] else []):=by rw[pf2,<- hO']
   have hnx : ∀ {s : I8}, s = ⟨phL (ib0 x fs (j + 1)), ja4 x fs (j + 1), ((j + 1 : Nat) : Int), (ib0 x fs (j + 1)).length, bL tLq (ib0 x fs (j + 1))⟩ →
     Nx (.next s) (λt=>(mb0 x fs=true->t=phL (ib0 x fs fs.length)+2/\(⟨phL O',ja4 x fs j,(j:Int),O'.length,bL tLq O'⟩:I8).ns6=(ib0 x fs fs.length).length/\(⟨phL O',ja4 x fs j,(j:Int),O'.length,bL tLq O'⟩:I8).eh0=bL tLq (ib0 x fs fs.length))/\(mb0 x fs=false->t=1))
      (λs=>∃O'',s=(⟨phL O'',ja4 x fs (j+1),((j+1:Nat):Int),O''.length,bL tLq O''⟩:I8)/\(j+1<=fs.length/\O''=ib0 x fs (j+1)/\∀i,i<j+1->(ja4 x fs i).length<48)) :=
    λ{s} hs=>.nx ⟨_,hs,hj,rfl,λi hi=>by
     by_cases e:i=j
     ·subst e;exact h48
     ·exact hr i (by omega)⟩
   by_cases hc:0<(Bc1 x fs j).length
   ·have e2:decide (((Bc1 x fs j).length:Int)>0)=true:=decide_eq_true (by omega)
    rw[if_pos hc] at hnew;cases O' with
    |nil =>
     have e:da5 ⟨fs⟩ ⟨phL [],ja4 x fs j,(j:Int),([]:LPq).length,bL tLq []⟩=.next ⟨1,ja4 x fs (j+1),((j+1:Nat):Int),1,[[eL tP (Bc1 x fs j)]]⟩:=by
      show T8 Stp.next Stp.exit Stp.fail _ _=_;simp only[T8,Int.toNat_natCast,l9,A3,Jc3 hb,w1,w2,w3,w4,k1,k2,k3,k4,hn,m1,m2,e1,e2,g7,A7];rw[btD (n8 hj),bt (l0 hj),bt (l0 hj)]
     rw[e];exact hnx (by rw[hnew];rfl)
    |cons o os =>
     have e:da5 ⟨fs⟩ ⟨phL (o::os),ja4 x fs j,(j:Int),(o::os).length,bL tLq (o::os)⟩=.next ⟨1,ja4 x fs (j+1),((j+1:Nat):Int),(o::os).length+1,bL tLq (o::os++[Bc1 x fs j])⟩:=by
      show T9 Stp.next Stp.exit Stp.fail _ _=_;simp only[T9,Int.toNat_natCast,l9,A3,Jc3 hb,w1,w2,w3,w4,k1,k2,k3,k4,hn,m1,m2,e1,e2,hroom,ff1,g7,A7];rw[btD (n8 hj),bt (l0 hj),bt (l0 hj)]
     rw[e];exact hnx (by rw[hnew,tb9,Qdc];rfl)
   ·have e2:decide (((Bc1 x fs j).length:Int)>0)=false:=decide_eq_false (by omega)
    rw[if_neg hc,Qbu] at hnew;cases O' with
    |nil =>
     have e:da5 ⟨fs⟩ ⟨phL [],ja4 x fs j,(j:Int),([]:LPq).length,bL tLq []⟩=.next ⟨0,ja4 x fs (j+1),((j+1:Nat):Int),0,[]⟩:=by
      show T8 Stp.next Stp.exit Stp.fail _ _=_;simp only[T8,Int.toNat_natCast,l9,A3,Jc3 hb,w1,w2,w3,w4,k1,k2,k3,k4,hn,m1,m2,e1,e2,g7,A7];rw[btD (n8 hj),bt (l0 hj),bt (l0 hj)]
     rw[e];exact hnx (by rw[hnew];rfl)
    |cons o os =>
     have e:da5 ⟨fs⟩ ⟨phL (o::os),ja4 x fs j,(j:Int),(o::os).length,bL tLq (o::os)⟩=.next ⟨1,ja4 x fs (j+1),((j+1:Nat):Int),(o::os).length,bL tLq (o::os)⟩:=by
      show T9 Stp.next Stp.exit Stp.fail _ _=_;simp only[T9,Int.toNat_natCast,l9,A3,Jc3 hb,w1,w2,w3,w4,k1,k2,k3,k4,hn,m1,m2,e1,e2,g7,A7];rw[btD (n8 hj),bt (l0 hj),bt (l0 hj)]
     rw[e];exact hnx (by rw[hnew];rfl)
  ·have e1:decide (((ja4 x fs j).length:Int)>=48)=true:=decide_eq_true (by omega)
   have hno:mb0 x fs=false:=by
    cases h:mb0 x fs with
    |false=>rfl
    |true =>
     have:=Qcc.1 h j (Qca.2 hj)
     exact absurd (by simpa using this) h48
   have e:da5 ⟨fs⟩ ⟨phL O',ja4 x fs j,(j:Int),O'.length,bL tLq O'⟩=.exit 1:=by
    cases O' with
    |nil =>
     show T8 Stp.next Stp.exit Stp.fail _ _=_;simp only[T8,e1,g7];rw[btD (n8 hj)]
    |cons o os =>
     show T9 Stp.next Stp.exit Stp.fail _ _=_;simp only[T9,e1,g7];rw[btD (n8 hj)]
   rw[e];exact .ex ⟨λh'=>(by rw[hno] at h';cases h'),λ_=>rfl⟩
 ·obtain⟨h1,hO',hr⟩:=hi;have hje:j=fs.length:=by omega
  subst hje;have hyes:mb0 x fs=true:=Qcc.2 λi hi=>by simpa using hr i (Qca.1 hi)
  refine⟨phL O'+2,?_,λ_=>?_,λh=>(by rw[hyes] at h;cases h)⟩
  ·cases O' with
   |nil =>
    show T8 Stp.next Stp.exit Stp.fail _ _=_;simp only[T8];rw[bfD (w8 (Qie _))];rfl
   |cons o os =>
    show T9 Stp.next Stp.exit Stp.fail _ _=_;simp only[T9];rw[bfD (w8 (Qie _))];rfl
  ·rw[<- hO'];exact⟨rfl,rfl,rfl⟩
theorem Ke6(x fs:PLq)(hf:∀p∈fs,okp p=true)(hfl:fs.length<=1000):Rd (two (r1L tLq) r1I) (Fb8 x fs) (λr=>r=tc8 x fs):=by
 obtain⟨t,s,h,hy,hn⟩:=Ve8 x fs hf hfl;unfold Fb8 tc8;simp only[l9,s7,h,Qka,g7];cases hr:mb0 x fs with
 |false =>
  obtain rfl:=hn hr;exact⟨_,([],9),rfl,rfl,rfl⟩
 |true =>
  obtain⟨rfl,h2,h3⟩:=hy hr;rw[if_pos rfl,h2,h3];cases hO:ib0 x fs fs.length with
  |nil=>exact⟨_,([],0),rfl,rfl,rfl⟩
  |cons o os=>exact⟨_,(o::os,0),rfl,Ff8 tLq _ (o::os) 0,rfl⟩
theorem ff5{x fs:PLq}(hf:∀p∈fs,okp p=true)(hfl:fs.length<=1000):nb8 x fs=tc8 x fs:=(Ke6 x fs hf hfl).p
theorem Tf1{x fs:PLq}(hf:∀p∈fs,okp p=true)(hfl:fs.length<=1000):bc4 x fs=true:=(Ke6 x fs hf hfl).g
theorem mg5(O N:LPq):app (bL tLq O) (bL tLq N)=bL tLq (O++N):=ra4 tLq O N
theorem nbR:Nat.beq 1 2=false/\Nat.beq 2 1=false/\Nat.beq 3 1=false/\Nat.beq 3 2=false/\Nat.beq 4 1=false/\Nat.beq 4 2=false/\Nat.beq 4 3=false/\Nat.beq 6 1=false/\Nat.beq 6 2=false/\Nat.beq 6 3=false/\Nat.beq 6 4=false/\Nat.beq 6 5=false:=by decide
structure RW(q:PLq)(xs:LPq)(t:Nat)(s:C7):Prop where
 y:xs.all (wb7 q)=true->t=phL (xs.flatMap (zb9 q))*2+2/\s.ns6=(xs.flatMap (zb9 q)).length/\s.eh0=bL tLq (xs.flatMap (zb9 q))
 n:xs.all (wb7 q)=false->(t=1\/t=3)/\∃j,s.is7=((j:Nat):Int)/\tc8 (gL tLq xs j) (lean q)=([],9)
theorem Tf2(q:PLq)(xs:LPq)(hq:q.length<=1000000)(hxs:xs.length<=10000)(hx:∀x∈xs,x.length<=1000000)(hf:∀p∈lean q,okp p=true)(hfl:(lean q).length<=48) :
  ∃t s,lp (L4 ⟨xs,q⟩) ⟨0,0,0,[]⟩=(t,s)/\RW q xs t s:=by
 refine da0 (step:=L4 ⟨xs,q⟩) (mk:=λj (O':LPq)=>(⟨phL O',(j:Int),O'.length,bL tLq O'⟩:C7)) xs.length
  (λj O'=>j<=xs.length/\O'=(xs.take j).flatMap (zb9 q)/\(xs.take j).all (wb7 q)=true) (RW q xs) (by omega)
  (λj O' hj hi=>?_) (λj O' hj hi=>?_) 0 [] ⟨Qbv _,by simp,by simp⟩
 ·obtain⟨_,hO',hr⟩:=hi;have hn:W ((j:Int)+1)=((j+1:Nat):Int):=A5 hj (by omega)
  have hxl:=hx _ (M1 tLq hj);have hOl:O'.length<=800000:=by
   rw[hO']
   have:=Je9 hfl (xs.take j)
   have:=List.length_take_le j xs
   omega
  have hroom:=ue0 O' (by omega)
  have hA:=kd6 (a:=gL tLq xs j) (c:=q) (by omega) (by omega)
  have gA:=kd7 (a:=gL tLq xs j) (c:=q) (by omega) (by omega)
  have hL:=kd9 q hq;have gL':=Fd7 q hq;have hP:=ff5 (x:=gL tLq xs j) hf (by omega)
  have gP:=Tf1 (x:=gL tLq xs j) hf (by omega)
  have hnew:=pf7 tLq xs (zb9 q) hj;have hall:=pf8 tLq xs (wb7 q) hj;rw[<- hO'] at hnew;rw[hr,Qke] at hall;have hfull:∀{v:Bool},wb7 q (gL tLq xs j)=v->v=false->xs.all (wb7 q)=false:=λ{v} h hv=>by
   rw[List.all_eq_false];exact⟨_,M1 tLq hj,by rw[h,hv];decide⟩
  have hnx : wb7 q (gL tLq xs j) = true → ∀ {s : C7}, s = ⟨phL ((xs.take (j + 1)).flatMap (zb9 q)), ((j + 1 : Nat) : Int), ((xs.take (j + 1)).flatMap (zb9 q)).length, bL tLq ((xs.take (j + 1)).flatMap (zb9 q))⟩ →
    Nx (.next s) (λt=>RW q xs t (⟨phL O',(j:Int),O'.length,bL tLq O'⟩:C7))
     (λs=>∃O'',s=(⟨phL O'',((j+1:Nat):Int),O''.length,bL tLq O''⟩:C7)/\(j+1<=xs.length/\O''=(xs.take (j+1)).flatMap (zb9 q)/\(xs.take (j+1)).all (wb7 q)=true)) :=
   λh {s} hs=>.nx ⟨_,hs,hj,rfl,by rw[hall,h]⟩
  have hex:wb7 q (gL tLq xs j)=false->tc8 (gL tLq xs j) (lean q)=([],9)->∀{t:Nat},(t=1\/t=3)->RW q xs t (⟨phL O',(j:Int),O'.length,bL tLq O'⟩:C7):=λh hp {t} ht =>
   ⟨λh'=>(by rw[hfull h rfl] at h';cases h'),λ_=>⟨ht,j,rfl,hp⟩⟩
  have hgx:inB (j:Int) xs.length=true:=l0 hj;have hlt:((j:Int)<(xs.length:Int)):=n8 hj;generalize hX:gL tLq xs j=x at *
  cases hap:apart x q with
  |true =>
   have hp:zb9 q x=[x]:=by unfold zb9;rw[hap,if_pos rfl]
   have hro:wb7 q x=true:=by unfold wb7;rw[hap];rfl
   rw[hap] at hA;rw[hp] at hnew;cases O' with
   |nil =>
    have e:L4 ⟨xs,q⟩ ⟨phL [],(j:Int),([]:LPq).length,bL tLq []⟩=.next ⟨1,((j+1:Nat):Int),1,[[eL tP x]]⟩:=by
     show I1 Stp.next Stp.exit Stp.fail _ _=_;simp only[I1,Int.toNat_natCast,l9,A3,hX,hA,gA,hn,hgx,g7];rw[btD hlt]
    rw[e];exact hnx hro (by rw[hnew];rfl)
   |cons o os =>
    have e:L4 ⟨xs,q⟩ ⟨phL (o::os),(j:Int),(o::os).length,bL tLq (o::os)⟩=.next ⟨1,((j+1:Nat):Int),(o::os).length+1,bL tLq (o::os++[x])⟩:=by
     show L6 Stp.next Stp.exit Stp.fail _ _=_;simp only[L6,Int.toNat_natCast,l9,A3,hX,hA,gA,hn,hgx,hroom,ff1,g7];rw[btD hlt]
    rw[e];exact hnx hro (by rw[hnew,tb9,Qdc];rfl)
  |false =>
   have hp:zb9 q x=ib0 x (lean q) (lean q).length:=by unfold zb9;rw[hap,if_neg (by decide)]
   have hro:wb7 q x=mb0 x (lean q):=by unfold wb7;rw[hap];rfl
   rw[hap] at hA;rw[hp] at hnew;cases hr48:mb0 x (lean q) with
   |true =>
    have hR:tc8 x (lean q)=(ib0 x (lean q) (lean q).length,0):=by unfold tc8;rw[hr48,if_pos rfl]
    rw[hR] at hP;have hol:=Rd0 x (lean q) (lean q).length;have z00:((0:Int) != 0)=false:=rfl;cases O' with
    |nil =>
     cases hO:ib0 x (lean q) (lean q).length with
     |nil =>
      rw[hO] at hP hnew;have e:L4 ⟨xs,q⟩ ⟨phL [],(j:Int),([]:LPq).length,bL tLq []⟩=.next ⟨0,((j+1:Nat):Int),0,[]⟩:=by
       show I1 Stp.next Stp.exit Stp.fail _ _=_;simp only[I1,Int.toNat_natCast,l9,A3,hX,hA,gA,hL,gL',hP,gP,hn,hgx,z00,g7,A7];rw[btD hlt];rfl
      rw[e];exact hnx (hro.trans hr48) (by rw[hnew];rfl)
     |cons a l' =>
      rw[hO] at hP hnew hol;have rm:Nat.ble ((a::l').length*24) room=true:=Qkc (by unfold room;omega)
      have nz:Nat.beq (a::l').length 0=false:=rfl;have e:L4 ⟨xs,q⟩ ⟨phL [],(j:Int),([]:LPq).length,bL tLq []⟩=.next ⟨1,((j+1:Nat):Int),(a::l').length,bL tLq (a::l')⟩:=by
       show I1 Stp.next Stp.exit Stp.fail _ _=_;simp only[I1,Int.toNat_natCast,l9,A3,hX,hA,gA,hL,gL',hP,gP,hn,hgx,ra5,J2,z00,rm,nz,g7,A7];rw[btD hlt]
      rw[e];exact hnx (hro.trans hr48) (by rw[hnew];rfl)
    |cons o os =>
     have rm:(Nat.beq (o::os).length (o::os).length&&Nat.ble (((o::os).length+(ib0 x (lean q) (lean q).length).length)*24) room)=true:=by
      rw[Qim,Qke];exact Qkc (by unfold room;omega)
     have e:L4 ⟨xs,q⟩ ⟨phL (o::os),(j:Int),(o::os).length,bL tLq (o::os)⟩=.next ⟨1,((j+1:Nat):Int),(o::os).length+(ib0 x (lean q) (lean q).length).length,bL tLq (o::os++ib0 x (lean q) (lean q).length)⟩:=by
      show L6 Stp.next Stp.exit Stp.fail _ _=_;simp only[L6,Int.toNat_natCast,l9,A3,hX,hA,gA,hL,gL',hP,gP,hn,hgx,ra5,J2,mg5,z00,rm,g7,A7];rw[btD hlt]
     rw[e];exact hnx (hro.trans hr48) (by rw[hnew,Qdc];rfl)
   |false =>
    have hR:tc8 x (lean q)=([],9):=by unfold tc8;rw[hr48];rfl
    rw[hR] at hP;have z90:((9:Int) != 0)=true:=rfl;cases O' with
    |nil =>
     have e:L4 ⟨xs,q⟩ ⟨phL [],(j:Int),([]:LPq).length,bL tLq []⟩=.exit 1:=by
      show I1 Stp.next Stp.exit Stp.fail _ _=_;simp only[I1,Int.toNat_natCast,l9,A3,hX,hA,gA,hL,gL',hP,gP,hn,hgx,z90,g7,A7];rw[btD hlt]
     rw[e];exact .ex (hex (hro.trans hr48) hR (.inl rfl))
    |cons o os =>
     have e:L4 ⟨xs,q⟩ ⟨phL (o::os),(j:Int),(o::os).length,bL tLq (o::os)⟩=.exit 3:=by
      show L6 Stp.next Stp.exit Stp.fail _ _=_;simp only[L6,Int.toNat_natCast,l9,A3,hX,hA,gA,hL,gL',hP,gP,hn,hgx,z90,g7,A7];rw[btD hlt]
     rw[e];exact .ex (hex (hro.trans hr48) hR (.inr rfl))
 ·obtain⟨h1,hO',hr⟩:=hi;have hje:j=xs.length:=by omega
  subst hje;rw[Qkb] at hO' hr;refine⟨phL O'*2+2,?_,λ_=>?_,λh=>(by rw[hr] at h;cases h)⟩
  ·cases O' with
   |nil =>
    show I1 Stp.next Stp.exit Stp.fail _ _=_;simp only[I1];rw[bfD (w8 (Qie _))];rfl
   |cons o os =>
    show L6 Stp.next Stp.exit Stp.fail _ _=_;simp only[L6];rw[bfD (w8 (Qie _))];rfl
  ·rw[<- hO'];exact⟨rfl,rfl,rfl⟩
theorem yd9(x:LPq)(y:PLq)(hy:y.length<=1000000)(hx:x.length<=10000)(hxl:∀c∈x,c.length<=1000000):Rd (two (r1L tLq) r1I) (ib2 x y) (λr=>r=ja5 x y):=by
 have hF:=Qc9 (c:=y) (by omega);have gF:=Rc0 (c:=y) (by omega)
 have hL:=kd9 y hy;unfold ib2 ja5 ga3;simp only[l9,A3,s7,hF,gF,hL,g7,Qka];cases hf:ful y with
 |false=>exact⟨_,(x,0),rfl,Ff7 tLq x 0,rfl⟩
 |true =>
  have hc:=(Rc5.1 hf).1;have hfl:(lean y).length<=48:=by
   have:=Qd7 y
   rw[beq_iff_eq,Fb3] at hc;omega
  have hok:∀p∈lean y,okp p=true:=λp hp=>od8 hc p (Qbj _ (Ff4 hp))
  obtain⟨t,s,hlp,hw⟩:=Tf2 y x hy hx hxl hok hfl;simp only[hlp,Qkf,A7,if_true];cases hr:x.all (wb7 y) with
  |false =>
   obtain⟨ht,j,h1,h2⟩:=hw.n hr;have hP:=ff5 (x:=gL tLq x j) hok (by omega)
   rw[h2] at hP;simp only[h1,Int.toNat_natCast,hP]
   rcases ht with rfl|rfl<;>exact⟨_,([],9),rfl,rfl,rfl⟩
  |true =>
   obtain⟨h1,h2,h3⟩:=hw.y hr;by_cases hO:x.flatMap (zb9 y)=[]
   ·rw[hO] at h1 ⊢;have h1:t=2:=h1;subst h1;exact⟨_,([],0),rfl,rfl,rfl⟩
   ·have h1 : t = 4 := by
     obtain⟨o,os,hO⟩:=List.exists_cons_of_ne_nil hO;rw[h1,hO];rfl
    subst h1;rw[h2,h3];by_cases h200:(x.flatMap (zb9 y)).length<=200
    ·rw[decide_eq_true h200]
     have:decide (((x.flatMap (zb9 y)).length:Int)>200)=false:=decide_eq_false (by omega)
     rw[this];exact⟨_,(x.flatMap (zb9 y),0),rfl,Ff8 tLq _ _ 0,rfl⟩
    ·rw[decide_eq_false h200]
     have:decide (((x.flatMap (zb9 y)).length:Int)>200)=true:=decide_eq_true (by omega)
     rw[this];exact⟨_,([],9),rfl,rfl,rfl⟩
theorem Wb0{x:LPq}{y:PLq}(hy:y.length<=1000000)(hx:x.length<=10000)(hxl:∀c∈x,c.length<=1000000):L7 x y=ja5 x y:=(yd9 x y hy hx hxl).p
theorem Td4{x:LPq}{y:PLq}(hy:y.length<=1000000)(hx:x.length<=10000)(hxl:∀c∈x,c.length<=1000000):ib3 x y=true:=(yd9 x y hy hx hxl).g
theorem Td5(s:LPq)(hs:s.length<=1000000)(hl:∀c∈s,c.length<=1000000):Fb7 s=some (i (schk s),[]):=by
 have h:=jb8 (step:=Xa0 ⟨s⟩) (mk:=λj=>(⟨(j:Int)⟩:ha5)) (c:=λc=>chk c != 0) (u:=1) (fin:=2) tLq s (by omega)
  (λj hj=>by
   have hc:=hl _ (M1 tLq hj);simp only[Xa0,kb4,Int.toNat_natCast,l9,A3,sb9 _ (show (gL tLq s j).length<=1000000000 by omega),Ub8 _ (show (gL tLq s j).length<=1000000000 by omega),A5 hj (show s.length<=4611686018427387904 by omega),g7]
   rw[btD (n8 hj),bt (l0 hj)])
  (by simp only[Xa0,kb4];rw[bfD (w8 (Qie _))]) 0 (Qbv _)
 rw[Qic,Qar] at h;unfold Fb7 schk;simp only[l9,A3,s7];rw[show (⟨0⟩:ha5)=⟨((0:Nat):Int)⟩ from rfl,h]
 by_cases h16:(s.length:Int)>16
 ·rw[btD h16,if_pos h16]
 ·rw[bfD h16,if_neg h16];cases ha:s.any λc=>chk c != 0 with
  |true =>
   have hlt:s.findIdx (λc=>chk c != 0)<s.length:=Qkd.2 (Qiad.1 ha)
   have hc:=hl _ (M1 tLq hlt);rw[ue1 tLq s _ ha];simp only[Int.toNat_natCast,if_true,sb9 _ (show (gL tLq s (s.findIdx λc=>chk c != 0)).length<=1000000000 by omega)]
   rfl
  |false =>
   rw[Qjs.2 λc hc=>by have:=Qbk.1 ha c hc;simpa using this]
   rfl
theorem qf3{s:LPq}(hs:s.length<=1000000)(hl:∀c∈s,c.length<=1000000):bc2 s=schk s:=by unfold bc2;rw[Td5 s hs hl];rfl
theorem qf4{s:LPq}(hs:s.length<=1000000)(hl:∀c∈s,c.length<=1000000):bc3 s=true:=by unfold bc3;rw[Td5 s hs hl];rfl
structure RM0(c:PLq)(ys:LPq)(t:Nat)(s:D6):Prop where
 y:∀r,Fb6 ys (some [c])=some r->(ys=[]/\t=2)\/(ys≠[]/\t=4/\s.Za3=r)
 n:Fb6 ys (some [c])=none->(t=1/\∃j,s.is8=((j:Nat):Int)/\ja5 [c] (gL tLq ys j)=([],9))\/(t=3/\∃j,s.is8=((j:Nat):Int)/\ja5 s.Za3 (gL tLq ys j)=([],9)/\j<ys.length/\s.Za3.length<=200/\∀c∈s.Za3,c.length<=48)
theorem Gf4(c:PLq)(ys:LPq)(hc:c.length<=48)(hn:ys.length<=1000)(hy:∀q∈ys,q.length<=1000000) :
  ∃t s,lp (J9 ⟨ys,c⟩) ⟨0,0,[]⟩=(t,s)/\RM0 c ys t s:=by
 refine da0 (step:=J9 ⟨ys,c⟩) (mk:=λj (ps:LPq)=>(⟨if j=0 then 0 else 1,(j:Int),if j=0 then [] else ps⟩:D6)) ys.length
  (λj ps=>j<=ys.length/\Fb6 (ys.take j) (some [c])=some ps/\ps.length<=200/\∀x∈ps,x.length<=48) (RM0 c ys) (by omega)
  (λj ps hj hi=>?_) (λj ps hj hi=>?_) 0 [c] ⟨Qbv _,rfl,by simp,by simpa using hc⟩
 ·obtain⟨_,hm,hl,hle⟩:=hi;have hw1:W ((j:Int)+1)=((j+1:Nat):Int):=A5 hj (by omega)
  have hq:=hy _ (M1 tLq hj);have hgx:inB (j:Int) ys.length=true:=l0 hj;have hmj:=Ve6 hj (some [c]);have hsp:=Ke0 ys (j+1) (some [c]);rw[hm] at hmj;have pw:=Wb0 (x:=ps) hq (by omega) λx hx=>Qai (hle x hx) (by omega)
  have gw:=Td4 (x:=ps) hq (by omega) λx hx=>Qai (hle x hx) (by omega)
  have hmj:Fb6 (ys.take (j+1)) (some [c])=ga3 ps (gL tLq ys j):=hmj;by_cases h0:j=0
  ·subst h0;have hps:ps=[c]:=by
    have:some [c]=some ps:=hm
    injection this with this;exact this.symm
   subst hps;cases hw:ga3 [c] (gL tLq ys 0) with
   |some r =>
    have hR:ja5 [c] (gL tLq ys 0)=(r,0):=by unfold ja5;rw[hw]
    rw[hR] at pw;have e:J9 ⟨ys,c⟩ ⟨0,((0:Nat):Int),[]⟩=.next ⟨1,((0+1:Nat):Int),r⟩:=by
     show fa4 Stp.next Stp.exit Stp.fail _ _=_;simp only[fa4,Int.toNat_natCast,l9,A3,pw,gw,hw1,hgx,g7,Qka];rw[btD (n8 hj)];rfl
    show Nx (J9 ⟨ys,c⟩ ⟨0,((0:Nat):Int),[]⟩) _ _;rw[e];exact .nx ⟨r,rfl,hj,hmj.trans hw,ld0 hw (by simp),yd2 hw (by simpa using hc)⟩
   |none =>
    have hR:ja5 [c] (gL tLq ys 0)=([],9):=by unfold ja5;rw[hw]
    rw[hR] at pw;have e:J9 ⟨ys,c⟩ ⟨0,((0:Nat):Int),[]⟩=.exit 1:=by
     show fa4 Stp.next Stp.exit Stp.fail _ _=_;simp only[fa4,Int.toNat_natCast,l9,A3,pw,gw,hw1,hgx,g7,Qka];rw[btD (n8 hj)];rfl
    show Nx (J9 ⟨ys,c⟩ ⟨0,((0:Nat):Int),[]⟩) _ _;rw[e];rw[hmj,hw,Rd1] at hsp;exact .ex ⟨λr hr=>(by rw[hsp] at hr;cases hr),λ_=>.inl ⟨rfl,0,rfl,hR⟩⟩
  ·have em:(⟨if j=0 then 0 else 1,(j:Int),if j=0 then [] else ps⟩:D6)=⟨1,(j:Int),ps⟩:=by rw[if_neg h0,if_neg h0]
   rw[em];cases hw:ga3 ps (gL tLq ys j) with
   |some r =>
    have hR:ja5 ps (gL tLq ys j)=(r,0):=by unfold ja5;rw[hw]
    rw[hR] at pw;have e:J9 ⟨ys,c⟩ ⟨1,(j:Int),ps⟩=.next ⟨1,((j+1:Nat):Int),r⟩:=by
     show L0 Stp.next Stp.exit Stp.fail _ _=_;simp only[L0,Int.toNat_natCast,l9,A3,pw,gw,hw1,hgx,g7,Qka];rw[btD (n8 hj)];rfl
    rw[e];exact .nx ⟨r,by rw[if_neg (by omega),if_neg (by omega)],hj,hmj.trans hw,ld0 hw hl,yd2 hw hle⟩
   |none =>
    have hR:ja5 ps (gL tLq ys j)=([],9):=by unfold ja5;rw[hw]
    rw[hR] at pw;have e:J9 ⟨ys,c⟩ ⟨1,(j:Int),ps⟩=.exit 3:=by
     show L0 Stp.next Stp.exit Stp.fail _ _=_;simp only[L0,Int.toNat_natCast,l9,A3,pw,gw,hw1,hgx,g7,Qka];rw[btD (n8 hj)];rfl
    rw[e];rw[hmj,hw,Rd1] at hsp;exact .ex ⟨λr hr=>(by rw[hsp] at hr;cases hr),λ_=>.inr ⟨rfl,j,rfl,hR,hj,hl,hle⟩⟩
 ·obtain⟨h1,hm,hl,hle⟩:=hi;have hje:j=ys.length:=by omega
  subst hje;rw[Qkb] at hm;by_cases h0:ys.length=0
  ·have hnil:ys=[]:=List.length_eq_zero_iff.1 h0;subst hnil;refine⟨2,?_,λr hr=>.inl ⟨rfl,rfl⟩,λh=>(by rw[hm] at h;cases h)⟩
   show fa4 Stp.next Stp.exit Stp.fail ⟨[],c⟩ ⟨0,((([]:LPq).length:Nat):Int),[]⟩=_;simp only[fa4];rfl
  ·have em:(⟨if ys.length=0 then 0 else 1,(ys.length:Int),if ys.length=0 then [] else ps⟩:D6)=⟨1,(ys.length:Int),ps⟩:=by rw[if_neg h0,if_neg h0]
   rw[em];refine⟨4,?_,λr hr=>.inr ⟨λe=>h0 (by rw[e];rfl),rfl,?_⟩,λh=>(by rw[hm] at h;cases h)⟩
   ·show L0 Stp.next Stp.exit Stp.fail _ _=_;simp only[L0];rw[bfD (w8 (Qie _))]
   ·rw[hm] at hr;injection hr
theorem Gf5(ys:LPq)(hn:ys.length<=1000)(hy:∀q∈ys,q.length<=1000000) :
  ∃t s,lp (J9 ⟨ys,[]⟩) ⟨2,0,[]⟩=(t,s)/\((t=6\/t=4)/\s.Za3=[]):=by
 refine da0 (step:=J9 ⟨ys,[]⟩) (mk:=λj (_:Unit)=>(⟨if j=0 then 2 else 1,(j:Int),[]⟩:D6)) ys.length
  (λj _=>j<=ys.length) (λt s=>(t=6\/t=4)/\s.Za3=[]) (by omega)
  (λj _ hj hi=>?_) (λj _ hj hi=>?_) 0 () (Qbv _)
 ·have hw1:W ((j:Int)+1)=((j+1:Nat):Int):=A5 hj (by omega)
  have hq:=hy _ (M1 tLq hj);have hgx:inB (j:Int) ys.length=true:=l0 hj;have pw:=Wb0 (x:=[]) hq (by simp) (by simp)
  have gw:=Td4 (x:=[]) hq (by simp) (by simp)
  have hR:ja5 [] (gL tLq ys j)=([],0):=by
   have:ga3 [] (gL tLq ys j)=some []:=by unfold ga3;split<;>rfl
   unfold ja5;rw[this]
  rw[hR] at pw;have z00:((0:Int) != 0)=false:=rfl;have e:J9 ⟨ys,[]⟩ ⟨if j=0 then 2 else 1,(j:Int),[]⟩=.next ⟨1,((j+1:Nat):Int),[]⟩:=by
   by_cases h0:j=0
   ·rw[if_pos h0];show wa7 Stp.next Stp.exit Stp.fail _ _=_;simp only[wa7,Int.toNat_natCast,l9,A3,pw,gw,hw1,hgx,z00,g7,A7,Qka];rw[btD (n8 hj)]
   ·rw[if_neg h0];show L0 Stp.next Stp.exit Stp.fail _ _=_;simp only[L0,Int.toNat_natCast,l9,A3,pw,gw,hw1,hgx,z00,g7,A7,Qka];rw[btD (n8 hj)]
  rw[e];exact .nx ⟨(),by rw[if_neg (by omega)],hj⟩
 ·have hje:j=ys.length:=by omega
  subst hje;by_cases h0:ys.length=0
  ·refine⟨6,?_,.inl rfl,rfl⟩;rw[if_pos h0];show wa7 Stp.next Stp.exit Stp.fail _ _=_;simp only[wa7];rw[bfD (w8 (Qie _))]
  ·refine⟨4,?_,.inr rfl,rfl⟩;rw[if_neg h0];show L0 Stp.next Stp.exit Stp.fail _ _=_;simp only[L0];rw[bfD (w8 (Qie _))]
theorem je7(x:PLq)(y:LPq)(hx:x.length<=1000000)(hn:y.length<=1000000)(hy:∀q∈y,q.length<=1000000):Rd (two (r1L tLq) r1I) (Fb9 x y) (λr=>r=Jc4 x y):=by
 have hC:=sb9 x (show x.length<=1000000000 by omega);have gC:=Ub8 x (show x.length<=1000000000 by omega)
 have hS:=qf3 hn hy;have gS:=qf4 hn hy;have hF:=Qc9 (c:=x) (by omega);have gF:=Rc0 (c:=x) (by omega)
 have hL:=kd9 x hx;have gL':=Fd7 x hx;unfold Fb9 Jc4;simp only[l9,A3,s7,hC,gC,hS,gS,hF,gF,hL,gL',g7,Qka];cases hc:chk x != 0 with
 |true =>
  have hc':(chk x==0)=false:=by simpa using hc
  rw[hc'];exact⟨_,([],chk x),rfl,rfl,rfl⟩
 |false =>
  have hc':(chk x==0)=true:=by simpa using hc
  rw[hc'];cases hs:schk y != 0 with
  |true=>exact⟨_,([],schk y),rfl,rfl,rfl⟩
  |false =>
   have hc0:chk x=0:=by simpa using hc
   have hs0:=qf0 (show schk y=0 by simpa using hs)
   simp only[g7,A7,Qiu,if_false];cases hf:ful x with
   |false =>
    rw[qf1 hf];obtain⟨t,s,hlp,ht,hs7⟩:=Gf5 y (by omega) hy
    rw[hlp];simp only[hs7]
    rcases ht with rfl|rfl
    ·exact⟨_,([],0),rfl,rfl,rfl⟩
    ·exact⟨_,([],0),rfl,Ff7 tLq [] 0,rfl⟩
   |true =>
    simp only[g7];have hm:Qd9 x y=Fb6 y (some [lean x]):=by unfold Qd9 Fb6;rw[hf];rfl
    have hll:(lean x).length<=48:=Qai (Qd7 x) (mg3 hc0);obtain⟨t,s,hlp,hM⟩:=Gf4 (lean x) y hll (by omega) hy
    rw[hlp,hm];cases hr:Fb6 y (some [lean x]) with
    |some r =>
     rcases hM.y r hr with⟨rfl,rfl⟩|⟨_,rfl,rfl⟩
     ·have : r = [lean x] := by
       have:some [lean x]=some r:=hr
       injection this with this;exact this.symm
      subst this;exact⟨_,([lean x],0),rfl,Ff8 tLq 24 [lean x] 0,rfl⟩
     ·exact⟨_,(s.Za3,0),rfl,Ff7 tLq _ 0,rfl⟩
    |none =>
     rcases hM.n hr with⟨rfl,j,h1,h2⟩|⟨rfl,j,h1,h2,hj,h4,h5⟩
     ·by_cases hj:j<y.length
      ·have pw:=Wb0 (x:=[lean x]) (hy _ (M1 tLq hj)) (by simp) (by simpa using Qai hll (by omega))
       rw[h2] at pw;simp only[h1,Int.toNat_natCast,pw];exact⟨_,([],9),rfl,rfl,rfl⟩
      ·have hd:gL tLq y j=[]:=by simp[gL,Qda,Qat (show y.length<=j by omega)];rfl
       have pw:=Wb0 (x:=[lean x]) (y:=gL tLq y j) (by rw[hd];simp) (by simp) (by simpa using Qai hll (by omega))
       rw[h2] at pw;simp only[h1,Int.toNat_natCast,pw];exact⟨_,([],9),rfl,rfl,rfl⟩
     ·have pw:=Wb0 (x:=s.Za3) (hy _ (M1 tLq hj)) (by omega) λc hc=>Qai (h5 c hc) (by omega)
      rw[h2] at pw;simp only[h1,Int.toNat_natCast,pw];exact⟨_,([],9),rfl,rfl,rfl⟩
theorem Gf6{x:PLq}{y:LPq}(hx:x.length<=1000000)(hn:y.length<=1000000)(hy:∀q∈y,q.length<=1000000):Jc7 x y=Jc4 x y:=(je7 x y hx hn hy).p
theorem Gf7{x:PLq}{y:LPq}(hx:x.length<=1000000)(hn:y.length<=1000000)(hy:∀q∈y,q.length<=1000000):Jc8 x y=true:=(je7 x y hx hn hy).g
theorem Ve9(x:LPq)(y:PLq)(hy:y.length<=1000000)(hn:x.length<=1000000)(hx:∀q∈x,q.length<=1000000):ub0 x y=some (.tup [b (ab9 x y).1,i (ab9 x y).2],[]):=by
 unfold ub0 ab9;simp only[l9,A3,Gf6 hy hn hx,Gf7 hy hn hx,g7];cases (Jc4 y x).2==0<;>rfl
theorem je8{x:LPq}{y:PLq}(hy:y.length<=1000000)(hn:x.length<=1000000)(hx:∀q∈x,q.length<=1000000):za6 x y=true:=by unfold za6;rw[Ve9 x y hy hn hx];rfl
theorem Td6(c:PLq)(s:LPq)(hc:c.length<=1000000)(hs:s.length<=1000000)(hl:∀q∈s,q.length<=1000000):Gb0 c s=some (b (La2 c s),[]):=by
 have h:=sc4 (step:=Xa2 ⟨c,s⟩) (mk:=λj=>(⟨(j:Int)⟩:Ja9)) (c:=λq=>!apart c q) (u:=1) (fin:=2) tLq s (by omega)
  (λj hj=>by
   have hq:=hl _ (M1 tLq hj);simp only[Xa2,kb5,Int.toNat_natCast,l9,A3,kd6 (a:=c) (c:=gL tLq s j) (by omega) (by omega),kd7 (a:=c) (c:=gL tLq s j) (by omega) (by omega),A5 hj (show s.length<=4611686018427387904 by omega),g7]
   rw[btD (n8 hj),bt (l0 hj)])
  (by simp only[Xa2,kb5];rw[bfD (w8 (Qie _))]) 0 (Qbv _)
 rw[Qic] at h;unfold Gb0 La2;simp only[l9,s7];rw[show (⟨0⟩:Ja9)=⟨((0:Nat):Int)⟩ from rfl,h]
 cases s.any (λq=>!apart c q)<;>rfl
theorem qf5{c:PLq}{s:LPq}(hc:c.length<=1000000)(hs:s.length<=1000000)(hl:∀q∈s,q.length<=1000000):G3 c s=La2 c s:=by unfold G3;rw[Td6 c s hc hs hl];rfl
theorem nc5{c:PLq}{s:LPq}(hc:c.length<=1000000)(hs:s.length<=1000000)(hl:∀q∈s,q.length<=1000000):X3 c s=true:=by unfold X3;rw[Td6 c s hc hs hl];rfl
theorem zd0(x:LPq)(hx:x.length<=1000000)(hl:∀q∈x,q.length<=1000000):Xa3 x x=some (b true,[]):=by
 have h:=sc4 (step:=za7 ⟨x,x⟩) (mk:=λj=>(⟨(j:Int)⟩:Ja9)) (c:=λ_=>false) (u:=1) (fin:=2) tLq x (by omega)
  (λj hj=>by
   have hq:=hl _ (M1 tLq hj);simp only[za7,La3,Int.toNat_natCast,l9,A3,kg1 (gL tLq x j) (by omega),kg2 (gL tLq x j) (by omega),A5 hj (show x.length<=4611686018427387904 by omega),Qkf,g7]
   rw[btD (n8 hj),bt (l0 hj),bt (l0 hj)])
  (by simp only[za7,La3];rw[bfD (w8 (Qie _))]) 0 (Qbv _)
 rw[Qic,show (x.any λ_=>false)=false by simp] at h
 unfold Xa3;simp only[l9,s7];rw[show (⟨0⟩:Ja9)=⟨((0:Nat):Int)⟩ from rfl,h,bf (by simp)]
 rfl
theorem We0{x:LPq}(hx:x.length<=1000000)(hl:∀q∈x,q.length<=1000000):T3 x x=true:=by unfold T3;rw[zd0 x hx hl];rfl
theorem We1{x:LPq}(hx:x.length<=1000000)(hl:∀q∈x,q.length<=1000000):T4 x x=true:=by unfold T4;rw[zd0 x hx hl];rfl
structure Pok(x:Pce):Prop where
 su:x.su.length<=1000000
 to:x.to.length<=1000000
 cu:x.cu.length<=1000000
 cl:∀q∈x.cu,q.length<=1000000
def Td7(s:LPq):Int:=match s.find? λc=>chk c != 0 with
 |some c=>chk c
 |none=>0
theorem zd1(s:LPq)(hs:s.length<=1000000)(hl:∀c∈s,c.length<=1000000):ib8 s=some (i (Td7 s),[]):=by
 have h:=jb8 (step:=Ha5 ⟨s⟩) (mk:=λj=>(⟨(j:Int)⟩:ha5)) (c:=λc=>chk c != 0) (u:=1) (fin:=2) tLq s (by omega)
  (λj hj=>by
   have hc:=hl _ (M1 tLq hj);simp only[Ha5,Ra8,Int.toNat_natCast,l9,A3,sb9 _ (show (gL tLq s j).length<=1000000000 by omega),Ub8 _ (show (gL tLq s j).length<=1000000000 by omega),A5 hj (show s.length<=4611686018427387904 by omega),g7]
   rw[btD (n8 hj),bt (l0 hj)])
  (by simp only[Ha5,Ra8];rw[bfD (w8 (Qie _))]) 0 (Qbv _)
 rw[Qic,Qar] at h;unfold ib8 Td7;simp only[l9,A3,s7];rw[show (⟨0⟩:ha5)=⟨((0:Nat):Int)⟩ from rfl,h]
 cases ha:s.any λc=>chk c != 0 with
 |true =>
  have hlt:s.findIdx (λc=>chk c != 0)<s.length:=Qkd.2 (Qiad.1 ha)
  have hc:=hl _ (M1 tLq hlt);rw[ue1 tLq s _ ha];simp only[Int.toNat_natCast,if_true,sb9 _ (show (gL tLq s (s.findIdx λc=>chk c != 0)).length<=1000000000 by omega)]
  rfl
 |false =>
  rw[Qjs.2 λc hc=>by have:=Qbk.1 ha c hc;simpa using this]
  rfl
theorem We2{s:LPq}(hs:s.length<=1000000)(hl:∀c∈s,c.length<=1000000):Da4 s=Td7 s:=by unfold Da4;rw[zd1 s hs hl];rfl
theorem ad5{s:LPq}(hs:s.length<=1000000)(hl:∀c∈s,c.length<=1000000):Pa4 s=true:=by unfold Pa4;rw[zd1 s hs hl];rfl
def cc4(x:Prt)(y:Pce):Bool:=(y.su.length:Int)==(x.cl.length:Int)&&((y.to.length:Int)==(x.cl.length:Int)&&(decide ((y.cu.length:Int)<=24)&&(Td7 y.cu==0)))
theorem ff6{x:Prt}{y:Pce}(h:Pok y):Vb8 x y=some (b (cc4 x y),[]):=by
 unfold Vb8 cc4;simp only[l9,A3,We2 h.cu h.cl,ad5 h.cu h.cl,g7];cases ((y.su.length:Int)==(x.cl.length:Int))<;>cases ((y.to.length:Int)==(x.cl.length:Int))<;>cases decide ((y.cu.length:Int)<=24)<;>rfl
theorem Gf8{x:Prt}{y:Pce}(h:Pok y):Ab2 x y=cc4 x y:=by unfold Ab2;rw[ff6 h];rfl
theorem We3{x:Prt}{y:Pce}(h:Pok y):Ab3 x y=true:=by unfold Ab3;rw[ff6 h];rfl
structure Jok(x:Prt):Prop where
 cl:x.cl.length<=1000000
 wt:x.wt.length<=1000000
 pl:∀c∈x.cl,c.length<=1000000
def Sc9(n:Int):Bool:=decide (n<1)||decide (n>3)
def td9(l:LPq)(j:Nat):Bool:=!ful (gL tLq l j)||(List.range j).any λk=>!apart (gL tLq l k) (gL tLq l j)
def vb7(x:Prt):Int :=
 if (x.cl.length:Int)<1 then 2 else if (x.cl.length:Int)>16 then 2 else if ((x.wt.length:Int) != (x.cl.length:Int))=true then 1 else if x.wt.any Sc9=true then 1
 else if (List.range x.cl.length).any (td9 x.cl)=true then 13 else 0
theorem Ke7{nm:ByteArray}{l:LPq}{w:List Int}(hl:l.length<=1000000)(hp:∀c∈l,c.length<=1000000){j:Nat}(hj:j<l.length) :
  ∃k,lp (Ha3 ⟨(j:Int),nm,l,w⟩) ⟨0⟩=(if ((List.range j).any λk=>!apart (gL tLq l k) (gL tLq l j))=true then 1 else 2,(⟨((k:Nat):Int)⟩:Ja9)):=by
 have h:=tc3 (step:=Ha3 ⟨(j:Int),nm,l,w⟩) (mk:=λk=>(⟨(k:Int)⟩:Ja9)) j (λk=>!apart (gL tLq l k) (gL tLq l j)) 1 2 (by omega)
  (λk hk=>by
   have hkl:k<l.length:=by omega
   have hc:=hp _ (M1 tLq hkl);have hd:=hp _ (M1 tLq hj);simp only[Ha3,kb7,Int.toNat_natCast,l9,A3,kd6 (show (gL tLq l k).length<=100000000 by omega) (show (gL tLq l j).length<=100000000 by omega),kd7 (show (gL tLq l k).length<=100000000 by omega) (show (gL tLq l j).length<=100000000 by omega),A5 hk (show j<=4611686018427387904 by omega),g7]
   rw[btD (n8 hk),bt (l0 hkl),bt (l0 hj)])
  (by simp only[Ha3,kb7];rw[bfD (w8 (Qie _))])
 exact h
theorem We4{nm:ByteArray}{l:LPq}{w:List Int}(hl:l.length<=1000000)(hp:∀c∈l,c.length<=1000000) :
  ∃k,lp (Ha4 ⟨nm⟩) ⟨0,l,w⟩=(if (List.range l.length).any (td9 l)=true then 1 else 2,(⟨((k:Nat):Int),l,w⟩:ia1)):=by
 have h:=tc3 (step:=Ha4 ⟨nm⟩) (mk:=λk=>(⟨(k:Int),l,w⟩:ia1)) l.length (td9 l) 1 2 (by omega)
  (λj hj=>by
   have hc:=hp _ (M1 tLq hj);obtain⟨k,hk⟩:=Ke7 (nm:=nm) (w:=w) hl hp hj;simp only[Ha4,kb8,Int.toNat_natCast,l9,A3,s7,Qc9 (show (gL tLq l j).length<=1000000000 by omega),Rc0 (show (gL tLq l j).length<=1000000000 by omega),A5 hj (show l.length<=4611686018427387904 by omega),g7,hk,Qka]
   rw[btD (n8 hj),bt (l0 hj)];unfold td9;cases ful (gL tLq l j) with
   |false=>rfl
   |true =>
    cases ha:(List.range j).any λk=>!apart (gL tLq l k) (gL tLq l j) with
    |false=>rfl
    |true=>rfl)
  (by simp only[Ha4,kb8];rw[bfD (w8 (Qie _))])
 exact h
theorem ff7{x:Prt}(h:Jok x):Gb1 x=some (i (vb7 x),[]):=by
 have h0:=sc4 (step:=Xa4 ⟨x.nm,x.cl,x.wt⟩) (mk:=λj=>(⟨(j:Int)⟩:ha5)) (c:=Sc9) (u:=1) (fin:=2) tI x.wt (by have:=h.wt;omega)
  (λj hj=>by
   simp only[Xa4,kb6,Int.toNat_natCast,A5 hj (show x.wt.length<=4611686018427387904 by have:=h.wt;omega)]
   rw[btD (n8 hj),bt (l0 hj),bt (l0 hj)];unfold Sc9;cases decide (gL tI x.wt j<1)<;>rfl)
  (by simp only[Xa4,kb6];rw[bfD (w8 (Qie _))]) 0 (Qbv _)
 rw[Qic] at h0;obtain⟨k,hk⟩:=We4 (nm:=x.nm) (w:=x.wt) h.cl h.pl;unfold Gb1 vb7;simp only[l9,s7,Qka,g7];rw[show (⟨0⟩:ha5)=⟨((0:Nat):Int)⟩ from rfl]
 by_cases h1:(x.cl.length:Int)<1
 ·rw[btD h1,if_pos h1]
 ·rw[bfD h1,if_neg h1];by_cases h2:(x.cl.length:Int)>16
  ·rw[btD h2,if_pos h2]
  ·rw[bfD h2,if_neg h2];cases h3:((x.wt.length:Int) != (x.cl.length:Int)) with
   |true=>rfl
   |false =>
    rw[A7,if_neg (by simp)]
    cases h4:x.wt.any Sc9 with
    |true =>
     rw[h4] at h0;simp only[if_true] at h0 ⊢;rw[h0];rfl
    |false =>
     rw[h4] at h0;simp only[Qiu,if_false] at h0 ⊢;rw[h0,hk];cases (List.range x.cl.length).any (td9 x.cl)<;>rfl
theorem Gf9{x:Prt}(h:Jok x):nb9 x=vb7 x:=by unfold nb9;rw[ff7 h];rfl
theorem We5{x:Prt}(h:Jok x):ob0 x=true:=by unfold ob0;rw[ff7 h];rfl
def qf6(x:Prt):Pce:=⟨List.replicate x.cl.length false,List.replicate x.cl.length false,[]⟩
theorem tc9(a c:PLq):apart a c=apart c a:=by
 by_cases ha:(chk a==0)=true
 ·by_cases hc:(chk c==0)=true
  ·rw[Bool.eq_iff_iff,Qb5 ha hc,Qb5 hc ha];exact⟨λh z h1 h2=>h z h2 h1,λh z h1 h2=>h z h2 h1⟩
  ·have hc:(chk c==0)=false:=by simpa using hc
   unfold apart;rw[hc,Bool.and_false,Bool.false_and];rfl
 ·have ha:(chk a==0)=false:=by simpa using ha
  unfold apart;rw[ha,Bool.and_false,Bool.false_and];rfl
theorem Td8(n:Int):kb0 n=Sc9 n/\kb1 n=true:=by
 have h:Na9 n=some (b (Sc9 n),[]):=by
  unfold Na9 Sc9;cases decide (n<1)<;>rfl
 unfold kb0 kb1;rw[h];exact⟨rfl,rfl⟩
theorem Tf3(w:List Int)(hw:w.length<=1000000):la2 ⟨w⟩=⟨1,if w.any Sc9=true then ((w.findIdx Sc9:Nat):Int) else -1⟩:=by
 have h:=jb8 (step:=T2 ⟨w,(w.length:Int)⟩) (mk:=λj=>(⟨(j:Int)⟩:B8)) (c:=Sc9) (u:=1) (fin:=2) tI w (by omega)
  (λj hj=>by
   simp only[T2,ba1,Int.toNat_natCast,(Td8 _).1,(Td8 _).2,A5 hj (show w.length<=4611686018427387904 by omega),g7]
   rw[btD (n8 hj),bt (l0 hj)])
  (by simp only[T2,ba1];rw[bfD (w8 (Qie _))]) 0 (Qbv _)
 rw[Qic,Qar] at h;unfold la2 Ga7;simp only[l9,s7,Qii,g7];rw[show (⟨0⟩:B8)=⟨((0:Nat):Int)⟩ from rfl,h]
 cases w.any Sc9<;>rfl
theorem Tf4(w:List Int)(hw:w.length<=1000000):da4 ⟨w⟩=⟨1,w.any Sc9⟩:=by
 unfold da4 sa9;simp only[l9,s7,Qii,g7,Tf3 w hw];rw[show Nat.beq 1 1=true from rfl,g7]
 cases w.any Sc9 with
 |true =>
  rw[if_pos rfl,decide_eq_true (show ((w.findIdx Sc9:Nat):Int)>=0 by omega)]
 |false=>rfl
theorem Tf5{l:LPq}{j:Nat}(hj:j<l.length):td9 l j=(!ful (gL tLq l j)||!La2 (gL tLq l j) (l.take j)):=by
 unfold td9 La2;rw[Bool.not_not];congr 1;rw[Bool.eq_iff_iff,Qiad,Qiad];constructor
 ·rintro⟨k,hk,h⟩;have hk:=Qca.1 hk;refine⟨gL tLq l k,?_,by rw[tc9];exact h⟩
  rw[Qfa];refine⟨k,?_⟩;rw[Qap,if_pos hk];simp[gL,Qda,Qaa (show k<l.length by omega)]
 ·rintro⟨q,hq,h⟩;obtain⟨k,hk⟩:=Qfa.1 hq;rw[Qap] at hk
  split at hk
  case isFalse=>cases hk
  rename_i hkj;refine⟨k,Qca.2 hkj,?_⟩;rw[tc9,show gL tLq l k=q by simp[gL,Qda,hk]]
  exact h
theorem qf7{nm:ByteArray}{l:LPq}{w:List Int}(hl:l.length<=1000000)(hp:∀c∈l,c.length<=1000000) :
  ∃k,lp (ra3 ⟨l,(l.length:Int),nm,l,w⟩) ⟨0⟩=(if (List.range l.length).any (td9 l)=true then 1 else 2,(⟨((k:Nat):Int)⟩:Y9)):=by
 have h:=tc3 (step:=ra3 ⟨l,(l.length:Int),nm,l,w⟩) (mk:=λk=>(⟨(k:Int)⟩:Y9)) l.length (td9 l) 1 2 (by omega)
  (λj hj=>by
   have hc:=hp _ (M1 tLq hj);have ht:∀q∈l.take j,q.length<=1000000:=λq hq=>hp q (List.mem_of_mem_take hq)
   have htl:(l.take j).length<=1000000:=by rw[Qia];omega
   obtain⟨e1,e2⟩:=Ke1 tLq l j (by omega)
   rw[Tf5 hj];simp only[ra3,Ra7,Int.toNat_natCast,l9,A3,e1,e2,Od8 (show (gL tLq l j).length<=1000000000 by omega),Od9 (show (gL tLq l j).length<=1000000000 by omega),Rd2 hc htl ht,Rd3 hc htl ht,A5 hj (show l.length<=4611686018427387904 by omega),g7]
   rw[btD (n8 hj),bt (l0 hj),bt (l0 (show j<l.length+1 by omega))]
   cases ful (gL tLq l j)<;>rfl)
  (by simp only[ra3,Ra7];rw[bfD (w8 (Qie _))])
 exact h
theorem ff8{x:Prt}(h:Jok x):hb8 x=some (i (vb7 x),[]):=by
 obtain⟨k,hk⟩:=qf7 (nm:=x.nm) (w:=x.wt) h.cl h.pl;unfold hb8 vb7;simp only[l9,s7,Qka,g7,Tf4 x.wt h.wt,hk];cases h1:((x.cl.length:Int)==0) with
 |true =>
  have h1:(x.cl.length:Int)=0:=by simpa using h1
  rw[g7,if_pos (show (x.cl.length:Int)<1 by omega)]
 |false =>
  have h1:¬ (x.cl.length:Int)=0:=by simpa using h1
  rw[A7,if_neg (show ¬ (x.cl.length:Int)<1 by omega)]
  by_cases h2:(x.cl.length:Int)>16
  ·rw[btD h2,if_pos h2]
  ·rw[bfD h2,if_neg h2];cases h3:((x.wt.length:Int) != (x.cl.length:Int)) with
   |true=>rfl
   |false=>cases x.wt.any Sc9<;>cases (List.range x.cl.length).any (td9 x.cl)<;>rfl
theorem Hf0{x:Prt}(h:Jok x):Cb0 x=vb7 x:=by unfold Cb0;rw[ff8 h];rfl
theorem mg6{x:Prt}(h:Jok x):Cb1 x=true:=by unfold Cb1;rw[ff8 h];rfl
theorem zd2(s:LPq)(hs:s.length<=1000000)(hl:∀c∈s,c.length<=1000000):Oa1 s=some (i (Td7 s),[]):=by
 have h:=jb8 (step:=ta0 ⟨s,(s.length:Int)⟩) (mk:=λj=>(⟨(j:Int)⟩:B8)) (c:=λc=>chk c != 0) (u:=1) (fin:=2) tLq s (by omega)
  (λj hj=>by
   have hc:=hl _ (M1 tLq hj);simp only[ta0,Ea1,Int.toNat_natCast,l9,A3,Fd6 _ (show (gL tLq s j).length<=1000000000 by omega),se2 _ (show (gL tLq s j).length<=1000000000 by omega),A5 hj (show s.length<=4611686018427387904 by omega),g7]
   rw[btD (n8 hj),bt (l0 hj)])
  (by simp only[ta0,Ea1];rw[bfD (w8 (Qie _))]) 0 (Qbv _)
 rw[Qic,Qar] at h;unfold Oa1 Td7;simp only[l9,A3,s7];rw[show (⟨0⟩:B8)=⟨((0:Nat):Int)⟩ from rfl,h]
 cases ha:s.any λc=>chk c != 0 with
 |true =>
  have hlt:s.findIdx (λc=>chk c != 0)<s.length:=Qkd.2 (Qiad.1 ha)
  have hc:=hl _ (M1 tLq hlt);rw[ue1 tLq s _ ha];simp only[Int.toNat_natCast,if_true,Fd6 _ (show (gL tLq s (s.findIdx λc=>chk c != 0)).length<=1000000000 by omega)]
  rfl
 |false =>
  rw[Qjs.2 λc hc=>by have:=Qbk.1 ha c hc;simpa using this]
  rfl
theorem We6{s:LPq}(hs:s.length<=1000000)(hl:∀c∈s,c.length<=1000000):kb2 s=Td7 s:=by unfold kb2;rw[zd2 s hs hl];rfl
theorem We7{s:LPq}(hs:s.length<=1000000)(hl:∀c∈s,c.length<=1000000):kb3 s=true:=by unfold kb3;rw[zd2 s hs hl];rfl
def Pb2(x:Prt)(y:Pce):Int:=if (vb7 x != 0)=true then vb7 x else if cc4 x y=true then 0 else 4
theorem je9{x:Prt}{y:Pce}(hx:Jok x)(hy:Pok y):Wa7 x y=some (i (Pb2 x y),[]):=by
 unfold Wa7 Pb2 cc4;have hj:Jok ⟨x.nm,x.cl,x.wt⟩:=⟨hx.cl,hx.wt,hx.pl⟩;simp only[l9,A3,Hf0 hx,Hf0 hj,mg6 hj,We6 hy.cu hy.cl,We7 hy.cu hy.cl,g7,Qka];rw[show vb7 ⟨x.nm,x.cl,x.wt⟩=vb7 x from rfl]
 cases (vb7 x != 0) with
 |true=>rfl
 |false =>
  rw[A7];simp only[Qiu,if_false];cases h1:((y.su.length:Int)==(x.cl.length:Int)) with
  |false=>rw[show ((y.su.length:Int) != (x.cl.length:Int))=true by rw[bne,h1];rfl];rfl
  |true =>
   rw[show ((y.su.length:Int) != (x.cl.length:Int))=false by rw[bne,h1];rfl]
   cases h2:((y.to.length:Int)==(x.cl.length:Int)) with
   |false=>rw[show ((y.to.length:Int) != (x.cl.length:Int))=true by rw[bne,h2];rfl];rfl
   |true =>
    rw[show ((y.to.length:Int) != (x.cl.length:Int))=false by rw[bne,h2];rfl]
    by_cases h3:(y.cu.length:Int)>24
    ·rw[decide_eq_true h3,decide_eq_false (show ¬ (y.cu.length:Int)<=24 by omega)];rfl
    ·rw[decide_eq_false h3,decide_eq_true (show (y.cu.length:Int)<=24 by omega)]
     cases h4:(Td7 y.cu==0) with
     |true=>rw[show (Td7 y.cu != 0)=false by rw[bne,h4];rfl];rfl
     |false=>rw[show (Td7 y.cu != 0)=true by rw[bne,h4];rfl];rfl
theorem Td9{x:Prt}{y:Pce}(hx:Jok x)(hy:Pok y):Wa8 x y=Pb2 x y:=by unfold Wa8;rw[je9 hx hy];rfl
theorem Ud0{x:Prt}{y:Pce}(hx:Jok x)(hy:Pok y):Wa9 x y=true:=by unfold Wa9;rw[je9 hx hy];rfl
def ra0(l:LPq)(c:PLq):LPq:=l.filter λq=>!apart q c
theorem We8(l:LPq)(c:PLq){j:Nat}(hj:j<l.length):ra0 (l.take (j+1)) c=ra0 (l.take j) c++(if apart (gL tLq l j) c then [] else [gL tLq l j]):=by
 unfold ra0;rw[sc5 tLq hj,Qiw];congr 1;generalize gL tLq l j=q;cases h:apart q c<;>simp[h]
theorem qf8(l:LPq)(c:PLq):(ra0 l c).length<=l.length:=Qjp _ _
structure RMt(l:LPq)(c:PLq)(j:Nat)(s:P7):Prop where
 le:j<=l.length
 ix:s.is6=(j:Int)
 ph:s.ph=phL (ra0 (l.take j) c)
 n:s.ns5=(ra0 (l.take j) c).length
 e:s.eh0=bL tLq (ra0 (l.take j) c)
theorem Tf6{O:LPq}(h:phL O=0):O=[]:=by cases O with | nil=>rfl | cons=>cases h
theorem I6(O:LPq):(phL O=0/\O=[])\/phL O=1:=by cases O with | nil=>exact .inl ⟨rfl,rfl⟩ | cons=>exact .inr rfl
theorem We9(l:LPq)(c:PLq)(hl:l.length<=1000000)(hp:∀q∈l,q.length<=1000000)(hc:c.length<=1000000) :
  ∃t s,lp (Xa5 ⟨l,c⟩) ⟨0,0,0,[]⟩=(t,s)/\RMt l c l.length s/\t=phL (ra0 l c)+1:=by
 refine da0 (step:=Xa5 ⟨l,c⟩) (mk:=λ_ (s:P7)=>s) l.length (RMt l c) (λt s=>RMt l c l.length s/\t=phL (ra0 l c)+1) (by omega)
  (λj s hj hi=>?_) (λj s hj hi=>?_) 0 _ ⟨Qbv _,rfl,rfl,rfl,rfl⟩
 ·obtain⟨_,h2,h3,h4,h5⟩:=hi;obtain⟨ph,is6,ns5,eh0⟩:=s
  simp only at h2 h3 h4 h5
  subst h2 h3 h4 h5;have hq:=hp _ (M1 tLq hj);have hw1:W ((j:Int)+1)=((j+1:Nat):Int):=A5 hj (by omega)
  have hgx:inB (j:Int) l.length=true:=l0 hj;have hlen:=qf8 (l.take j) c;have htl:(l.take j).length<=l.length:=by rw[Qia];omega
  have pa:=kd6 (show (gL tLq l j).length<=100000000 by omega) (show c.length<=100000000 by omega)
  have ga:=kd7 (show (gL tLq l j).length<=100000000 by omega) (show c.length<=100000000 by omega)
  have hnx:∃s,Xa5 ⟨l,c⟩ ⟨phL (ra0 (l.take j) c),(j:Int),(ra0 (l.take j) c).length,bL tLq (ra0 (l.take j) c)⟩=.next s/\RMt l c (j+1) s:=by
   have hm:=We8 l c hj
   rcases I6 (ra0 (l.take j) c) with⟨h0,hn⟩|h1
   ·rw[h0];refine⟨⟨phL (ra0 (l.take (j+1)) c),((j+1:Nat):Int),(ra0 (l.take (j+1)) c).length,bL tLq (ra0 (l.take (j+1)) c)⟩,?_,⟨hj,rfl,rfl,rfl,rfl⟩⟩;show wa8 Stp.next Stp.exit Stp.fail _ _=_;simp only[wa8,Int.toNat_natCast,l9,A3,pa,ga,hw1,hgx,g7];rw[btD (n8 hj),hm,hn];cases apart (gL tLq l j) c<;>rfl
   ·rw[h1];refine⟨⟨phL (ra0 (l.take (j+1)) c),((j+1:Nat):Int),(ra0 (l.take (j+1)) c).length,bL tLq (ra0 (l.take (j+1)) c)⟩,?_,⟨hj,rfl,rfl,rfl,rfl⟩⟩;show wa9 Stp.next Stp.exit Stp.fail _ _=_;simp only[wa9,Int.toNat_natCast,l9,A3,pa,ga,hw1,hgx,g7];rw[btD (n8 hj),hm,bt (ue0 _ (by omega)),ff1]
    cases apart (gL tLq l j) c with
    |true =>
     simp only[Qkf,A7,if_true,Qbu,h1]
    |false =>
     simp only[Qit,g7,Qiu,if_false,tb9,Qdc,List.length_singleton]
  obtain⟨s,e1,e2⟩:=hnx;rw[e1];exact .nx ⟨s,rfl,e2⟩
 ·have hje:j=l.length:=by have:=hi.le;omega
  subst hje;have hi':=hi;obtain⟨_,h2,h3,h4,h5⟩:=hi;obtain⟨ph,is6,ns5,eh0⟩:=s
  simp only at h2 h3 h4 h5
  subst h2 h3 h4 h5;rw[Qkb] at *
  rcases I6 (ra0 l c) with⟨h0,hn⟩|h1
  ·refine⟨1,?_,hi',by rw[h0]⟩
   rw[h0];show wa8 Stp.next Stp.exit Stp.fail _ _=_;simp only[wa8];rw[bfD (w8 (Qie _))]
  ·refine⟨2,?_,hi',by rw[h1]⟩
   rw[h1];show wa9 Stp.next Stp.exit Stp.fail _ _=_;simp only[wa9];rw[bfD (w8 (Qie _))]
theorem zd3{α:Type}(t:Ty α):(one (r1L t)).rd (.v (.slice none 0 0),[])=some []:=rfl
theorem Ag3{α:Type}(t:Ty α)(k:Nat)(l:List α):(one (r1L t)).rd (.sl 0 0 l.length 0,[⟨k,t.es,bL t l,true,false,0⟩])=some l:=by
 show (r1L t).rd [⟨k,t.es,bL t l,true,false,0⟩] (.sl 0 0 l.length 0)=some l;show Bool.rec (motive:=λ_=>Option (List α)) none (some (slR t (bL t l) 0 l.length)) (Bool.and (Nat.beq t.es t.es) (okS t (bL t l) 0 l.length))=some l
 rw[Qim,pc5,pc4];rfl
theorem Ke8(l:LPq)(c:PLq)(hl:l.length<=1000000)(hp:∀q∈l,q.length<=1000000)(hc:c.length<=1000000):Rd (one (r1L tLq)) (Gb2 l c) (λr=>r=ra0 l c):=by
 obtain⟨t,s,h1,h2,h3⟩:=We9 l c hl hp hc;unfold Gb2;simp only[l9,s7,Qka,g7,h1];have hn:=h2.n;have he:=h2.e;rw[Qkb] at hn he
 rcases I6 (ra0 l c) with⟨h0,hnl⟩|hp1
 ·rw[h3,h0];exact⟨_,[],rfl,zd3 _,hnl.symm⟩
 ·rw[h3,hp1,hn,he];exact⟨_,ra0 l c,rfl,Ag3 tLq 35 _,rfl⟩
theorem ff9{l:LPq}{c:PLq}(hl:l.length<=1000000)(hp:∀q∈l,q.length<=1000000)(hc:c.length<=1000000):G4 l c=ra0 l c:=(Ke8 l c hl hp hc).p
theorem gf0{l:LPq}{c:PLq}(hl:l.length<=1000000)(hp:∀q∈l,q.length<=1000000)(hc:c.length<=1000000):aa6 l c=true:=(Ke8 l c hl hp hc).g
def cpA(c:PLq):b7:=.tree 4 c.length (λk=>c8 (bL tP c) k)
theorem Ud1(c:PLq):s5 (λk=>tP.row (gL tP c k)) (List.range c.length)=bL tP c:=by
 unfold bL;rw[s8,s8];refine List.ext_getElem (by simp) λk h1 h2=>?_
 have hk:k<c.length:=by simpa using h2
 simp[gL,Qda,Qaa hk]
theorem gf1(c:PLq):(b7.tree 4 (0+(len (s5 (λk=>(tP).row (gL tP c k)) (List.range (List.length c))))) (λk=>c8 (app [] (s5 (λk=>(tP).row (gL tP c k)) (List.range (List.length c)))) (0+k)))=cpA c:=by
 unfold cpA;rw[Ud1,J2,Qar];congr 1;funext k;rw[Qar];rfl
theorem Ke9(c:PLq):tLq.rd [cpA c]=c/\tLq.ok [cpA c]=true:=by
 obtain⟨h1,h2⟩:=Ke2 tP c rfl;exact⟨h1,by show Bool.and (Nat.beq 4 4) (okL tP c.length λk=>c8 (bL tP c) k)=true;rw[h2];rfl⟩
def cpR(l:LPq):List (List b7):=s5 (λc=>[cpA c]) l
theorem uc0(l:LPq):len (cpR l)=l.length:=by unfold cpR;rw[z6,s8,List.length_map]
theorem bb4(l:LPq)(c:PLq):app (cpR l) [[cpA c]]=cpR (l++[c]):=by unfold cpR;rw[K6,s8,s8,List.map_append];rfl
theorem md1{l:LPq}{k:Nat}(h:k<l.length):c8 (cpR l) k=[cpA (gL tLq l k)]:=by
 unfold cpR;exact vd7 (λc=>[cpA c]) tLq.d h
theorem ue9(l:LPq):slR tLq (cpR l) 0 l.length=l/\okS tLq (cpR l) 0 l.length=true:=by
 constructor
 ·unfold slR lsL;refine List.ext_getElem (by simp) λk h1 h2=>?_
  have hk:k<l.length:=h2;simp only[List.getElem_map,List.getElem_range,Qar,md1 hk,(Ke9 _).1];simp[gL,Qda,Qaa hk]
 ·unfold okS okL;rw[Qcc];intro k hk;have hk:k<l.length:=by simpa using hk
  simp only[Qar,md1 hk,(Ke9 _).2]
theorem Hf1(l:LPq):(one (r1L tLq)).rd (.sl 0 0 l.length 0,[⟨35,1,cpR l,true,false,0⟩])=some l:=by
 show Bool.rec (motive:=λ_=>Option LPq) none (some (slR tLq (cpR l) 0 l.length)) (Bool.and (Nat.beq 1 1) (okS tLq (cpR l) 0 l.length))=some l
 rw[(ue9 l).1,(ue9 l).2];rfl
theorem Wb1(O:LPq)(h:O.length<=1000000):(Nat.beq O.length (len (cpR O))&&Nat.ble ((O.length+1)*24) room)=true:=by
 rw[uc0,Qim,Qke,Qiy];unfold room;omega
theorem ve0(c:PLq)(h:c.length<=1000000):(Nat.beq 0 0&&Nat.ble ((0+(len (s5 (λk=>(tP).row (gL tP c k)) (List.range (List.length c)))))*32) room)=true:=by
 rw[Ud1,J2,Qim,Qke,Qiy];unfold room;omega
structure RCp(l:LPq)(ph:Nat)(is:Int)(ns:Nat)(eh:List (List b7))(j:Nat):Prop where
 le:j<=l.length
 ix:is=(j:Int)
 ph:ph=phL (l.take j)
 n:ns=(l.take j).length
 e:eh=cpR (l.take j)
theorem Xe0(l:LPq)(hl:l.length<=1000000)(hp:∀q∈l,q.length<=1000000) :
  ∃t s,lp (Ha8 ⟨l⟩) ⟨0,0,0,[]⟩=(t,s)/\RCp l s.ph s.is4 s.ns3 s.eh0 l.length/\t=phL l+1:=by
 refine da0 (step:=Ha8 ⟨l⟩) (mk:=λ_ (s:Tf0)=>s) l.length (λj s=>RCp l s.ph s.is4 s.ns3 s.eh0 j) (λt s=>RCp l s.ph s.is4 s.ns3 s.eh0 l.length/\t=phL l+1) (by omega)
  (λj s hj hi=>?_) (λj s hj hi=>?_) 0 _ ⟨Qbv _,rfl,rfl,rfl,rfl⟩
 ·obtain⟨_,h2,h3,h4,h5⟩:=hi;obtain⟨ph,is4,ns3,eh0⟩:=s
  simp only at h2 h3 h4 h5
  subst h2 h3 h4 h5;have hq:=hp _ (M1 tLq hj);have hw1:W ((j:Int)+1)=((j+1:Nat):Int):=A5 hj (by omega)
  have hgx:inB (j:Int) l.length=true:=l0 hj;have htl:(l.take j).length<=l.length:=by rw[Qia];omega
  have hm:l.take (j+1)=l.take j++[gL tLq l j]:=sc5 tLq hj;have hnx:Ha8 ⟨l⟩ ⟨phL (l.take j),(j:Int),(l.take j).length,cpR (l.take j)⟩=.next ⟨phL (l.take (j+1)),((j+1:Nat):Int),(l.take (j+1)).length,cpR (l.take (j+1))⟩:=by
   rw[hm,tb9,Qdc,List.length_singleton,<- bb4]
   rcases I6 (l.take j) with⟨h0,hn⟩|h1
   ·rw[h0];show xa0 Stp.next Stp.exit Stp.fail _ _=_;simp only[xa0,Int.toNat_natCast,hw1,hgx,g7,ve0 _ hq,gf1];rw[btD (n8 hj),hn];rfl
   ·rw[h1];show xa1 Stp.next Stp.exit Stp.fail _ _=_;simp only[xa1,Int.toNat_natCast,hw1,hgx,g7,ve0 _ hq,gf1];rw[btD (n8 hj),bt (Wb1 _ (by omega))]
  show Nx (Ha8 ⟨l⟩ ⟨phL (l.take j),(j:Int),(l.take j).length,cpR (l.take j)⟩) _ _;rw[hnx];exact .nx ⟨_,rfl,hj,rfl,rfl,rfl,rfl⟩
 ·have hje:j=l.length:=by have:=hi.le;omega
  subst hje;have hi':=hi;obtain⟨_,h2,h3,h4,h5⟩:=hi;obtain⟨ph,is4,ns3,eh0⟩:=s
  simp only at h2 h3 h4 h5
  subst h2 h3 h4 h5;simp only[Qkb] at *
  rcases I6 l with⟨h0,hn⟩|h1
  ·refine⟨1,?_,hi',by rw[h0]⟩
   rw[h0];show xa0 Stp.next Stp.exit Stp.fail _ _=_;simp only[xa0];rw[bfD (w8 (Qie _))]
  ·refine⟨2,?_,hi',by rw[h1]⟩
   rw[h1];show xa1 Stp.next Stp.exit Stp.fail _ _=_;simp only[xa1];rw[bfD (w8 (Qie _))]
theorem Fd8{l:LPq}(hl:l.length<=1000000)(hp:∀q∈l,q.length<=1000000):Xa6 l=if l=[] then ⟨1,0,[]⟩ else ⟨2,l.length,cpR l⟩:=by
 obtain⟨t,s,h1,h2,h3⟩:=Xe0 l hl hp;unfold Xa6 Lc1;simp only[l9,s7,Qka,g7,h1];have hn:=h2.n;have he:=h2.e;rw[Qkb] at hn he
 rcases I6 l with⟨h0,hnl⟩|hp1
 ·rw[h3,h0,if_pos hnl];rfl
 ·rw[h3,hp1,hn,he,if_neg λe=>by rw[e] at hp1;cases hp1]
  rfl
end Go.Ev.Ce
namespace Go.Proofs
open Go.Shelf
set_option maxRecDepth 100000 in
def Ce.growPs_ren:Go.Shelf.Ren:=⟨fun | 4=>74 | n=>n,fun | 22=>30 | 25=>35 | 3=>3 | 4=>4 | 9=>9 | 20=>20 | 0=>0 | n=>n,fun | n=>n⟩
set_option maxRecDepth 100000 in
theorem Ce.growPs:Go.Proofs.Lays8.n4 Tryz.prog Ce.growPs_ren:={
 mixed:=by kernel_rfl
 f4:=⟨Tryz.f74.name,by decide,Tryz.func74.trans (congrArg some (by kernel_rfl))⟩
 t0:=Tryz.underlying0
 a0:=Tryz.isAgg0
 z0:=Tryz.sizeOf0
 v0:=Tryz.zeroValue0
 t3:=Tryz.underlying3
 a3:=Tryz.isAgg3
 z3:=Tryz.sizeOf3
 v3:=Tryz.zeroValue3
 t4:=Tryz.underlying4
 a4:=Tryz.isAgg4
 z4:=Tryz.sizeOf4
 v4:=Tryz.zeroValue4
 t9:=Tryz.underlying9
 a9:=Tryz.isAgg9
 z9:=Tryz.sizeOf9
 v9:=Tryz.zeroValue9
 t20:=Tryz.underlying20
 a20:=Tryz.isAgg20
 z20:=Tryz.sizeOf20
 v20:=Tryz.zeroValue20
 t22:=Tryz.underlying30
 a22:=Tryz.isAgg30
 z22:=Tryz.sizeOf30
 v22:=Tryz.zeroValue30 }
end Go.Proofs
namespace Go.Ev.Ce
open Go Go.Ev Go.Proofs
def Ud2:List b7:=[.v (.slice none 0 0)]
def Xa7:Sum:=λargs blks=>match args,blks with
 | [.v (.slice none 0 0), .v (.int .i64 n)], [] => .ite (n == 0) (.ret (.v (.slice none 0 0), []))
   (.guard (Bool.and (decide (0<n)) (Nat.ble (n.toNat*24) room)) (.ret (.sl 0 0 0 0,[⟨35,1,List.replicate n.toNat Ud2,true,false,0⟩])))
 |_,_=>.fail
theorem Ng3:zeT Tryz.prog 35=some Ud2:=by kernel_rfl
theorem Ng4:szT Tryz.prog 35=1:=by kernel_rfl
theorem Ng5:byT Tryz.prog 35=24:=by kernel_rfl
theorem Ag4:Ce.growPs_ren.t 25=35:=by kernel_rfl
theorem zf4:Ce.growPs_ren.f 4=74:=by kernel_rfl
set_option maxRecDepth 100000 in
theorem Bc2:l8 prog G 74 Xa7:=by
 intro args blks r out he W ρ F w args' hH hlen hargs hG;refine⟨⟨_,Tryz.func74,by kernel_rfl,of_decide_eq_true (by kernel_rfl)⟩,?_⟩
 unfold Xa7 at he
 split at he
 case h_2=>cases he
 rename_i n
 match args',hlen with
 |[v0,v1],_ =>
 have e0:=fa0 (hargs 0 _ _ rfl rfl);have e1:=fa0 (hargs 1 _ _ rfl rfl);subst e0 e1
 rcases DT.run_ite_some he with⟨h0,he⟩|⟨h0,he⟩
 ·have h0:n=0:=by simpa using h0
  subst h0;injection he with he;injection he with q1 q2;subst q1 q2
  have:=Any8.slices_Grow_room Ce.growPs none 0 0 0 w (Qaf _) (by omega) (by omega) (by omega)
  rw[zf4] at this;refine this.mono λe w' ⟨h1,h2⟩=>?_
  subst h1 h2;exact⟨_,rfl,ρ,F,.refl,hH,.ofv _⟩
 ·obtain⟨hg,he⟩:=DT.run_guard_some he;rw[Qas,decide_eq_true_eq] at hg;obtain⟨hpos,hroom⟩:=hg;have hroom:=Qae hroom;unfold room at hroom;obtain⟨m,rfl⟩:=Int.eq_ofNat_of_zero_le (Qja hpos);have hm:0<m:=by omega
  have he:some (b7.sl 0 0 0 0,[(⟨35,1,List.replicate m Ud2,true,false,0⟩:c7)])=some (r,out):=he;injection he with he;injection he with q1 q2;subst q1 q2
  obtain⟨ti,zv,hi,hzz,hzr,hone⟩:=lb5 (E:=En []) Ng3;have hi:Tryz.prog.info? 35=some ti:=hi;have hts:ti.size=1:=by have:=Ng4;simp only[szT,hi] at this;exact this
  have hby:ti.bytes=24:=by have:=Ng5;simp only[byT,hi] at this;exact this
  have hzs:zv.cells.size=1:=by
   have:=congrArg List.length hzr
   simpa [Ud2] using this.symm
  have hroom':m*24<=140737488355328:=hroom
  have:=Any8.slices_Grow_grow Ce.growPs ti zv (by rw[Ag4];exact hi) hzz (by omega) none 0 0 m [] w (Qaf _) (by omega) (by rw[hby];omega) (by omega) (by simp) (λ_=>rfl) (λa ha=>by cases ha)
  rw[zf4,Ag4] at this;refine this.mono λe w' ⟨h1,h2⟩=>?_
  have hcap:=grownCap_ge w (0+m) 0 35;have hcap2:=grownCap_le_maxLen w (0+m) 0 35 (by unfold maxLen;omega)
  subst h1;generalize grownCap w (0+m) 0 35=G' at *
  have hsz:∀q,(Builtin.zeroCells zv.cells q).size=q*1:=λq=>by simp[Builtin.zeroCells,hzs]
  have hcc:(#[]++Builtin.zeroCells zv.cells (0+m-0)++Builtin.zeroCells zv.cells (G'-(0+m))).size=G'*1:=by
   rw[Array.size_append,Array.size_append,hsz,hsz];simp;omega
  have hobj:w'.heap[w.heap.size]?=some (.cells (#[]++Builtin.zeroCells zv.cells (0+m-0)++Builtin.zeroCells zv.cells (G'-(0+m))) 35 (0,0)):=by
   rw[h2];exact World.alloc_heap_new w.drew _
  have hold:∀k,k<w.heap.size->w'.heap[k]?=w.heap[k]?:=λk hk=>by
   rw[h2];simp only[World.alloc,Qau,World.drew];rw[if_neg (by omega)]
  have hws:w'.heap.size=w.heap.size+1:=by rw[h2];exact Array.size_push ..
  obtain⟨h6,h7⟩:=hH.newAt (w':=w') (by rw[h2];rfl) (by rw[h2];rfl) (by rw[h2];rfl) (by rw[h2];exact Nat.le_succ _) (by omega) hold w.heap.size (Qaf _) 35 1 (List.replicate m Ud2) _ 35 hobj
   (λj r hr=>by rw[Qbt] at hr;split at hr<;>cases hr;rfl) (by rw[Qbn,hcc];omega)
   (λj r c x hr hx=>by
    have hjm:j<m:=by
     have:=(Qab.1 hr).1
     simpa using this
    rw[Qbt,if_pos hjm] at hr;injection hr with hr;subst hr;have hc4:c<1:=(Qab.1 hx).1;rw[hzr,Qbe] at hx;have hcz:c<zv.cells.size:=by omega
    have hq:zv.cells.toList[c]?=some zv.cells[c]:=by simp[hcz]
    rw[hq] at hx;injection hx with hx;subst hx;refine⟨zv.cells[c],?_,.v _ (hone _ (by simp))⟩
    have hlt:j*1+c<m*1:=by omega
    rw[Array.append_assoc,Array.empty_append,Qdb (by rw[hsz];omega)]
    have hm4:(j*1+c) % 1=c:=by omega
    simp only[Builtin.zeroCells,hzs];rw[Array.getElem?_map,Array.getElem?_range];rw[if_pos (by omega)]
    have hc0:c=0:=by omega
    subst hc0;simp[Nat.mod_one,hcz])
   (λ_=>rfl)
  refine⟨_,rfl,_,F,h6,h7,.val (.cell ?_)⟩;refine .sl 0 0 0 0 _ _ { et:=35,es:=1,elems:=List.replicate m Ud2,own:=true,dead:=false,g:=0 } rfl rfl (Qaf _) (Qbv _) rfl hcap2 λ_=>⟨.inr ?_,?_,by simp⟩
  ·simp[ρnew]
  ·simp only[ρnew,List.length_nil,if_true];rw[hcc,Qar]
end Go.Ev.Ce
namespace Go.Ev.Ce
open Go Go.Ev Go.Ev.L Go.Proofs
set_option maxRecDepth 100000
structure ae2 where
 (Cg9 Dg0:List LPq)
 ka0:Int
structure ae4 where
 Cg3:List LPq
 Ye2:Int
def Qa7{α:Type}(kk:Qa2->α)(x:PLq):α:=let y0:=(List.range (List.length x));(sl ((!(Nat.beq (List.length x) 0))&&true) (sl (Nat.beq 0 0&&Nat.ble ((0+(len (s5 (λk=>(tP).row (gL tP x k)) y0)))*32) room) (kk ⟨1,(0+(len (s5 (λk=>(tP).row (gL tP x k)) y0))),(app [] (s5 (λk=>(tP).row (gL tP x k)) y0))⟩) (kk ⟨0,0,[]⟩)) (kk ⟨0,0,[]⟩))
def ga4(x:PLq):Qa2:=Qa7 (λr=>r) x
def ub3(r:Qa2):DT (b7×List c7):=(Ma1 r.alt 1 (.sl 0 0 r.ns0 0,[bq 66 4 r.eh0]) .fail)
def wb8:Sum:=S7 (M3 tP) (λx=>ub3 (ga4 x))
theorem uc1:l8 prog G 75 wb8:=Zb2 (bd b75 ya0) λx=>Fa0 (mEq @Qa7 (λr=>(ub3 r).run) x)
def zc6:List (Nat×Sum):=[(75,wb8)]
theorem ud0:A4 prog G zc6:=⟨uc1,trivial⟩
structure J5 where
 ph:Nat
 is8:Int
 ns3:Nat
 eh0:List (List b7)
def Wb2(p:za4)(s:J5):St:=⟨ra 3 (nlq::.unk::.unk::eL tLq p.Bb2::i p.is7::i s.is8::ra 10 []),[]⟩
def Wb3(p:za4)(s:J5):St:=⟨ra 3 (.sl 0 0 s.ns3 0::.unk::.unk::eL tLq p.Bb2::i p.is7::i s.is8::ra 10 []),[bq 35 1 s.eh0]⟩
def md2(p:za4)(s:J5):St:=(sel (Nat.beq s.ph 1) (Wb3 p s) (Wb2 p s))
def ha0{α:Type}(k:J5->α)(e:Nat->α)(z:α)(p:za4)(s:J5):α:=let t1:=(ga4 (rt tP (gL tLq p.Bb2 s.is8.toNat)));(sl (decide (s.is8<p.is7)) (sl (inB s.is8 (List.length p.Bb2)) (sl (okE tP (gL tLq p.Bb2 s.is8.toNat)) (sl (Nat.beq t1.alt 1) (k ⟨1,W (s.is8+1),1,[[(.tree 4 t1.ns0 (λk=>c8 t1.eh0 (0+k)))]]⟩) z) z) z) (e 1))
def ha1{α:Type}(k:J5->α)(e:Nat->α)(z:α)(p:za4)(s:J5):α:=let t1:=(ga4 (rt tP (gL tLq p.Bb2 s.is8.toNat)));(sl (decide (s.is8<p.is7)) (sl (inB s.is8 (List.length p.Bb2)) (sl (okE tP (gL tLq p.Bb2 s.is8.toNat)) (sl (Nat.beq t1.alt 1) (sl (Nat.beq s.ns3 (len s.eh0)&&Nat.ble ((s.ns3+1)*24) room) (k ⟨1,W (s.is8+1),s.ns3+1,(app s.eh0 [[(.tree 4 t1.ns0 (λk=>c8 t1.eh0 (0+k)))]])⟩) z) z) z) z) (e 2))
def la3(p:za4)(s:J5):Stp J5:=(sel (Nat.beq s.ph 1) (ha1 .next .exit .fail p s) (ha0 .next .exit .fail p s))
def Ab7:Lo za4 J5:=⟨En zc6,0,hg9,[1,1,0,1,4,4],[3,6,7,8],.p,[⟨ru2 3 (.s (.o .nil)::sUq::sUq::sLq tLq::sIq::sIq::ru2 10 []),[],λa H=>(⟨aLq tLq a 6,aIq a 7⟩,⟨0,aIq a 8,0,[]⟩)⟩,⟨ru2 3 (.s (.o (.sl 0 0 (some 0) none))::sUq::sUq::sLq tLq::sIq::sIq::ru2 10 []),[⟨35,1,true,none⟩],λa H=>(⟨aLq tLq a 6,aIq a 7⟩,⟨1,aIq a 8,slN (slT a 3),elT H 0⟩)⟩],la3,[(some 0,λp s=>upq (Wb2 p s) [(9,b (decide (s.is8<p.is7)))]),(some 0,λp s=>upq (Wb3 p s) [(9,b (decide (s.is8<p.is7)))])],md2⟩
theorem md3:Ab7.Ok:=Qjt [] .nil λp s=>(.sel (Nat.beq s.ph 1) (.ofq @ha1) (.ofq @ha0))
def Xa8(x:LPq):ROq:=let t1:=(lp (la3 (⟨rt tLq x,(↑(List.length x):Int)⟩:za4)) (⟨0,0,0,[]⟩:J5));(sl ((cnE tLq x)&&true) (sl (Nat.beq t1.1 1) (some (nlq,[])) (sl (Nat.beq t1.1 2) (some (.sl 0 0 t1.2.ns3 0,[bq 35 1 t1.2.eh0])) none)) none)
def Xa9(x:LPq):LPq:=L9 (one (r1L tLq)) (Xa8 x)
def Ya0(x:LPq):Bool:=okO (one (r1L tLq)) (Xa8 x)
def Lc3:Sum:=S7 (M3 tLq) (λx=>.guard (Ya0 x) (.ret ((one (r1L tLq)).enc (Xa9 x),[])))
theorem Dd2:l8 prog G 48 Lc3:=Sc3 (bd b48 ud0) (one (r1L tLq)) (o:=Xa8) λx=>Q3 (.s .p (.s .p (.s (.s .p (.b (.u Ab7.ls))) .p))) [Ab7.pr] (.cons md3 .nil)
structure sf2 where
 is0:Int
 (T7 m8:PLq)
structure Ne6 where
 n7:LPq
 m8:PLq
structure xe6 where
 Lb5:LPq
 is9:Int
structure Bc3 where
 ph:Nat
 ka0:Int
 m8:PLq
 ns5:Nat
 eh1:List (List b7)
structure Ne7 where
 alt:Nat
 m8:PLq
 ns0:Nat
 eh1:List (List b7)
structure sf4 where
 (ba2 ba3 Dg1:LPq)
 Pg1:Int
 (Dg2 vb2:Nat)
 O2:LPq
structure Dd3 where
 Og1:Int
 (eh2 eh3:List (List b7))
def parts(t:Nat)(d:LPq):List (List b7):=app (bL tLq d) (List.replicate (t-d.length) Ud2)
theorem nc6{α:Type}(l:List α):app [] l=l:=by rw[K6];rfl
theorem Hf2{α:Type}{l:List α}(h:l≠[]):Nat.beq l.length 0=false:=by cases l with | nil=>exact absurd rfl h | cons=>rfl
theorem ke0(c:PLq)(h0:c≠[])(h:c.length<=1000000):ga4 c=⟨1,c.length,bL tP c⟩:=by
 unfold ga4 Qa7;simp only[Ud1,J2,Qar,Hf2 h0,nc6,show Nat.ble (c.length*32) room=true by rw[Qiy];unfold room;omega]
 rfl
theorem Lc4(c:PLq):b7.tree 4 c.length (λk=>c8 (bL tP c) (0+k))=cpA c:=by
 unfold cpA;congr 1;funext k;rw[Qar]
theorem Le0(l:LPq)(hl:l.length<=1000000)(hp:∀q∈l,q.length<=1000000)(h0:∀q∈l,q≠[]) :
  ∃t s,lp (la3 ⟨l,(l.length:Int)⟩) ⟨0,0,0,[]⟩=(t,s)/\RCp l s.ph s.is8 s.ns3 s.eh0 l.length/\t=phL l+1:=by
 refine da0 (step:=la3 ⟨l,(l.length:Int)⟩) (mk:=λ_ (s:J5)=>s) l.length (λj s=>RCp l s.ph s.is8 s.ns3 s.eh0 j) (λt s=>RCp l s.ph s.is8 s.ns3 s.eh0 l.length/\t=phL l+1) (by omega)
  (λj s hj hi=>?_) (λj s hj hi=>?_) 0 _ ⟨Qbv _,rfl,rfl,rfl,rfl⟩
 ·obtain⟨_,h2,h3,h4,h5⟩:=hi;obtain⟨ph,is4,ns3,eh0⟩:=s
  simp only at h2 h3 h4 h5
  subst h2 h3 h4 h5;have hq:=hp _ (M1 tLq hj);have hq0:=h0 _ (M1 tLq hj);have hw1:W ((j:Int)+1)=((j+1:Nat):Int):=A5 hj (by omega)
  have hgx:inB (j:Int) l.length=true:=l0 hj;have htl:(l.take j).length<=l.length:=by rw[Qia];omega
  have hm:l.take (j+1)=l.take j++[gL tLq l j]:=sc5 tLq hj;have hnx:la3 ⟨l,(l.length:Int)⟩ ⟨phL (l.take j),(j:Int),(l.take j).length,cpR (l.take j)⟩=.next ⟨phL (l.take (j+1)),((j+1:Nat):Int),(l.take (j+1)).length,cpR (l.take (j+1))⟩:=by
   rw[hm,tb9,Qdc,List.length_singleton,<- bb4]
   rcases I6 (l.take j) with⟨hz,hn⟩|h1
   ·rw[hz];show ha0 Stp.next Stp.exit Stp.fail _ _=_;simp only[ha0,Int.toNat_natCast,hw1,hgx,g7,l9,A3,ke0 _ hq0 hq,Lc4,nbR];rw[btD (n8 hj),hn];rfl
   ·rw[h1];show ha1 Stp.next Stp.exit Stp.fail _ _=_;simp only[ha1,Int.toNat_natCast,hw1,hgx,g7,l9,A3,ke0 _ hq0 hq,Lc4];rw[btD (n8 hj),bt (show Nat.beq 1 1=true from rfl),bt (Wb1 _ (by omega))]
  show Nx (la3 ⟨l,(l.length:Int)⟩ ⟨phL (l.take j),(j:Int),(l.take j).length,cpR (l.take j)⟩) _ _;rw[hnx];exact .nx ⟨_,rfl,hj,rfl,rfl,rfl,rfl⟩
 ·have hje:j=l.length:=by have:=hi.le;omega
  subst hje;have hi':=hi;obtain⟨_,h2,h3,h4,h5⟩:=hi;obtain⟨ph,is4,ns3,eh0⟩:=s
  simp only at h2 h3 h4 h5
  subst h2 h3 h4 h5;simp only[Qkb] at *
  rcases I6 l with⟨hz,hn⟩|h1
  ·refine⟨1,?_,hi',by rw[hz]⟩
   rw[hz];show ha0 Stp.next Stp.exit Stp.fail _ _=_;simp only[ha0];rw[bfD (w8 (Qie _))]
  ·refine⟨2,?_,hi',by rw[h1]⟩
   rw[h1];show ha1 Stp.next Stp.exit Stp.fail _ _=_;simp only[ha1];rw[bfD (w8 (Qie _))]
theorem ke1(l:LPq)(hl:l.length<=1000000)(hp:∀q∈l,q.length<=1000000)(h0:∀q∈l,q≠[]):Rd (one (r1L tLq)) (Xa8 l) (λr=>r=l):=by
 obtain⟨t,s,h1,h2,h3⟩:=Le0 l hl hp h0;unfold Xa8;simp only[l9,s7,Qka,g7,h1];have hn:=h2.n;have he:=h2.e;rw[Qkb] at hn he
 rcases I6 l with⟨hz,hnl⟩|hp1
 ·rw[h3,hz];exact⟨_,[],rfl,zd3 _,hnl.symm⟩
 ·rw[h3,hp1,hn,he];exact⟨_,l,rfl,Hf1 l,rfl⟩
theorem Le1{l:LPq}(hl:l.length<=1000000)(hp:∀q∈l,q.length<=1000000)(h0:∀q∈l,q≠[]):Xa9 l=l:=(ke1 l hl hp h0).p
theorem Le2{l:LPq}(hl:l.length<=1000000)(hp:∀q∈l,q.length<=1000000)(h0:∀q∈l,q≠[]):Ya0 l=true:=(ke1 l hl hp h0).g
structure RMo(l:LPq)(c:PLq)(j:Nat)(s:Bc3):Prop where
 le:j<=l.length
 ix:s.ka0=(j:Int)
 ph:s.ph=phL (ra0 (l.take j) c)
 cc:s.m8=c
 n:s.ns5=(ra0 (l.take j) c).length
 e:s.eh1=bL tLq (ra0 (l.take j) c)
structure CR{α:Type}(t:Ty α)(x:b7)(l:List α):Prop where
 fz:freezeCell [] x=some (x,[])
 ok:(tLs t).ok [x]=true
 rd:rL t x=l
theorem CR.tree{α:Type}(t:Ty α){n:Nat}{f:Nat->List b7}{l:List α}(h1:okL t n f=true)(h2:lsL t n f=l):CR t (.tree t.es n f) l :=
 ⟨rfl,by show Bool.and (Nat.beq t.es t.es) (okL t n f)=true;rw[Qim,h1];rfl,h2⟩
theorem CR.eL{α:Type}(t:Ty α)(l:List α):CR t (eL t l) l:=⟨rfl,by
 have h:=(tLs t).h2 l;exact h,l9 t l⟩
theorem Ag5{α:Type}(t:Ty α)(l:List α){n:Nat}(h:n=l.length):lsL t n (λk=>c8 (bL t l) (0+k))=l:=by rw[h];exact pc4 t l
theorem Ag6{α:Type}(t:Ty α)(l:List α){n:Nat}(h:n=l.length):okL t n (λk=>c8 (bL t l) (0+k))=true:=by rw[h];exact pc5 t l
theorem CR.bL{α:Type}(t:Ty α)(l:List α){n:Nat}(h:n=l.length):CR t (.tree t.es n (λk=>c8 (bL t l) (0+k))) l:=.tree t (Ag6 t l h) (Ag5 t l h)
theorem CR.nil{α:Type}(t:Ty α):CR t (.v (.slice none 0 0)) []:=⟨rfl,rfl,rfl⟩
theorem fz3{a c d:b7}(h1:freezeCell [] a=some (a,[]))(h2:freezeCell [] c=some (c,[]))(h3:freezeCell [] d=some (d,[])):freezeCells [] [a,c,d]=some ([a,c,d],[]):=by
 simp only[freezeCells,h1,h2,h3]
theorem Hf3{a c d:b7}{su to:List Bool}{cu:LPq}(h1:CR tB a su)(h2:CR tB c to)(h3:CR tLq d cu):r1O.rd [] (.agg [a,c,d])=some ⟨su,to,cu⟩:=by
 show Option.rec (motive:=λ_=>Option Pce) none (λp=>Bool.rec (motive:=λ_=>Option Pce) none (some (tO.rd p)) (tO.ok p)) ((freezeCells [] [a,c,d]).map (·.1))=_
 rw[fz3 h1.fz h2.fz h3.fz];show Bool.rec (motive:=λ_=>Option Pce) none (some (tO.rd [a,c,d])) (Bool.and ((tLs tB).ok [a]) (Bool.and ((tLs tB).ok [c]) (Bool.and (tMq.ok [d]) true)))=_
 rw[h1.ok,h2.ok,h3.ok];show some (Pce.mk (rL tB a) (rL tB c) (rL tLq d))=_;rw[h1.rd,h2.rd,h3.rd]
theorem gf2{a c d:b7}{su to:List Bool}{cu:LPq}(h1:CR tB a su)(h2:CR tB c to)(h3:CR tLq d cu):(one r1O).rd (.agg [a,c,d],[])=some ⟨su,to,cu⟩:=Hf3 h1 h2 h3
theorem ve2{a c d:b7}{su to:List Bool}{cu:LPq}(n:Int)(h1:CR tB a su)(h2:CR tB c to)(h3:CR tLq d cu):(two r1O r1I).rd (.tup [.agg [a,c,d],i n],[])=some (⟨su,to,cu⟩,n):=by
 simp only[two,Hf3 h1 h2 h3];rfl
def Ag7:Pce:=⟨[],[],[]⟩
theorem Ag8(n:Int):(two r1O r1I).rd (.tup [.agg [.v (.slice none 0 0),.v (.slice none 0 0),.v (.slice none 0 0)],i n],[])=some (Ag7,n):=ve2 n (.nil tB) (.nil tB) (.nil tLq)
theorem mg7(n:Nat):List.replicate n [b false]=bL tB (List.replicate n false):=by
 unfold bL;rw[s8,List.map_replicate];rfl
theorem gf3(x:Prt)(hl:x.cl.length<=1000000):Rd (one r1O) (mc3 x) (λr=>r=qf6 x):=by
 have h1:inB (x.cl.length:Int) (room+1)=true:=l0 (by unfold room;omega)
 have h2:Nat.ble (x.cl.length*1) room=true:=by rw[Qiy];unfold room;omega
 unfold mc3;simp only[Int.toNat_natCast,h1,h2,Qka,mg7,show Nat.ble x.cl.length x.cl.length=true by rw[Qiy];omega,g7]
 exact⟨_,qf6 x,rfl,gf2 (.bL tB _ (by simp)) (.bL tB _ (by simp)) (.nil _),rfl⟩
theorem Hf4{x:Prt}(hl:x.cl.length<=1000000):Rc6 x=qf6 x:=(gf3 x hl).p
theorem Hf5{x:Prt}(hl:x.cl.length<=1000000):mc4 x=true:=(gf3 x hl).g
def suJ(C cl:LPq)(su:List Bool)(j:Nat):Bool×Int:=if gL tB su j=true then (true,0) else ab9 (ra0 C (gL tLq cl j)) (gL tLq cl j)
def toJ(z w cl:LPq)(to:List Bool)(j:Nat):Bool:=gL tB to j||(!La2 (gL tLq cl j) z||!La2 (gL tLq cl j) w)
def Ag9(f:Nat->Bool)(l:List Bool)(j:Nat):List Bool:=(List.range l.length).map λk=>if k<j then f k else gL tB l k
theorem Ng6(l:List Bool)(k:Nat)(v:Bool):setAt (bL tB l) k [b v]=bL tB (l.set k v):=Ec4 tB l k v
theorem Ng7{l:List Bool}{k:Nat}(h:k<l.length):c8 (bL tB l) k=[b (gL tB l k)]:=X5 tB h
theorem spB(u v:Bool):Q0 [b u] 0 [b v]=[b v]:=rfl
structure Apl(z w cl C:LPq)(su to:List Bool):Prop where
 zn:z.length<=1000000
 wn:w.length<=1000000
 cn:cl.length<=1000000
 Cn:C.length<=1000000
 zl:∀q∈z,q.length<=1000000
 wl:∀q∈w,q.length<=1000000
 cc:∀q∈cl,q.length<=1000000
 Cl:∀q∈C,q.length<=1000000
 sn:su.length=cl.length
 tn:to.length=cl.length
structure RAp(z w cl C:LPq)(su to:List Bool)(j:Nat)(s:Dd3):Prop where
 le:j<=cl.length
 ix:s.Og1=(j:Int)
 e2:s.eh2=bL tB (Ag9 (λk=>(suJ C cl su k).1) su j)
 e3:s.eh3=bL tB (Ag9 (toJ z w cl to) to j)
 ok:∀k,k<j->(suJ C cl su k).2=0
theorem Lc5{x:Prt}{y:Pce}(h:Pb2 x y=0):vb7 x=0/\y.su.length=x.cl.length/\y.to.length=x.cl.length/\y.cu.length<=24/\Td7 y.cu=0:=by
 unfold Pb2 at h;cases hc:(vb7 x != 0) with
 |true=>rw[hc] at h;simp only[if_true] at h;rw[h] at hc;cases hc
 |false =>
  rw[hc] at h;simp only[Qiu,if_false] at h;cases hf:cc4 x y with
  |false=>rw[hf] at h;simp at h
  |true =>
   unfold cc4 at hf;simp only[Qas,beq_iff_eq,decide_eq_true_eq] at hf;obtain⟨h1,h2,h3,h4⟩:=hf;exact⟨by simpa using hc,by omega,by omega,by omega,h4⟩
theorem ud1{x:Prt}(h:vb7 x=0):1<=x.cl.length/\x.cl.length<=16/\x.wt.length=x.cl.length/\x.wt.any Sc9=false/\(List.range x.cl.length).any (td9 x.cl)=false:=by
 unfold vb7 at h
 split at h
 ·cases h
 ·rename_i h1
  split at h
  ·cases h
  ·rename_i h2
   split at h
   ·cases h
   ·rename_i h3
    split at h
    ·cases h
    ·rename_i h4
     split at h
     ·cases h
     ·rename_i h5;refine⟨by omega,by omega,?_,by simpa using h4,by simpa using h5⟩
      simp only[bne_iff_ne,ne_eq,Decidable.not_not] at h3;omega
end Go.Ev.Ce
