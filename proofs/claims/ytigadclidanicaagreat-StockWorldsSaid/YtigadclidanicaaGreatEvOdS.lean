/- Own work. -/
import Derived.Test.YtigadclidanicaaGreatEvOdF
set_option linter.all false
noncomputable section
def Qla:=@List.mem_or_eq_of_mem_set
def Qlb:=@Bool.or_eq_false_iff
def Qlc:=@List.getElem_of_mem
def Qld:=@Bool.not_eq_false'
namespace Go.Ev.Ce
open Go Go.Ev Go.Ev.L Go.Proofs
set_option maxRecDepth 100000
structure Sb9 where
 is0:Int
 da0:PLq
 (L8 O1:List Bool)
 M8:LPq
def Tb1{α:Type}(kk:na5->α)(x:Sb9):α:=(sl (inB x.is0 (List.length x.L8)) (kk ⟨1,!(gL tB x.L8 x.is0.toNat)⟩) (kk ⟨0,false⟩))
def Wa2(x:Sb9):na5:=Tb1 (λr=>r) x
def sc5(x:Sb9)(r:na5):DT (c7×List c8):=(Ca8 r.alt 1 (b r.bs0,[bq 0 3 [[eL tB x.L8,eL tB x.O1,eL tLq x.M8]]]) .fail)
def Cc2:Sum:=Oa2 ⟨[sIq,sLq tP,sPq 0],[⟨0,3,true,some [[.c 1 (nL tB),.c 1 (nL tB),.c 1 (nL tLq)]]⟩],λa H=>(⟨aIq a 0,aLq tP a 1,hLq tB H 0 0 0,hLq tB H 0 0 1,hLq tLq H 0 0 2⟩,())⟩ (λx=>sc5 x (Wa2 x))
theorem sd5:l8 prog G 60 Cc2:=K8 (enc:=λx=>⟨[i x.is0,eL tP x.da0,.ptr 0 0 0 0],[bq 0 3 [[eL tB x.L8,eL tB x.O1,eL tLq x.M8]]]⟩) (λa H=>by kernel_rfl) (bd b60 Aa9) λx=>va5 (mEq @Tb1 (λr=>(sc5 x r).run) x)
structure cb2 where
 H5:LPq
 (L8 O1:List Bool)
 M8:LPq
def Eb0:List (Nat×Sum):=[(60,Cc2)]
theorem tc6:C6 prog G Eb0:=⟨sd5,trivial⟩
structure C5 where
 ph:Nat
 N7:Int
 (L8 O1:List Bool)
 M8:LPq
 ns5:Nat
 eh1:List (List c7)
def kb9(p:N1)(s:C5):St:=⟨.unk::.fn 60 [.ptr 0 0 0 0]::ra 3 (nlq::.unk::.unk::eL tLq p.ia9::i p.is9::i s.N7::ra 14 []),[bq 0 3 [[eL tB s.L8,eL tB s.O1,eL tLq s.M8]]]⟩
def lb0(p:N1)(s:C5):St:=⟨.unk::.fn 60 [.ptr 0 0 0 0]::ra 3 (.sl 1 0 s.ns5 0::.unk::.unk::eL tLq p.ia9::i p.is9::i s.N7::ra 14 []),[bq 0 3 [[eL tB s.L8,eL tB s.O1,eL tLq s.M8]],bq 35 1 s.eh1]⟩
def nc4(p:N1)(s:C5):St:=(sel (Nat.beq s.ph 1) (lb0 p s) (kb9 p s))
def U2{α:Type}(k:C5->α)(e:Nat->α)(z:α)(p:N1)(s:C5):α:=let y3:=(rt tB s.O1);let y2:=(rt tB s.L8);let y1:=(rt tLq s.M8);let y0:=(gL tLq p.ia9 s.N7.toNat);let t1:=(Wa2 ⟨s.N7,rt tP y0,y2,y3,y1⟩);(sl (decide (s.N7<p.is9)) (sl (inB s.N7 (List.length p.ia9)) (sl ((cnE tP y0)&&((cnE tB s.L8)&&((cnE tB s.O1)&&((cnE tLq s.M8)&&true)))) (sl (Nat.beq t1.alt 1) (sl t1.bs0 (k ⟨1,W (s.N7+1),y2,y3,y1,1,[[eL tP y0]]⟩) (k ⟨0,W (s.N7+1),y2,y3,y1,0,[]⟩)) z) z) z) (e 1))
def U3{α:Type}(k:C5->α)(e:Nat->α)(z:α)(p:N1)(s:C5):α:=let y3:=(rt tB s.O1);let y2:=(rt tB s.L8);let y1:=(rt tLq s.M8);let y0:=(gL tLq p.ia9 s.N7.toNat);let t1:=(Wa2 ⟨s.N7,rt tP y0,y2,y3,y1⟩);(sl (decide (s.N7<p.is9)) (sl (inB s.N7 (List.length p.ia9)) (sl ((cnE tP y0)&&((cnE tB s.L8)&&((cnE tB s.O1)&&((cnE tLq s.M8)&&true)))) (sl (Nat.beq t1.alt 1) (sl t1.bs0 (sl (Nat.beq s.ns5 (len s.eh1)&&Nat.ble ((s.ns5+1)*24) room) (k ⟨1,W (s.N7+1),y2,y3,y1,s.ns5+1,app s.eh1 [[eL tP y0]]⟩) z) (k ⟨1,W (s.N7+1),y2,y3,y1,s.ns5,s.eh1⟩)) z) z) z) (e 2))
def fa2(p:N1)(s:C5):Stp C5:=(sel (Nat.beq s.ph 1) (U3 .next .exit .fail p s) (U2 .next .exit .fail p s))
def Pa3:Lo N1 C5:=⟨En Eb0,1,Qf9,[1,1,0,1,4,4],[1,5,8,9,10],.p,[⟨sUq::.fn 60 [.o (.ptr 0 0 0 0)]::ru2 3 (.s (.o .nil)::sUq::sUq::sLq tLq::sIq::sIq::ru2 14 []),[⟨0,3,true,some [[.c 1 (nL tB),.c 1 (nL tB),.c 1 (nL tLq)]]⟩],λa H=>(⟨aLq tLq a 8,aIq a 9⟩,⟨0,aIq a 10,hLq tB H 0 0 0,hLq tB H 0 0 1,hLq tLq H 0 0 2,0,[]⟩)⟩,⟨sUq::.fn 60 [.o (.ptr 0 0 0 0)]::ru2 3 (.s (.o (.sl 1 0 (some 0) none))::sUq::sUq::sLq tLq::sIq::sIq::ru2 14 []),[⟨0,3,true,some [[.c 1 (nL tB),.c 1 (nL tB),.c 1 (nL tLq)]]⟩,⟨35,1,true,none⟩],λa H=>(⟨aLq tLq a 8,aIq a 9⟩,⟨1,aIq a 10,hLq tB H 0 0 0,hLq tB H 0 0 1,hLq tLq H 0 0 2,slN (slT a 5),elT H 1⟩)⟩],fa2,[(some 0,λp s=>upq (kb9 p s) [(11,b (decide (s.N7<p.is9)))]),(some 0,λp s=>upq (lb0 p s) [(11,b (decide (s.N7<p.is9)))])],nc4⟩
theorem nc5:Pa3.Ok:=Lo.okq [] .nil λp s=>(.sel (Nat.beq s.ph 1) (.ofq @U3) (.ofq @U2))
structure cb3 where
 alt:Nat
 (L8 O1:List Bool)
 M8:LPq
 ns0:Nat
 eh1:List (List c7)
def cb4{α:Type}(kk:cb3->α)(x:cb2):α:=let t1:=(lp (fa2 (⟨rt tLq x.H5,(↑(List.length x.H5):Int)⟩:N1)) (⟨0,0,rt tB x.L8,rt tB x.O1,rt tLq x.M8,0,[]⟩:C5));(sl ((cnE tLq x.H5)&&((cnE tB x.L8)&&((cnE tB x.O1)&&((cnE tLq x.M8)&&true)))) (sl (Nat.beq t1.1 1) (kk ⟨1,t1.2.L8,t1.2.O1,t1.2.M8,0,[]⟩) (sl (Nat.beq t1.1 2) (kk ⟨2,t1.2.L8,t1.2.O1,t1.2.M8,t1.2.ns5,t1.2.eh1⟩) (kk ⟨0,[],[],[],0,[]⟩))) (kk ⟨0,[],[],[],0,[]⟩))
def pa8(x:cb2):cb3:=cb4 (λr=>r) x
def Eb1(x:cb2)(r:cb3):DT (c7×List c8):=(Ca8 r.alt 1 (nlq,[bq 0 3 [[eL tB r.L8,eL tB r.O1,eL tLq r.M8]]]) (Ca8 r.alt 2 (.sl 1 0 r.ns0 0,[bq 0 3 [[eL tB r.L8,eL tB r.O1,eL tLq r.M8]],bq 35 1 r.eh1]) .fail))
def Kb2:Sum:=Oa2 ⟨[sLq tLq,.fn 60 [.o (.ptr 0 0 0 0)]],[⟨0,3,true,some [[.c 1 (nL tB),.c 1 (nL tB),.c 1 (nL tLq)]]⟩],λa H=>(⟨aLq tLq a 0,hLq tB H 0 0 0,hLq tB H 0 0 1,hLq tLq H 0 0 2⟩,())⟩ (λx=>Eb1 x (pa8 x))
theorem Cc3:l8 prog G 49 Kb2:=K8 (enc:=λx=>⟨[eL tLq x.H5,.fn 60 [.ptr 0 0 0 0]],[bq 0 3 [[eL tB x.L8,eL tB x.O1,eL tLq x.M8]]]⟩) (λa H=>by kernel_rfl) (bd b49 tc6) λx=>da5 (.s .p (.s .p (.s (.s .p (.b (.u Pa3.ls))) .p))) [Pa3.pr] (.cons nc5 .nil) (mEq @cb4 (λr=>(Eb1 x r).run) x)
def Md5:List (Nat×Sum):=[(44,sb8),(49,Kb2),(48,Sb8)]
theorem Id0:C6 prog G Md5:=⟨Ib6,Cc3,sc3,trivial⟩
def tb3(x:Prt)(y:Pce):ROq:=let y1:=(⟨x.nm,rt tLq x.cl,rt tI x.wt⟩:Prt);let y0:=(⟨rt tB y.su,rt tB y.to,rt tLq y.cu⟩:Pce);let t1:=(Ga2 y1 y0);let t2:=(pa8 ⟨rt tLq x.cl,rt tB y.su,rt tB y.to,rt tLq y.cu⟩);let t3:=(la3 []);let t4:=(la3 (lsL tLq t2.ns0 (λk=>g8 t2.eh1 (0+k))));(sl ((okE tLq x.cl)&&((okE tI x.wt)&&true)) (sl ((okE tB y.su)&&((okE tB y.to)&&((okE tLq y.cu)&&true))) (sl (Ga3 y1 y0) (sl (t1 != 0) (some (nlq,[])) (sl ((cnE tLq x.cl)&&((cnE tB y.su)&&((cnE tB y.to)&&((cnE tLq y.cu)&&true)))) (sl (Nat.beq t2.alt 1) (sl (fa0 []) (some (eL tLq t3,[])) none) (sl (Nat.beq t2.alt 2) (sl (okL tLq t2.ns0 (λk=>g8 t2.eh1 (0+k))) (sl (fa0 (lsL tLq t2.ns0 (λk=>g8 t2.eh1 (0+k)))) (some (eL tLq t4,[])) none) none) none)) none)) none) none) none)
def Nb1(x:Prt)(y:Pce):LPq:=aa3 (one (r1L tLq)) (tb3 x y)
def Nb2(x:Prt)(y:Pce):Bool:=okO (one (r1L tLq)) (tb3 x y)
def bd5:Sum:=va4 cJ cO (λx y=>.guard (Nb2 x y) (.ret ((one (r1L tLq)).enc (Nb1 x y),[])))
theorem Md6:l8 prog G 25 bd5:=xc8 (bd b25 Id0) (one (r1L tLq)) (o:=tb3)
structure Wa3 where
 we8:ByteArray
 Ub1:LPq
 ub3:List Int
 (pc2 pc3:List Bool)
 Eb6:LPq
 is1:Int
def tc7:List (Nat×Sum):=[(27,fb0)]
theorem nc6:C6 prog G tc7:=⟨sb6,trivial⟩
def Wa5{α:Type}(kk:na5->α)(x:Wa3):α:=let y0:=(gL tLq x.Ub1 x.is1.toNat);let t1:=(M6 (rt tP y0) (rt tLq x.Eb6));(sl (inB x.is1 (List.length x.ub3)) (sl ((gL tI x.ub3 x.is1.toNat)==1) (sl (inB x.is1 (List.length x.Ub1)) (sl (okE tP y0) (sl (okE tLq x.Eb6) (sl (ka0 (rt tP y0) (rt tLq x.Eb6)) (kk ⟨1,!t1⟩) (kk ⟨0,false⟩)) (kk ⟨0,false⟩)) (kk ⟨0,false⟩)) (kk ⟨0,false⟩)) (kk ⟨1,false⟩)) (kk ⟨0,false⟩))
def Aa4(x:Wa3):na5:=Wa5 (λr=>r) x
def vb6(x:Wa3)(r:na5):DT (c7×List c8):=(Ca8 r.alt 1 (b r.bs0,[]) .fail)
def Eb2:Sum:=Oa2 ⟨[.agg [.o .val,.c 1 (nL tLq),.c 1 (nL tI),.c 1 (nL tB),.c 1 (nL tB),.c 1 (nL tLq)],sIq],[],λa H=>(⟨da2 (slT (cellsOf (slT a 0)) 0),dLq tLq a 0 1,dLq tI a 0 2,dLq tB a 0 3,dLq tB a 0 4,dLq tLq a 0 5,aIq a 1⟩,())⟩ (λx=>vb6 x (Aa4 x))
theorem tc8:l8 prog G 56 Eb2:=K8 (enc:=λx=>⟨[.agg [.v (.string x.we8),eL tLq x.Ub1,eL tI x.ub3,eL tB x.pc2,eL tB x.pc3,eL tLq x.Eb6],i x.is1],[]⟩) (λa H=>by kernel_rfl) (bd b56 nc6) λx=>va5 (mEq @Wa5 (λr=>(vb6 x r).run) x)
def Wa8{α:Type}(kk:na5->α)(x:Wa3):α:=(sl (inB x.is1 (List.length x.ub3)) (sl ((gL tI x.ub3 x.is1.toNat)==1) (sl (inB x.is1 (List.length x.pc3)) (kk ⟨1,gL tB x.pc3 x.is1.toNat⟩) (kk ⟨0,false⟩)) (kk ⟨1,false⟩)) (kk ⟨0,false⟩))
def Aa5(x:Wa3):na5:=Wa8 (λr=>r) x
def vb7(x:Wa3)(r:na5):DT (c7×List c8):=(Ca8 r.alt 1 (b r.bs0,[]) .fail)
def Eb3:Sum:=Oa2 ⟨[.agg [.o .val,.c 1 (nL tLq),.c 1 (nL tI),.c 1 (nL tB),.c 1 (nL tB),.c 1 (nL tLq)],sIq],[],λa H=>(⟨da2 (slT (cellsOf (slT a 0)) 0),dLq tLq a 0 1,dLq tI a 0 2,dLq tB a 0 3,dLq tB a 0 4,dLq tLq a 0 5,aIq a 1⟩,())⟩ (λx=>vb7 x (Aa5 x))
theorem tc9:l8 prog G 57 Eb3:=K8 (enc:=λx=>⟨[.agg [.v (.string x.we8),eL tLq x.Ub1,eL tI x.ub3,eL tB x.pc2,eL tB x.pc3,eL tLq x.Eb6],i x.is1],[]⟩) (λa H=>by kernel_rfl) (bd b57 Aa9) λx=>va5 (mEq @Wa8 (λr=>(vb7 x r).run) x)
def ib8{α:Type}(kk:na5->α)(x:Wa3):α:=(sl (inB x.is1 (List.length x.ub3)) (sl ((gL tI x.ub3 x.is1.toNat)==2) (sl (inB x.is1 (List.length x.pc2)) (kk ⟨1,!(gL tB x.pc2 x.is1.toNat)⟩) (kk ⟨0,false⟩)) (kk ⟨1,false⟩)) (kk ⟨0,false⟩))
def Ja7(x:Wa3):na5:=ib8 (λr=>r) x
def Kb3(x:Wa3)(r:na5):DT (c7×List c8):=(Ca8 r.alt 1 (b r.bs0,[]) .fail)
def Tb2:Sum:=Oa2 ⟨[.agg [.o .val,.c 1 (nL tLq),.c 1 (nL tI),.c 1 (nL tB),.c 1 (nL tB),.c 1 (nL tLq)],sIq],[],λa H=>(⟨da2 (slT (cellsOf (slT a 0)) 0),dLq tLq a 0 1,dLq tI a 0 2,dLq tB a 0 3,dLq tB a 0 4,dLq tLq a 0 5,aIq a 1⟩,())⟩ (λx=>Kb3 x (Ja7 x))
theorem Jc3:l8 prog G 58 Tb2:=K8 (enc:=λx=>⟨[.agg [.v (.string x.we8),eL tLq x.Ub1,eL tI x.ub3,eL tB x.pc2,eL tB x.pc3,eL tLq x.Eb6],i x.is1],[]⟩) (λa H=>by kernel_rfl) (bd b58 Aa9) λx=>va5 (mEq @ib8 (λr=>(Kb3 x r).run) x)
def yb7:List (Nat×Sum):=[(44,sb8),(56,Eb2),(57,Eb3),(58,Tb2)]
theorem bd6:C6 prog G yb7:=⟨Ib6,tc8,tc9,Jc3,trivial⟩
structure H8 where
 ge6:Int
 E9:ByteArray
 i9:LPq
 m9:List Int
 ba5:ByteArray
 D9:LPq
 G5:List Int
 (G6 G7:List Bool)
 E0:LPq
 Sc3:ByteArray
 cc9:LPq
 pc4:List Int
 (pc5 pc6:List Bool)
 dc0:LPq
 Sc4:ByteArray
 dc1:LPq
 pc7:List Int
 (pc8 pc9:List Bool)
 dc2:LPq
 Sc5:ByteArray
 dc3:LPq
 qc0:List Int
 (qc1 qc2:List Bool)
 dc4:LPq
structure s9 where
 ph:Nat
 Sc6:Int
def Kb4(p:H8)(s:s9):St:=⟨.unk::.unk::.ptr 0 0 0 0::ra 5 (.ptr 1 0 0 0::ra 19 (.sl 2 0 3 0::i 3::i 0::ra 5 (i p.ge6::i s.Sc6::ra 10 []))),[bq 0 3 [[.v (.string p.E9),eL tLq p.i9,eL tI p.m9]],bq 0 2 [[.fn 100056 [.v (.string p.ba5),eL tLq p.D9,eL tI p.G5,eL tB p.G6,eL tB p.G7,eL tLq p.E0],i 35]],bq 91 2 [[.fn 100056 [.v (.string p.Sc3),eL tLq p.cc9,eL tI p.pc4,eL tB p.pc5,eL tB p.pc6,eL tLq p.dc0],i 35],[.fn 100057 [.v (.string p.Sc4),eL tLq p.dc1,eL tI p.pc7,eL tB p.pc8,eL tB p.pc9,eL tLq p.dc2],i 30],[.fn 100058 [.v (.string p.Sc5),eL tLq p.dc3,eL tI p.qc0,eL tB p.qc1,eL tB p.qc2,eL tLq p.dc4],i 34]]]⟩
def Kb5(p:H8)(s:s9):St:=⟨.unk::.unk::.ptr 0 0 0 0::ra 5 (.ptr 1 0 0 0::ra 19 (.sl 2 0 3 0::i 3::i 1::ra 5 (i p.ge6::i s.Sc6::ra 10 []))),[bq 0 3 [[.v (.string p.E9),eL tLq p.i9,eL tI p.m9]],bq 0 2 [[.fn 100057 [.v (.string p.ba5),eL tLq p.D9,eL tI p.G5,eL tB p.G6,eL tB p.G7,eL tLq p.E0],i 30]],bq 91 2 [[.fn 100056 [.v (.string p.Sc3),eL tLq p.cc9,eL tI p.pc4,eL tB p.pc5,eL tB p.pc6,eL tLq p.dc0],i 35],[.fn 100057 [.v (.string p.Sc4),eL tLq p.dc1,eL tI p.pc7,eL tB p.pc8,eL tB p.pc9,eL tLq p.dc2],i 30],[.fn 100058 [.v (.string p.Sc5),eL tLq p.dc3,eL tI p.qc0,eL tB p.qc1,eL tB p.qc2,eL tLq p.dc4],i 34]]]⟩
def Kb6(p:H8)(s:s9):St:=⟨.unk::.unk::.ptr 0 0 0 0::ra 5 (.ptr 1 0 0 0::ra 19 (.sl 2 0 3 0::i 3::i 2::ra 5 (i p.ge6::i s.Sc6::ra 10 []))),[bq 0 3 [[.v (.string p.E9),eL tLq p.i9,eL tI p.m9]],bq 0 2 [[.fn 100058 [.v (.string p.ba5),eL tLq p.D9,eL tI p.G5,eL tB p.G6,eL tB p.G7,eL tLq p.E0],i 34]],bq 91 2 [[.fn 100056 [.v (.string p.Sc3),eL tLq p.cc9,eL tI p.pc4,eL tB p.pc5,eL tB p.pc6,eL tLq p.dc0],i 35],[.fn 100057 [.v (.string p.Sc4),eL tLq p.dc1,eL tI p.pc7,eL tB p.pc8,eL tB p.pc9,eL tLq p.dc2],i 30],[.fn 100058 [.v (.string p.Sc5),eL tLq p.dc3,eL tI p.qc0,eL tB p.qc1,eL tB p.qc2,eL tLq p.dc4],i 34]]]⟩
def Rc3(p:H8)(s:s9):St:=(sel (Nat.beq s.ph 2) (Kb6 p s) (sel (Nat.beq s.ph 1) (Kb5 p s) (Kb4 p s)))
def ga3{α:Type}(k:s9->α)(e:Nat->α)(z:α)(p:H8)(s:s9):α:=let t1:=(Aa4 ⟨p.ba5,rt tLq p.D9,rt tI p.G5,rt tB p.G6,rt tB p.G7,rt tLq p.E0,s.Sc6⟩);(sl (decide (s.Sc6<p.ge6)) (sl ((cnE tLq p.D9)&&((cnE tI p.G5)&&((cnE tB p.G6)&&((cnE tB p.G7)&&((cnE tLq p.E0)&&true))))) (sl (Nat.beq t1.alt 1) (sl t1.bs0 (e 1) (k ⟨0,W (s.Sc6+1)⟩)) z) z) (e 2))
def ga4{α:Type}(k:s9->α)(e:Nat->α)(z:α)(p:H8)(s:s9):α:=let t1:=(Aa5 ⟨p.ba5,rt tLq p.D9,rt tI p.G5,rt tB p.G6,rt tB p.G7,rt tLq p.E0,s.Sc6⟩);(sl (decide (s.Sc6<p.ge6)) (sl ((cnE tLq p.D9)&&((cnE tI p.G5)&&((cnE tB p.G6)&&((cnE tB p.G7)&&((cnE tLq p.E0)&&true))))) (sl (Nat.beq t1.alt 1) (sl t1.bs0 (e 3) (k ⟨1,W (s.Sc6+1)⟩)) z) z) (e 4))
def ga5{α:Type}(k:s9->α)(e:Nat->α)(z:α)(p:H8)(s:s9):α:=let t1:=(Ja7 ⟨p.ba5,rt tLq p.D9,rt tI p.G5,rt tB p.G6,rt tB p.G7,rt tLq p.E0,s.Sc6⟩);(sl (decide (s.Sc6<p.ge6)) (sl ((cnE tLq p.D9)&&((cnE tI p.G5)&&((cnE tB p.G6)&&((cnE tB p.G7)&&((cnE tLq p.E0)&&true))))) (sl (Nat.beq t1.alt 1) (sl t1.bs0 (e 5) (k ⟨2,W (s.Sc6+1)⟩)) z) z) (e 6))
def M7(p:H8)(s:s9):Stp s9:=(sel (Nat.beq s.ph 2) (ga5 .next .exit .fail p s) (sel (Nat.beq s.ph 1) (ga4 .next .exit .fail p s) (ga3 .next .exit .fail p s)))
def tb4:Lo H8 s9:=⟨En yb7,0,Qf6,[1,1,1,0,1,4,4,1,1,0,4,1,1,4,4],[2,8,28,29,30,36,37],.p,[⟨sUq::sUq::sPq 0::ru2 5 (sPq 1::ru2 19 (.s (.o (.sl 2 0 (some 0) (some 3)))::.s (.o (.lit .i64 3))::.s (.o (.lit .i64 0))::ru2 5 (sIq::sIq::ru2 10 []))),[⟨0,3,true,some [[.o .val,.c 1 (nL tLq),.c 1 (nL tI)]]⟩,⟨0,2,true,some [[.fn 100056 [.o .val,.c 1 (nL tLq),.c 1 (nL tI),.c 1 (nL tB),.c 1 (nL tB),.c 1 (nL tLq)],.o (.lit .i64 35)]]⟩,⟨91,2,true,some [[.fn 100056 [.o .val,.c 1 (nL tLq),.c 1 (nL tI),.c 1 (nL tB),.c 1 (nL tB),.c 1 (nL tLq)],.o (.lit .i64 35)],[.fn 100057 [.o .val,.c 1 (nL tLq),.c 1 (nL tI),.c 1 (nL tB),.c 1 (nL tB),.c 1 (nL tLq)],.o (.lit .i64 30)],[.fn 100058 [.o .val,.c 1 (nL tLq),.c 1 (nL tI),.c 1 (nL tB),.c 1 (nL tB),.c 1 (nL tLq)],.o (.lit .i64 34)]]⟩],λa H=>(⟨aIq a 36,da2 (slT (rwT (elT H 0) 0) 0),hLq tLq H 0 0 1,hLq tI H 0 0 2,da2 (slT (cellsOf (slT (rwT (elT H 1) 0) 0)) 0),wLq tLq H 1 0 0 1,wLq tI H 1 0 0 2,wLq tB H 1 0 0 3,wLq tB H 1 0 0 4,wLq tLq H 1 0 0 5,da2 (slT (cellsOf (slT (rwT (elT H 2) 0) 0)) 0),wLq tLq H 2 0 0 1,wLq tI H 2 0 0 2,wLq tB H 2 0 0 3,wLq tB H 2 0 0 4,wLq tLq H 2 0 0 5,da2 (slT (cellsOf (slT (rwT (elT H 2) 1) 0)) 0),wLq tLq H 2 1 0 1,wLq tI H 2 1 0 2,wLq tB H 2 1 0 3,wLq tB H 2 1 0 4,wLq tLq H 2 1 0 5,da2 (slT (cellsOf (slT (rwT (elT H 2) 2) 0)) 0),wLq tLq H 2 2 0 1,wLq tI H 2 2 0 2,wLq tB H 2 2 0 3,wLq tB H 2 2 0 4,wLq tLq H 2 2 0 5⟩,⟨0,aIq a 37⟩)⟩,⟨sUq::sUq::sPq 0::ru2 5 (sPq 1::ru2 19 (.s (.o (.sl 2 0 (some 0) (some 3)))::.s (.o (.lit .i64 3))::.s (.o (.lit .i64 1))::ru2 5 (sIq::sIq::ru2 10 []))),[⟨0,3,true,some [[.o .val,.c 1 (nL tLq),.c 1 (nL tI)]]⟩,⟨0,2,true,some [[.fn 100057 [.o .val,.c 1 (nL tLq),.c 1 (nL tI),.c 1 (nL tB),.c 1 (nL tB),.c 1 (nL tLq)],.o (.lit .i64 30)]]⟩,⟨91,2,true,some [[.fn 100056 [.o .val,.c 1 (nL tLq),.c 1 (nL tI),.c 1 (nL tB),.c 1 (nL tB),.c 1 (nL tLq)],.o (.lit .i64 35)],[.fn 100057 [.o .val,.c 1 (nL tLq),.c 1 (nL tI),.c 1 (nL tB),.c 1 (nL tB),.c 1 (nL tLq)],.o (.lit .i64 30)],[.fn 100058 [.o .val,.c 1 (nL tLq),.c 1 (nL tI),.c 1 (nL tB),.c 1 (nL tB),.c 1 (nL tLq)],.o (.lit .i64 34)]]⟩],λa H=>(⟨aIq a 36,da2 (slT (rwT (elT H 0) 0) 0),hLq tLq H 0 0 1,hLq tI H 0 0 2,da2 (slT (cellsOf (slT (rwT (elT H 1) 0) 0)) 0),wLq tLq H 1 0 0 1,wLq tI H 1 0 0 2,wLq tB H 1 0 0 3,wLq tB H 1 0 0 4,wLq tLq H 1 0 0 5,da2 (slT (cellsOf (slT (rwT (elT H 2) 0) 0)) 0),wLq tLq H 2 0 0 1,wLq tI H 2 0 0 2,wLq tB H 2 0 0 3,wLq tB H 2 0 0 4,wLq tLq H 2 0 0 5,da2 (slT (cellsOf (slT (rwT (elT H 2) 1) 0)) 0),wLq tLq H 2 1 0 1,wLq tI H 2 1 0 2,wLq tB H 2 1 0 3,wLq tB H 2 1 0 4,wLq tLq H 2 1 0 5,da2 (slT (cellsOf (slT (rwT (elT H 2) 2) 0)) 0),wLq tLq H 2 2 0 1,wLq tI H 2 2 0 2,wLq tB H 2 2 0 3,wLq tB H 2 2 0 4,wLq tLq H 2 2 0 5⟩,⟨1,aIq a 37⟩)⟩,⟨sUq::sUq::sPq 0::ru2 5 (sPq 1::ru2 19 (.s (.o (.sl 2 0 (some 0) (some 3)))::.s (.o (.lit .i64 3))::.s (.o (.lit .i64 2))::ru2 5 (sIq::sIq::ru2 10 []))),[⟨0,3,true,some [[.o .val,.c 1 (nL tLq),.c 1 (nL tI)]]⟩,⟨0,2,true,some [[.fn 100058 [.o .val,.c 1 (nL tLq),.c 1 (nL tI),.c 1 (nL tB),.c 1 (nL tB),.c 1 (nL tLq)],.o (.lit .i64 34)]]⟩,⟨91,2,true,some [[.fn 100056 [.o .val,.c 1 (nL tLq),.c 1 (nL tI),.c 1 (nL tB),.c 1 (nL tB),.c 1 (nL tLq)],.o (.lit .i64 35)],[.fn 100057 [.o .val,.c 1 (nL tLq),.c 1 (nL tI),.c 1 (nL tB),.c 1 (nL tB),.c 1 (nL tLq)],.o (.lit .i64 30)],[.fn 100058 [.o .val,.c 1 (nL tLq),.c 1 (nL tI),.c 1 (nL tB),.c 1 (nL tB),.c 1 (nL tLq)],.o (.lit .i64 34)]]⟩],λa H=>(⟨aIq a 36,da2 (slT (rwT (elT H 0) 0) 0),hLq tLq H 0 0 1,hLq tI H 0 0 2,da2 (slT (cellsOf (slT (rwT (elT H 1) 0) 0)) 0),wLq tLq H 1 0 0 1,wLq tI H 1 0 0 2,wLq tB H 1 0 0 3,wLq tB H 1 0 0 4,wLq tLq H 1 0 0 5,da2 (slT (cellsOf (slT (rwT (elT H 2) 0) 0)) 0),wLq tLq H 2 0 0 1,wLq tI H 2 0 0 2,wLq tB H 2 0 0 3,wLq tB H 2 0 0 4,wLq tLq H 2 0 0 5,da2 (slT (cellsOf (slT (rwT (elT H 2) 1) 0)) 0),wLq tLq H 2 1 0 1,wLq tI H 2 1 0 2,wLq tB H 2 1 0 3,wLq tB H 2 1 0 4,wLq tLq H 2 1 0 5,da2 (slT (cellsOf (slT (rwT (elT H 2) 2) 0)) 0),wLq tLq H 2 2 0 1,wLq tI H 2 2 0 2,wLq tB H 2 2 0 3,wLq tB H 2 2 0 4,wLq tLq H 2 2 0 5⟩,⟨2,aIq a 37⟩)⟩],M7,[(none,λp s=>⟨[i 35],[]⟩),(some 2,λp s=>upq (Kb4 p s) [(38,b (decide (s.Sc6<p.ge6)))]),(none,λp s=>⟨[i 30],[]⟩),(some 2,λp s=>upq (Kb5 p s) [(38,b (decide (s.Sc6<p.ge6)))]),(none,λp s=>⟨[i 34],[]⟩),(some 2,λp s=>upq (Kb6 p s) [(38,b (decide (s.Sc6<p.ge6)))])],Rc3⟩
theorem Rc4:tb4.Ok:=Lo.okq [] .nil λp s=>(.sel (Nat.beq s.ph 2) (.ofq @ga5) (.sel (Nat.beq s.ph 1) (.ofq @ga4) (.ofq @ga3)))
structure J7 where
 (E9 ba5 Xa2 Xa3:ByteArray)
structure B4 where
 ph:Nat
 i9:LPq
 m9:List Int
 D9:LPq
 G5:List Int
 (G6 G7:List Bool)
 (E0 Z9:LPq)
 fa4:List Int
 (fa5 fa6:List Bool)
 (aa0 aa1:LPq)
 fa7:List Int
 (fa8 fa9:List Bool)
 aa2:LPq
def Jc4(p:J7)(s:B4):St:=⟨.unk::.unk::.ptr 0 0 0 0::ra 25 (.sl 1 0 3 0::i 3::i 0::ra 17 []),[bq 0 3 [[.v (.string p.E9),eL tLq s.i9,eL tI s.m9]],bq 91 2 [[.fn 100056 [.v (.string p.ba5),eL tLq s.D9,eL tI s.G5,eL tB s.G6,eL tB s.G7,eL tLq s.E0],i 35],[.fn 100057 [.v (.string p.Xa2),eL tLq s.Z9,eL tI s.fa4,eL tB s.fa5,eL tB s.fa6,eL tLq s.aa0],i 30],[.fn 100058 [.v (.string p.Xa3),eL tLq s.aa1,eL tI s.fa7,eL tB s.fa8,eL tB s.fa9,eL tLq s.aa2],i 34]]]⟩
def Jc5(p:J7)(s:B4):St:=⟨.unk::.unk::.ptr 0 0 0 0::ra 25 (.sl 1 0 3 0::i 3::i 1::ra 17 []),[bq 0 3 [[.v (.string p.E9),eL tLq s.i9,eL tI s.m9]],bq 91 2 [[.fn 100056 [.v (.string p.ba5),eL tLq s.D9,eL tI s.G5,eL tB s.G6,eL tB s.G7,eL tLq s.E0],i 35],[.fn 100057 [.v (.string p.Xa2),eL tLq s.Z9,eL tI s.fa4,eL tB s.fa5,eL tB s.fa6,eL tLq s.aa0],i 30],[.fn 100058 [.v (.string p.Xa3),eL tLq s.aa1,eL tI s.fa7,eL tB s.fa8,eL tB s.fa9,eL tLq s.aa2],i 34]]]⟩
def Jc6(p:J7)(s:B4):St:=⟨.unk::.unk::.ptr 0 0 0 0::ra 25 (.sl 1 0 3 0::i 3::i 2::ra 17 []),[bq 0 3 [[.v (.string p.E9),eL tLq s.i9,eL tI s.m9]],bq 91 2 [[.fn 100056 [.v (.string p.ba5),eL tLq s.D9,eL tI s.G5,eL tB s.G6,eL tB s.G7,eL tLq s.E0],i 35],[.fn 100057 [.v (.string p.Xa2),eL tLq s.Z9,eL tI s.fa4,eL tB s.fa5,eL tB s.fa6,eL tLq s.aa0],i 30],[.fn 100058 [.v (.string p.Xa3),eL tLq s.aa1,eL tI s.fa7,eL tB s.fa8,eL tB s.fa9,eL tLq s.aa2],i 34]]]⟩
def Kb7(p:J7)(s:B4):St:=⟨.unk::.unk::.ptr 0 0 0 0::ra 25 (.sl 1 0 3 0::i 3::i 3::ra 17 []),[bq 0 3 [[.v (.string p.E9),eL tLq s.i9,eL tI s.m9]],bq 91 2 [[.fn 100056 [.v (.string p.ba5),eL tLq s.D9,eL tI s.G5,eL tB s.G6,eL tB s.G7,eL tLq s.E0],i 35],[.fn 100057 [.v (.string p.Xa2),eL tLq s.Z9,eL tI s.fa4,eL tB s.fa5,eL tB s.fa6,eL tLq s.aa0],i 30],[.fn 100058 [.v (.string p.Xa3),eL tLq s.aa1,eL tI s.fa7,eL tB s.fa8,eL tB s.fa9,eL tLq s.aa2],i 34]]]⟩
def Rc5(p:J7)(s:B4):St:=(sel (Nat.beq s.ph 3) (Kb7 p s) (sel (Nat.beq s.ph 2) (Jc6 p s) (sel (Nat.beq s.ph 1) (Jc5 p s) (Jc4 p s))))
def Da3{α:Type}(k:B4->α)(e:Nat->α)(z:α)(p:J7)(s:B4):α:=let y16:=(rt tI s.m9);let y15:=(rt tLq s.i9);let y14:=(rt tB s.fa9);let y13:=(rt tB s.fa8);let y12:=(rt tI s.fa7);let y11:=(rt tB s.fa6);let y10:=(rt tB s.fa5);let y9:=(rt tI s.fa4);let y8:=(rt tLq s.aa2);let y7:=(rt tLq s.aa1);let y6:=(rt tLq s.aa0);let y5:=(rt tLq s.Z9);let y4:=(rt tB s.G7);let y3:=(rt tB s.G6);let y2:=(rt tI s.G5);let y1:=(rt tLq s.E0);let y0:=(rt tLq s.D9);let t1:=(lp (M7 (⟨(↑(List.length s.i9):Int),p.E9,y15,y16,p.ba5,y0,y2,y3,y4,y1,p.ba5,y0,y2,y3,y4,y1,p.Xa2,y5,y9,y10,y11,y6,p.Xa3,y7,y12,y13,y14,y8⟩:H8)) (⟨0,0⟩:s9));(sl ((cnE tLq s.i9)&&((cnE tI s.m9)&&((cnE tLq s.D9)&&((cnE tI s.G5)&&((cnE tB s.G6)&&((cnE tB s.G7)&&((cnE tLq s.E0)&&((cnE tLq s.D9)&&((cnE tI s.G5)&&((cnE tB s.G6)&&((cnE tB s.G7)&&((cnE tLq s.E0)&&((cnE tLq s.Z9)&&((cnE tI s.fa4)&&((cnE tB s.fa5)&&((cnE tB s.fa6)&&((cnE tLq s.aa0)&&((cnE tLq s.aa1)&&((cnE tI s.fa7)&&((cnE tB s.fa8)&&((cnE tB s.fa9)&&((cnE tLq s.aa2)&&true)))))))))))))))))))))) (sl (Nat.beq t1.1 1) (e 1) (sl (Nat.beq t1.1 2) (k ⟨1,y15,y16,y0,y2,y3,y4,y1,y5,y9,y10,y11,y6,y7,y12,y13,y14,y8⟩) (sl (Nat.beq t1.1 3) (e 2) (sl (Nat.beq t1.1 4) (k ⟨2,y15,y16,y0,y2,y3,y4,y1,y5,y9,y10,y11,y6,y7,y12,y13,y14,y8⟩) (sl (Nat.beq t1.1 5) (e 3) (sl (Nat.beq t1.1 6) (k ⟨3,y15,y16,y0,y2,y3,y4,y1,y5,y9,y10,y11,y6,y7,y12,y13,y14,y8⟩) z)))))) z)
def Da4{α:Type}(k:B4->α)(e:Nat->α)(z:α)(p:J7)(s:B4):α:=let y16:=(rt tI s.m9);let y15:=(rt tLq s.i9);let y14:=(rt tB s.fa9);let y13:=(rt tB s.fa8);let y12:=(rt tI s.fa7);let y11:=(rt tB s.G7);let y10:=(rt tB s.G6);let y9:=(rt tI s.G5);let y8:=(rt tLq s.aa2);let y7:=(rt tLq s.aa1);let y6:=(rt tLq s.E0);let y5:=(rt tLq s.D9);let y4:=(rt tB s.fa6);let y3:=(rt tB s.fa5);let y2:=(rt tI s.fa4);let y1:=(rt tLq s.aa0);let y0:=(rt tLq s.Z9);let t1:=(lp (M7 (⟨(↑(List.length s.i9):Int),p.E9,y15,y16,p.Xa2,y0,y2,y3,y4,y1,p.ba5,y5,y9,y10,y11,y6,p.Xa2,y0,y2,y3,y4,y1,p.Xa3,y7,y12,y13,y14,y8⟩:H8)) (⟨1,0⟩:s9));(sl ((cnE tLq s.i9)&&((cnE tI s.m9)&&((cnE tLq s.Z9)&&((cnE tI s.fa4)&&((cnE tB s.fa5)&&((cnE tB s.fa6)&&((cnE tLq s.aa0)&&((cnE tLq s.D9)&&((cnE tI s.G5)&&((cnE tB s.G6)&&((cnE tB s.G7)&&((cnE tLq s.E0)&&((cnE tLq s.Z9)&&((cnE tI s.fa4)&&((cnE tB s.fa5)&&((cnE tB s.fa6)&&((cnE tLq s.aa0)&&((cnE tLq s.aa1)&&((cnE tI s.fa7)&&((cnE tB s.fa8)&&((cnE tB s.fa9)&&((cnE tLq s.aa2)&&true)))))))))))))))))))))) (sl (Nat.beq t1.1 1) (e 1) (sl (Nat.beq t1.1 2) (k ⟨1,y15,y16,y5,y9,y10,y11,y6,y0,y2,y3,y4,y1,y7,y12,y13,y14,y8⟩) (sl (Nat.beq t1.1 3) (e 2) (sl (Nat.beq t1.1 4) (k ⟨2,y15,y16,y5,y9,y10,y11,y6,y0,y2,y3,y4,y1,y7,y12,y13,y14,y8⟩) (sl (Nat.beq t1.1 5) (e 3) (sl (Nat.beq t1.1 6) (k ⟨3,y15,y16,y5,y9,y10,y11,y6,y0,y2,y3,y4,y1,y7,y12,y13,y14,y8⟩) z)))))) z)
def Da5{α:Type}(k:B4->α)(e:Nat->α)(z:α)(p:J7)(s:B4):α:=let y16:=(rt tI s.m9);let y15:=(rt tLq s.i9);let y14:=(rt tB s.fa6);let y13:=(rt tB s.fa5);let y12:=(rt tI s.fa4);let y11:=(rt tB s.G7);let y10:=(rt tB s.G6);let y9:=(rt tI s.G5);let y8:=(rt tLq s.aa0);let y7:=(rt tLq s.Z9);let y6:=(rt tLq s.E0);let y5:=(rt tLq s.D9);let y4:=(rt tB s.fa9);let y3:=(rt tB s.fa8);let y2:=(rt tI s.fa7);let y1:=(rt tLq s.aa2);let y0:=(rt tLq s.aa1);let t1:=(lp (M7 (⟨(↑(List.length s.i9):Int),p.E9,y15,y16,p.Xa3,y0,y2,y3,y4,y1,p.ba5,y5,y9,y10,y11,y6,p.Xa2,y7,y12,y13,y14,y8,p.Xa3,y0,y2,y3,y4,y1⟩:H8)) (⟨2,0⟩:s9));(sl ((cnE tLq s.i9)&&((cnE tI s.m9)&&((cnE tLq s.aa1)&&((cnE tI s.fa7)&&((cnE tB s.fa8)&&((cnE tB s.fa9)&&((cnE tLq s.aa2)&&((cnE tLq s.D9)&&((cnE tI s.G5)&&((cnE tB s.G6)&&((cnE tB s.G7)&&((cnE tLq s.E0)&&((cnE tLq s.Z9)&&((cnE tI s.fa4)&&((cnE tB s.fa5)&&((cnE tB s.fa6)&&((cnE tLq s.aa0)&&((cnE tLq s.aa1)&&((cnE tI s.fa7)&&((cnE tB s.fa8)&&((cnE tB s.fa9)&&((cnE tLq s.aa2)&&true)))))))))))))))))))))) (sl (Nat.beq t1.1 1) (e 1) (sl (Nat.beq t1.1 2) (k ⟨1,y15,y16,y5,y9,y10,y11,y6,y7,y12,y13,y14,y8,y0,y2,y3,y4,y1⟩) (sl (Nat.beq t1.1 3) (e 2) (sl (Nat.beq t1.1 4) (k ⟨2,y15,y16,y5,y9,y10,y11,y6,y7,y12,y13,y14,y8,y0,y2,y3,y4,y1⟩) (sl (Nat.beq t1.1 5) (e 3) (sl (Nat.beq t1.1 6) (k ⟨3,y15,y16,y5,y9,y10,y11,y6,y7,y12,y13,y14,y8,y0,y2,y3,y4,y1⟩) z)))))) z)
def Kb8{α:Type}(k:B4->α)(e:Nat->α)(z:α)(p:J7)(s:B4):α:=(e 4)
def ba3(p:J7)(s:B4):Stp B4:=(sel (Nat.beq s.ph 3) (Kb8 .next .exit .fail p s) (sel (Nat.beq s.ph 2) (Da5 .next .exit .fail p s) (sel (Nat.beq s.ph 1) (Da4 .next .exit .fail p s) (Da3 .next .exit .fail p s))))
def tb5:Lo J7 B4:=⟨En yb7,0,Qf6,[1,1,1,0,1,4,4],[2,28,29,30],.s .p (.s .p (.s (.b (.s .p (.s .p (.b (.u tb4.ls))))) .p)),[⟨sUq::sUq::sPq 0::ru2 25 (.s (.o (.sl 1 0 (some 0) (some 3)))::.s (.o (.lit .i64 3))::.s (.o (.lit .i64 0))::ru2 17 []),[⟨0,3,true,some [[.o .val,.c 1 (nL tLq),.c 1 (nL tI)]]⟩,⟨91,2,true,some [[.fn 100056 [.o .val,.c 1 (nL tLq),.c 1 (nL tI),.c 1 (nL tB),.c 1 (nL tB),.c 1 (nL tLq)],.o (.lit .i64 35)],[.fn 100057 [.o .val,.c 1 (nL tLq),.c 1 (nL tI),.c 1 (nL tB),.c 1 (nL tB),.c 1 (nL tLq)],.o (.lit .i64 30)],[.fn 100058 [.o .val,.c 1 (nL tLq),.c 1 (nL tI),.c 1 (nL tB),.c 1 (nL tB),.c 1 (nL tLq)],.o (.lit .i64 34)]]⟩],λa H=>(⟨da2 (slT (rwT (elT H 0) 0) 0),da2 (slT (cellsOf (slT (rwT (elT H 1) 0) 0)) 0),da2 (slT (cellsOf (slT (rwT (elT H 1) 1) 0)) 0),da2 (slT (cellsOf (slT (rwT (elT H 1) 2) 0)) 0)⟩,⟨0,hLq tLq H 0 0 1,hLq tI H 0 0 2,wLq tLq H 1 0 0 1,wLq tI H 1 0 0 2,wLq tB H 1 0 0 3,wLq tB H 1 0 0 4,wLq tLq H 1 0 0 5,wLq tLq H 1 1 0 1,wLq tI H 1 1 0 2,wLq tB H 1 1 0 3,wLq tB H 1 1 0 4,wLq tLq H 1 1 0 5,wLq tLq H 1 2 0 1,wLq tI H 1 2 0 2,wLq tB H 1 2 0 3,wLq tB H 1 2 0 4,wLq tLq H 1 2 0 5⟩)⟩,⟨sUq::sUq::sPq 0::ru2 25 (.s (.o (.sl 1 0 (some 0) (some 3)))::.s (.o (.lit .i64 3))::.s (.o (.lit .i64 1))::ru2 17 []),[⟨0,3,true,some [[.o .val,.c 1 (nL tLq),.c 1 (nL tI)]]⟩,⟨91,2,true,some [[.fn 100056 [.o .val,.c 1 (nL tLq),.c 1 (nL tI),.c 1 (nL tB),.c 1 (nL tB),.c 1 (nL tLq)],.o (.lit .i64 35)],[.fn 100057 [.o .val,.c 1 (nL tLq),.c 1 (nL tI),.c 1 (nL tB),.c 1 (nL tB),.c 1 (nL tLq)],.o (.lit .i64 30)],[.fn 100058 [.o .val,.c 1 (nL tLq),.c 1 (nL tI),.c 1 (nL tB),.c 1 (nL tB),.c 1 (nL tLq)],.o (.lit .i64 34)]]⟩],λa H=>(⟨da2 (slT (rwT (elT H 0) 0) 0),da2 (slT (cellsOf (slT (rwT (elT H 1) 0) 0)) 0),da2 (slT (cellsOf (slT (rwT (elT H 1) 1) 0)) 0),da2 (slT (cellsOf (slT (rwT (elT H 1) 2) 0)) 0)⟩,⟨1,hLq tLq H 0 0 1,hLq tI H 0 0 2,wLq tLq H 1 0 0 1,wLq tI H 1 0 0 2,wLq tB H 1 0 0 3,wLq tB H 1 0 0 4,wLq tLq H 1 0 0 5,wLq tLq H 1 1 0 1,wLq tI H 1 1 0 2,wLq tB H 1 1 0 3,wLq tB H 1 1 0 4,wLq tLq H 1 1 0 5,wLq tLq H 1 2 0 1,wLq tI H 1 2 0 2,wLq tB H 1 2 0 3,wLq tB H 1 2 0 4,wLq tLq H 1 2 0 5⟩)⟩,⟨sUq::sUq::sPq 0::ru2 25 (.s (.o (.sl 1 0 (some 0) (some 3)))::.s (.o (.lit .i64 3))::.s (.o (.lit .i64 2))::ru2 17 []),[⟨0,3,true,some [[.o .val,.c 1 (nL tLq),.c 1 (nL tI)]]⟩,⟨91,2,true,some [[.fn 100056 [.o .val,.c 1 (nL tLq),.c 1 (nL tI),.c 1 (nL tB),.c 1 (nL tB),.c 1 (nL tLq)],.o (.lit .i64 35)],[.fn 100057 [.o .val,.c 1 (nL tLq),.c 1 (nL tI),.c 1 (nL tB),.c 1 (nL tB),.c 1 (nL tLq)],.o (.lit .i64 30)],[.fn 100058 [.o .val,.c 1 (nL tLq),.c 1 (nL tI),.c 1 (nL tB),.c 1 (nL tB),.c 1 (nL tLq)],.o (.lit .i64 34)]]⟩],λa H=>(⟨da2 (slT (rwT (elT H 0) 0) 0),da2 (slT (cellsOf (slT (rwT (elT H 1) 0) 0)) 0),da2 (slT (cellsOf (slT (rwT (elT H 1) 1) 0)) 0),da2 (slT (cellsOf (slT (rwT (elT H 1) 2) 0)) 0)⟩,⟨2,hLq tLq H 0 0 1,hLq tI H 0 0 2,wLq tLq H 1 0 0 1,wLq tI H 1 0 0 2,wLq tB H 1 0 0 3,wLq tB H 1 0 0 4,wLq tLq H 1 0 0 5,wLq tLq H 1 1 0 1,wLq tI H 1 1 0 2,wLq tB H 1 1 0 3,wLq tB H 1 1 0 4,wLq tLq H 1 1 0 5,wLq tLq H 1 2 0 1,wLq tI H 1 2 0 2,wLq tB H 1 2 0 3,wLq tB H 1 2 0 4,wLq tLq H 1 2 0 5⟩)⟩,⟨sUq::sUq::sPq 0::ru2 25 (.s (.o (.sl 1 0 (some 0) (some 3)))::.s (.o (.lit .i64 3))::.s (.o (.lit .i64 3))::ru2 17 []),[⟨0,3,true,some [[.o .val,.c 1 (nL tLq),.c 1 (nL tI)]]⟩,⟨91,2,true,some [[.fn 100056 [.o .val,.c 1 (nL tLq),.c 1 (nL tI),.c 1 (nL tB),.c 1 (nL tB),.c 1 (nL tLq)],.o (.lit .i64 35)],[.fn 100057 [.o .val,.c 1 (nL tLq),.c 1 (nL tI),.c 1 (nL tB),.c 1 (nL tB),.c 1 (nL tLq)],.o (.lit .i64 30)],[.fn 100058 [.o .val,.c 1 (nL tLq),.c 1 (nL tI),.c 1 (nL tB),.c 1 (nL tB),.c 1 (nL tLq)],.o (.lit .i64 34)]]⟩],λa H=>(⟨da2 (slT (rwT (elT H 0) 0) 0),da2 (slT (cellsOf (slT (rwT (elT H 1) 0) 0)) 0),da2 (slT (cellsOf (slT (rwT (elT H 1) 1) 0)) 0),da2 (slT (cellsOf (slT (rwT (elT H 1) 2) 0)) 0)⟩,⟨3,hLq tLq H 0 0 1,hLq tI H 0 0 2,wLq tLq H 1 0 0 1,wLq tI H 1 0 0 2,wLq tB H 1 0 0 3,wLq tB H 1 0 0 4,wLq tLq H 1 0 0 5,wLq tLq H 1 1 0 1,wLq tI H 1 1 0 2,wLq tB H 1 1 0 3,wLq tB H 1 1 0 4,wLq tLq H 1 1 0 5,wLq tLq H 1 2 0 1,wLq tI H 1 2 0 2,wLq tB H 1 2 0 3,wLq tB H 1 2 0 4,wLq tLq H 1 2 0 5⟩)⟩],ba3,[(none,λp s=>⟨[i 35],[]⟩),(none,λp s=>⟨[i 30],[]⟩),(none,λp s=>⟨[i 34],[]⟩),(some 0,λp s=>upq (Kb7 p s) [(31,b false)])],Rc5⟩
theorem Rc6:tb5.Ok:=Lo.okq [tb4.pr] (.cons Rc4 .nil) λp s=>(.sel (Nat.beq s.ph 3) (.ofq @Kb8) (.sel (Nat.beq s.ph 2) (.ofq @Da5) (.sel (Nat.beq s.ph 1) (.ofq @Da4) (.ofq @Da3))))
def Ma9(x:Prt)(y:Pce):ROq:=let y1:=(⟨x.nm,rt tLq x.cl,rt tI x.wt⟩:Prt);let y0:=(⟨rt tB y.su,rt tB y.to,rt tLq y.cu⟩:Pce);let t1:=(Ga2 y1 y0);let t2:=(lp (ba3 (⟨x.nm,x.nm,x.nm,x.nm⟩:J7)) (⟨0,rt tLq x.cl,rt tI x.wt,rt tLq x.cl,rt tI x.wt,rt tB y.su,rt tB y.to,rt tLq y.cu,rt tLq x.cl,rt tI x.wt,rt tB y.su,rt tB y.to,rt tLq y.cu,rt tLq x.cl,rt tI x.wt,rt tB y.su,rt tB y.to,rt tLq y.cu⟩:B4));(sl ((okE tLq x.cl)&&((okE tI x.wt)&&true)) (sl ((okE tB y.su)&&((okE tB y.to)&&((okE tLq y.cu)&&true))) (sl (Ga3 y1 y0) (sl (t1 != 0) (some (i t1,[])) (sl ((cnE tLq x.cl)&&((cnE tI x.wt)&&((cnE tLq x.cl)&&((cnE tI x.wt)&&((cnE tB y.su)&&((cnE tB y.to)&&((cnE tLq y.cu)&&((cnE tLq x.cl)&&((cnE tI x.wt)&&((cnE tB y.su)&&((cnE tB y.to)&&((cnE tLq y.cu)&&((cnE tLq x.cl)&&((cnE tI x.wt)&&((cnE tB y.su)&&((cnE tB y.to)&&((cnE tLq y.cu)&&true))))))))))))))))) (sl (Nat.beq t2.1 1) (some (i 35,[])) (sl (Nat.beq t2.1 2) (some (i 30,[])) (sl (Nat.beq t2.1 3) (some (i 34,[])) (sl (Nat.beq t2.1 4) (some (i 0,[])) none)))) none)) none) none) none)
def ba0(x:Prt)(y:Pce):Int:=aa3 (one r1I) (Ma9 x y)
def L7(x:Prt)(y:Pce):Bool:=okO (one r1I) (Ma9 x y)
def Jb2:Sum:=va4 cJ cO (λx y=>.guard (L7 x y) (.ret ((one r1I).enc (ba0 x y),[])))
theorem hc8:l8 prog G 22 Jb2:=pd9 (bd b22 bd6) (one r1I) (o:=Ma9) λx y=>da5 (.s .p (.s .p (.s .p (.s (.s .p (.b (.u tb5.ls))) .p)))) [tb5.pr] (.cons Rc6 .nil)
def pa9(cl:LPq)(su:List Bool)(j:Nat):LPq:=((List.range j).filter λk=>!gL tB su k).map (gL tLq cl)
theorem Fe9(cl:LPq)(su:List Bool)(j:Nat):pa9 cl su (j+1)=pa9 cl su j++(if gL tB su j=true then [] else [gL tLq cl j]):=by
 unfold pa9;rw[List.range_succ,Qiu,List.map_append];congr 1;have e:List.filter (λk=>!gL tB su k) [j]=if gL tB su j=true then [] else [j]:=by
  show (match !gL tB su j with | true=>j::[] | false=>[])=_
  cases gL tB su j<;>rfl
 rw[e];cases gL tB su j<;>rfl
theorem Vd6(cl:LPq)(su:List Bool)(j:Nat):(pa9 cl su j).length<=j:=by
 unfold pa9;rw[List.length_map];exact Qai (Qkk _ _) (by simp)
theorem Hc9{cl:LPq}{su:List Bool}{j:Nat}(hj:j<=cl.length){q:PLq}(h:q∈pa9 cl su j):q∈cl:=by
 unfold pa9 at h;obtain⟨k,hk,rfl⟩:=Qbr.1 h
 have:=Qca.1 (Qff.1 hk).1
 exact S1 tLq (by omega)
theorem ve5{n:Nat}{q:PLq}{su to:List Bool}{cu:LPq}(h:n<su.length):Wa2 ⟨(n:Int),q,su,to,cu⟩=⟨1,!gL tB su n⟩:=by
 unfold Wa2 Tb1;simp only[Int.toNat_natCast];rw[bt (j9 h)]
structure RLf(l:LPq)(su to:List Bool)(cu:LPq)(j:Nat)(s:C5):Prop where
 le:j<=l.length
 ix:s.N7=(j:Int)
 ph:s.ph=phL (pa9 l su j)
 c1:s.L8=su
 c2:s.O1=to
 c3:s.M8=cu
 n:s.ns5=(pa9 l su j).length
 e:s.eh1=bL tLq (pa9 l su j)
theorem Ge0(l:LPq)(su to:List Bool)(cu:LPq)(hl:l.length<=1000000)(hs:su.length=l.length) :
  ∃t s,lp (fa2 ⟨l,(l.length:Int)⟩) ⟨0,0,su,to,cu,0,[]⟩=(t,s)/\RLf l su to cu l.length s/\t=phL (pa9 l su l.length)+1:=by
 refine va3 (step:=fa2 ⟨l,(l.length:Int)⟩) (mk:=λ_ (s:C5)=>s) l.length (RLf l su to cu) (λt s=>RLf l su to cu l.length s/\t=phL (pa9 l su l.length)+1) (by omega)
  (λj s hj hi=>?_) (λj s hj hi=>?_) 0 _ ⟨Qbw _,rfl,rfl,rfl,rfl,rfl,rfl,rfl⟩
 ·obtain⟨_,h2,h3,h6,h7,h8,h4,h5⟩:=hi;obtain⟨ph,is6,c1,c2,c3,ns5,eh0⟩:=s
  simp only at h2 h3 h4 h5 h6 h7 h8
  subst h2 h3 h4 h5 h6 h7 h8;have hw1:W ((j:Int)+1)=((j+1:Nat):Int):=D0 hj (by omega)
  have hgx:inB (j:Int) l.length=true:=j9 hj;have hlen:=Vd6 l c1 j;have hjs:j<c1.length:=by rw[hs];exact hj
  have hnx:∃s,fa2 ⟨l,(l.length:Int)⟩ ⟨phL (pa9 l c1 j),(j:Int),c1,c2,c3,(pa9 l c1 j).length,bL tLq (pa9 l c1 j)⟩=.next s/\RLf l c1 c2 c3 (j+1) s:=by
   have hm:=Fe9 l c1 j
   rcases I8 (pa9 l c1 j) with⟨h0,hn⟩|h1
   ·rw[h0];refine⟨⟨phL (pa9 l c1 (j+1)),((j+1:Nat):Int),c1,c2,c3,(pa9 l c1 (j+1)).length,bL tLq (pa9 l c1 (j+1))⟩,?_,⟨hj,rfl,rfl,rfl,rfl,rfl,rfl,rfl⟩⟩;show U2 Stp.next Stp.exit Stp.fail _ _=_;simp only[U2,Int.toNat_natCast,j8,o7,Qka,ve5 hjs,hw1,hgx,i6];rw[btD (s8 hj),hm,hn,bt (show Nat.beq 1 1=true from rfl)]
    cases gL tB c1 j<;>rfl
   ·rw[h1];refine⟨⟨phL (pa9 l c1 (j+1)),((j+1:Nat):Int),c1,c2,c3,(pa9 l c1 (j+1)).length,bL tLq (pa9 l c1 (j+1))⟩,?_,⟨hj,rfl,rfl,rfl,rfl,rfl,rfl,rfl⟩⟩;show U3 Stp.next Stp.exit Stp.fail _ _=_;simp only[U3,Int.toNat_natCast,j8,o7,Qka,ve5 hjs,hw1,hgx,i6];rw[btD (s8 hj),hm,bt (show Nat.beq 1 1=true from rfl),bt (jd2 _ (by omega)),Ud3]
    cases gL tB c1 j with
    |true =>
     simp only[Qkg,A6,if_true,Qbv,h1]
    |false =>
     simp only[Qis,i6,Qit,if_false,Ab8,Qdc,List.length_singleton]
  obtain⟨s,e1,e2⟩:=hnx;rw[e1];exact .nx ⟨s,rfl,e2⟩
 ·have hje:j=l.length:=by have:=hi.le;omega
  subst hje;have hi':=hi;obtain⟨_,h2,h3,h6,h7,h8,h4,h5⟩:=hi;obtain⟨ph,is6,c1,c2,c3,ns5,eh0⟩:=s
  simp only at h2 h3 h4 h5 h6 h7 h8
  subst h2 h3 h4 h5 h6 h7 h8
  rcases I8 (pa9 l c1 l.length) with⟨h0,hn⟩|h1
  ·refine⟨1,?_,hi',by rw[h0]⟩
   rw[h0];show U2 Stp.next Stp.exit Stp.fail _ _=_;simp only[U2];rw[bfD (E2 (Qid _))]
  ·refine⟨2,?_,hi',by rw[h1]⟩
   rw[h1];show U3 Stp.next Stp.exit Stp.fail _ _=_;simp only[U3];rw[bfD (E2 (Qid _))]
theorem rf1(l:LPq)(su to:List Bool)(cu:LPq)(hl:l.length<=1000000)(hs:su.length=l.length) :
  (pa9 l su l.length=[]/\pa8 ⟨l,su,to,cu⟩=⟨1,su,to,cu,0,[]⟩)\/(pa9 l su l.length≠[]/\pa8 ⟨l,su,to,cu⟩=⟨2,su,to,cu,(pa9 l su l.length).length,bL tLq (pa9 l su l.length)⟩):=by
 obtain⟨t,s,h1,h2,h3⟩:=Ge0 l su to cu hl hs;unfold pa8 cb4;simp only[j8,o7,Qka,i6,h1,h2.c1,h2.c2,h2.c3]
 rcases I8 (pa9 l su l.length) with⟨hz,hnl⟩|hp1
 ·rw[h3,hz];exact .inl ⟨hnl,rfl⟩
 ·rw[h3,hp1,h2.n,h2.e];exact .inr ⟨λe=>(by rw[e] at hp1;cases hp1),rfl⟩
def ve6(x:Prt)(y:Pce):LPq:=if (Nb0 x y != 0)=true then [] else pa9 x.cl y.su x.cl.length
theorem Oe8{x:Prt}{y:Pce}(hx:Jok x)(hy:Pok y)(hxn:∀q∈x.cl,q≠[]):Rd (one (r1L tLq)) (tb3 x y) (λr=>r=ve6 x y):=by
 have n11:Nat.beq 1 1=true:=rfl;have n21:Nat.beq 2 1=false:=rfl;have n22:Nat.beq 2 2=true:=rfl;have hj:Jok ⟨x.nm,x.cl,x.wt⟩:=⟨hx.cl,hx.wt,hx.pl⟩;have hp:Pok ⟨y.su,y.to,y.cu⟩:=⟨hy.su,hy.to,hy.cu,hy.cl⟩;have f1:=Hd5 hj hp;have f2:=Hd6 hj hp;unfold tb3 ve6;simp only[j8,B8,o7,Qka,i6,f1,f2];rw[show Nb0 ⟨x.nm,x.cl,x.wt⟩ ⟨y.su,y.to,y.cu⟩=Nb0 x y from rfl]
 cases hf:(Nb0 x y != 0) with
 |true=>rw[i6,if_pos rfl];exact⟨_,[],rfl,qf5 _,rfl⟩
 |false =>
  rw[A6,if_neg (show ¬ false=true by decide)]
  obtain⟨_,hs,_⟩:=Hd9 (by simpa using hf)
  have k4:la3 []=[]:=ad9 (l:=[]) (by simp) (by simp) (by simp)
  have k5:fa0 []=true:=bd0 (l:=[]) (by simp) (by simp) (by simp)
  rcases rf1 x.cl y.su y.to y.cu hx.cl hs with⟨h0,h1⟩|⟨h0,h1⟩
  ·rw[h1,h0];simp only[n11,i6,k4,k5];exact⟨_,[],rfl,lf0 tLq [],rfl⟩
  ·have hl:=Vd6 x.cl y.su x.cl.length;have hlc:=hx.cl;have k6:=ad9 (l:=pa9 x.cl y.su x.cl.length) (by omega) (λq hq=>hx.pl q (Hc9 (Qaf _) hq)) (λq hq=>hxn q (Hc9 (Qaf _) hq))
   have k7:=bd0 (l:=pa9 x.cl y.su x.cl.length) (by omega) (λq hq=>hx.pl q (Hc9 (Qaf _) hq)) (λq hq=>hxn q (Hc9 (Qaf _) hq))
   rw[h1];simp only[n21,n22,i6,A6,ve2 tLq (pa9 x.cl y.su x.cl.length) rfl,ee8 tLq (pa9 x.cl y.su x.cl.length) rfl,k6,k7];exact⟨_,_,rfl,lf0 tLq _,rfl⟩
theorem rf2{x:Prt}{y:Pce}(hx:Jok x)(hy:Pok y)(hxn:∀q∈x.cl,q≠[]):Nb1 x y=ve6 x y:=(Oe8 hx hy hxn).p
theorem rf3{x:Prt}{y:Pce}(hx:Jok x)(hy:Pok y)(hxn:∀q∈x.cl,q≠[]):Nb2 x y=true:=(Oe8 hx hy hxn).g
def Rc7(x:Prt)(y:Pce)(k:Nat):Bool:=gL tI x.wt k==1&&!ea8 (gL tLq x.cl k) y.cu
def Rc8(x:Prt)(y:Pce)(k:Nat):Bool:=gL tI x.wt k==1&&gL tB y.to k
def bd7(x:Prt)(y:Pce)(k:Nat):Bool:=gL tI x.wt k==2&&!gL tB y.su k
def Vb4(x:Prt)(y:Pce):Int:=if (Nb0 x y != 0)=true then Nb0 x y else if (List.range x.cl.length).any (Rc7 x y)=true then 35
 else if (List.range x.cl.length).any (Rc8 x y)=true then 30 else if (List.range x.cl.length).any (bd7 x y)=true then 34 else 0
theorem Ye9{x:Prt}{y:Pce}(hx:Jok x)(hy:Pok y){k:Nat}(hk:k<x.cl.length)(hw:x.wt.length=x.cl.length):Aa4 ⟨x.nm,x.cl,x.wt,y.su,y.to,y.cu,(k:Int)⟩=⟨1,Rc7 x y k⟩:=by
 have hc:=hx.pl _ (S1 tLq hk);unfold Aa4 Wa5 Rc7;simp only[Int.toNat_natCast,j8,B8,Bc1 hc hy.cu hy.cl,Bc2 hc hy.cu hy.cl,i6];rw[bt (j9 (show k<x.wt.length by omega)),bt (j9 hk)]
 cases gL tI x.wt k==1<;>rfl
theorem Ze0{x:Prt}{y:Pce}{k:Nat}(hk:k<x.cl.length)(hw:x.wt.length=x.cl.length)(ht:y.to.length=x.cl.length):Aa5 ⟨x.nm,x.cl,x.wt,y.su,y.to,y.cu,(k:Int)⟩=⟨1,Rc8 x y k⟩:=by
 unfold Aa5 Wa8 Rc8;simp only[Int.toNat_natCast];rw[bt (j9 (show k<x.wt.length by omega)),bt (j9 (show k<y.to.length by omega))]
 cases gL tI x.wt k==1<;>rfl
theorem rf4{x:Prt}{y:Pce}{k:Nat}(hk:k<x.cl.length)(hw:x.wt.length=x.cl.length)(ht:y.su.length=x.cl.length):Ja7 ⟨x.nm,x.cl,x.wt,y.su,y.to,y.cu,(k:Int)⟩=⟨1,bd7 x y k⟩:=by
 unfold Ja7 ib8 bd7;simp only[Int.toNat_natCast];rw[bt (j9 (show k<x.wt.length by omega)),bt (j9 (show k<y.su.length by omega))]
 cases gL tI x.wt k==2<;>rfl
def VP(x:Prt)(y:Pce):H8:=⟨(x.cl.length:Int),x.nm,x.cl,x.wt,x.nm,x.cl,x.wt,y.su,y.to,y.cu,x.nm,x.cl,x.wt,y.su,y.to,y.cu,x.nm,x.cl,x.wt,y.su,y.to,y.cu,x.nm,x.cl,x.wt,y.su,y.to,y.cu⟩
theorem Gf4{x:Prt}{y:Pce}(hx:Jok x)(hy:Pok y)(hw:x.wt.length=x.cl.length):∃k,lp (M7 (VP x y)) ⟨0,0⟩=(if (List.range x.cl.length).any (Rc7 x y)=true then 1 else 2,(⟨0,((k:Nat):Int)⟩:s9)):=by
 have hxc:=hx.cl;exact Gd3 (step:=M7 (VP x y)) (mk:=λk=>(⟨0,(k:Int)⟩:s9)) x.cl.length (Rc7 x y) 1 2 (by omega)
  (λj hj=>by
   unfold VP;show ga3 Stp.next Stp.exit Stp.fail _ _=_;simp only[ga3,j8,o7,Qka,Ye9 hx hy hj hw,D0 hj (show x.cl.length<=4611686018427387904 by omega),i6]
   rw[btD (s8 hj),bt (show Nat.beq 1 1=true from rfl)])
  (by
   unfold VP;show ga3 Stp.next Stp.exit Stp.fail _ _=_;simp only[ga3];rw[bfD (E2 (Qid _))])
theorem Gf5{x:Prt}{y:Pce}(hx:Jok x)(hw:x.wt.length=x.cl.length)(ht:y.to.length=x.cl.length):∃k,lp (M7 (VP x y)) ⟨1,0⟩=(if (List.range x.cl.length).any (Rc8 x y)=true then 3 else 4,(⟨1,((k:Nat):Int)⟩:s9)):=by
 have hxc:=hx.cl;exact Gd3 (step:=M7 (VP x y)) (mk:=λk=>(⟨1,(k:Int)⟩:s9)) x.cl.length (Rc8 x y) 3 4 (by omega)
  (λj hj=>by
   unfold VP;show ga4 Stp.next Stp.exit Stp.fail _ _=_;simp only[ga4,j8,o7,Qka,Ze0 hj hw ht,D0 hj (show x.cl.length<=4611686018427387904 by omega),i6]
   rw[btD (s8 hj),bt (show Nat.beq 1 1=true from rfl)])
  (by
   unfold VP;show ga4 Stp.next Stp.exit Stp.fail _ _=_;simp only[ga4];rw[bfD (E2 (Qid _))])
theorem Gf6{x:Prt}{y:Pce}(hx:Jok x)(hw:x.wt.length=x.cl.length)(ht:y.su.length=x.cl.length):∃k,lp (M7 (VP x y)) ⟨2,0⟩=(if (List.range x.cl.length).any (bd7 x y)=true then 5 else 6,(⟨2,((k:Nat):Int)⟩:s9)):=by
 have hxc:=hx.cl;exact Gd3 (step:=M7 (VP x y)) (mk:=λk=>(⟨2,(k:Int)⟩:s9)) x.cl.length (bd7 x y) 5 6 (by omega)
  (λj hj=>by
   unfold VP;show ga5 Stp.next Stp.exit Stp.fail _ _=_;simp only[ga5,j8,o7,Qka,rf4 hj hw ht,D0 hj (show x.cl.length<=4611686018427387904 by omega),i6]
   rw[btD (s8 hj),bt (show Nat.beq 1 1=true from rfl)])
  (by
   unfold VP;show ga5 Stp.next Stp.exit Stp.fail _ _=_;simp only[ga5];rw[bfD (E2 (Qid _))])
def VS(x:Prt)(y:Pce)(n:Nat):B4:=⟨n,x.cl,x.wt,x.cl,x.wt,y.su,y.to,y.cu,x.cl,x.wt,y.su,y.to,y.cu,x.cl,x.wt,y.su,y.to,y.cu⟩
theorem Wf1{x:Prt}{y:Pce}(hx:Jok x)(hy:Pok y)(hw:x.wt.length=x.cl.length)(hs:y.su.length=x.cl.length)(ht:y.to.length=x.cl.length) :
  (lp (ba3 ⟨x.nm,x.nm,x.nm,x.nm⟩) (VS x y 0)).1=if (List.range x.cl.length).any (Rc7 x y)=true then 1
   else if (List.range x.cl.length).any (Rc8 x y)=true then 2 else if (List.range x.cl.length).any (bd7 x y)=true then 3 else 4:=by
 obtain⟨k0,h0⟩:=Gf4 hx hy hw;obtain⟨k1,h1⟩:=Gf5 (y:=y) hx hw ht;obtain⟨k2,h2⟩:=Gf6 (y:=y) hx hw hs;unfold VP at h0 h1 h2;have q:∀n:Nat,Nat.beq n n=true:=λn=>Qip n
 refine zc8 (step := ba3 ⟨x.nm, x.nm, x.nm, x.nm⟩) (I := fun m s => (m = 3 ∧ s = VS x y 0) ∨ (m = 2 ∧ s = VS x y 1 ∧ (List.range x.cl.length).any (Rc7 x y) = false) ∨ (m = 1 ∧ s = VS x y 2 ∧ (List.range x.cl.length).any (Rc7 x y) = false ∧ (List.range x.cl.length).any (Rc8 x y) = false) ∨
   (m=0/\s=VS x y 3/\(List.range x.cl.length).any (Rc7 x y)=false/\(List.range x.cl.length).any (Rc8 x y)=false/\(List.range x.cl.length).any (bd7 x y)=false))
  (Q:=λt _=>t=if (List.range x.cl.length).any (Rc7 x y)=true then 1 else if (List.range x.cl.length).any (Rc8 x y)=true then 2 else if (List.range x.cl.length).any (bd7 x y)=true then 3 else 4)
  (λm s hi=>?_) 3 (VS x y 0) (by decide) (.inl ⟨rfl,rfl⟩)
 rcases hi with⟨rfl,rfl⟩|⟨rfl,rfl,e0⟩|⟨rfl,rfl,e0,e1⟩|⟨rfl,rfl,e0,e1,e2⟩
 ·have hst : ba3 ⟨x.nm, x.nm, x.nm, x.nm⟩ (VS x y 0) = sl ((List.range x.cl.length).any (Rc7 x y)) (.exit 1) (.next (VS x y 1)) := by
   unfold VS;show Da3 Stp.next Stp.exit Stp.fail _ _=_;simp only[Da3,j8,o7,Qka,i6,h0];cases (List.range x.cl.length).any (Rc7 x y)<;>rfl
  rw[hst];cases e0:(List.range x.cl.length).any (Rc7 x y) with
  |true=>exact .inl ⟨1,rfl,by rw[if_pos rfl]⟩
  |false=>exact .inr ⟨_,2,rfl,rfl,.inr (.inl ⟨rfl,rfl,rfl⟩)⟩
 ·have hst : ba3 ⟨x.nm, x.nm, x.nm, x.nm⟩ (VS x y 1) = sl ((List.range x.cl.length).any (Rc8 x y)) (.exit 2) (.next (VS x y 2)) := by
   unfold VS;show Da4 Stp.next Stp.exit Stp.fail _ _=_;simp only[Da4,j8,o7,Qka,i6,h1];cases (List.range x.cl.length).any (Rc8 x y)<;>rfl
  rw[hst,e0];cases e1:(List.range x.cl.length).any (Rc8 x y) with
  |true=>exact .inl ⟨2,rfl,by rw[if_neg (by decide),if_pos rfl]⟩
  |false=>exact .inr ⟨_,1,rfl,rfl,.inr (.inr (.inl ⟨rfl,rfl,rfl,rfl⟩))⟩
 ·have hst : ba3 ⟨x.nm, x.nm, x.nm, x.nm⟩ (VS x y 2) = sl ((List.range x.cl.length).any (bd7 x y)) (.exit 3) (.next (VS x y 3)) := by
   unfold VS;show Da5 Stp.next Stp.exit Stp.fail _ _=_;simp only[Da5,j8,o7,Qka,i6,h2];cases (List.range x.cl.length).any (bd7 x y)<;>rfl
  rw[hst,e0,e1];cases e2:(List.range x.cl.length).any (bd7 x y) with
  |true=>exact .inl ⟨3,rfl,by rw[if_neg (by decide),if_neg (by decide),if_pos rfl]⟩
  |false=>exact .inr ⟨_,0,rfl,rfl,.inr (.inr (.inr ⟨rfl,rfl,rfl,rfl,rfl⟩))⟩
 ·refine .inl ⟨4,rfl,?_⟩;rw[e0,e1,e2];rfl
theorem Id1{x:Prt}{y:Pce}(hx:Jok x)(hy:Pok y):Ma9 x y=some (i (Vb4 x y),[]):=by
 have hj:Jok ⟨x.nm,x.cl,x.wt⟩:=⟨hx.cl,hx.wt,hx.pl⟩;have hp:Pok ⟨y.su,y.to,y.cu⟩:=⟨hy.su,hy.to,hy.cu,hy.cl⟩;have f1:=Hd5 hj hp;have f2:=Hd6 hj hp;unfold Ma9 Vb4;simp only[j8,B8,o7,Qka,i6,f1,f2];rw[show Nb0 ⟨x.nm,x.cl,x.wt⟩ ⟨y.su,y.to,y.cu⟩=Nb0 x y from rfl]
 cases hf:(Nb0 x y != 0) with
 |true=>rfl
 |false =>
  rw[A6,if_neg (show ¬ false=true by decide)]
  obtain⟨hx0,hs,ht,_⟩:=Hd9 (by simpa using hf)
  obtain⟨_,_,hw,_⟩:=Vd5 hx0;have h:=Wf1 hx hy hw hs ht;unfold VS at h;rw[h];cases (List.range x.cl.length).any (Rc7 x y)<;>cases (List.range x.cl.length).any (Rc8 x y)<;>cases (List.range x.cl.length).any (bd7 x y)<;>rfl
theorem Nb8{x:Prt}{y:Pce}(hx:Jok x)(hy:Pok y):ba0 x y=Vb4 x y:=by unfold ba0;rw[Id1 hx hy];rfl
theorem Nb9{x:Prt}{y:Pce}(hx:Jok x)(hy:Pok y):L7 x y=true:=by unfold L7;rw[Id1 hx hy];rfl
def Cc4:List (Nat×Sum):=[(43,Hb3),(36,lc8),(67,Dd4),(40,Cd1)]
theorem ee9:C6 prog G Cc4:=⟨fc9,zc4,pe5,pe0,trivial⟩
structure sa2 where
 is7:Int
 bs8:Bool
 N7:Int
 E9:ByteArray
 (Wd0 Wd1:List Int)
 ge7:ByteArray
structure P9 where
 ph:Nat
 (is9 D6:Int)
 J6:List Int
 Z4:Int
 sa4:Nat
 eh4:List (List c7)
def Cc5(p:sa2)(s:P9):St:=⟨.unk::.unk::.ptr 0 0 0 0::.ptr 1 0 0 0::.unk::.ptr 2 0 0 0::.ptr 3 0 0 0::i p.is7::b p.bs8::i s.is9::i p.N7::i s.D6::ra 161 [],[bq 0 3 [[.v (.string p.E9),nlq,nlq]],bq 0 2 [[eL tI p.Wd0,eL tI p.Wd1]],bq 0 2 [[eL tI s.J6,i s.Z4]],bq 0 0 [[.v (.string p.ge7),nlq,nlq]]]⟩
def Cc6(p:sa2)(s:P9):St:=⟨.unk::.unk::.ptr 0 0 0 0::.ptr 1 0 0 0::.unk::.ptr 2 0 0 0::.ptr 3 0 0 0::i p.is7::b p.bs8::i s.is9::i p.N7::i s.D6::ra 161 [],[bq 0 3 [[.v (.string p.E9),nlq,nlq]],bq 0 2 [[eL tI p.Wd0,eL tI p.Wd1]],bq 0 2 [[eL tI s.J6,i s.Z4]],bq 0 0 [[.v (.string p.ge7),.sl 4 0 s.sa4 0,nlq]],bq 35 1 s.eh4]⟩
def Md7(p:sa2)(s:P9):St:=(sel (Nat.beq s.ph 1) (Cc6 p s) (Cc5 p s))
def la4{α:Type}(k:P9->α)(e:Nat->α)(z:α)(p:sa2)(s:P9):α:=let y1:=(rt tI s.J6);let t1:=(g9 ⟨4,y1,s.Z4⟩);let y0:=(W (s.is9+(W (1+t1.is0))));let t2:=(ta7 (⟨s.is9,0,0⟩:V3) (⟨y0,3,p.N7⟩:V3));let t3:=(ta7 (⟨s.is9,3,0⟩:V3) (⟨y0,6,p.N7⟩:V3));(sl (decide (s.D6<p.is7)) (sl ((cnE tI s.J6)&&true) (sl (Nat.beq t1.alt 1) (sl p.bs8 (k ⟨1,y0,W (s.D6+1),y1,t1.j5,2,[[(.tree 4 6 (λk=>g8 [[i 1,i 0,i 0,i t2.C3],[i (-1),i 0,i 0,i t2.Ya7],[i 0,i 1,i 0,i t2.Ya8],[i 0,i (-1),i 0,i t2.Ya9],[i 0,i 0,i 1,i t2.Za0],[i 0,i 0,i (-1),i t2.Za1]] (0+k)))],[(.tree 4 6 (λk=>g8 [[i 1,i 0,i 0,i t3.C3],[i (-1),i 0,i 0,i t3.Ya7],[i 0,i 1,i 0,i t3.Ya8],[i 0,i (-1),i 0,i t3.Ya9],[i 0,i 0,i 1,i t3.Za0],[i 0,i 0,i (-1),i t3.Za1]] (0+k)))]]⟩) (k ⟨1,y0,W (s.D6+1),y1,t1.j5,1,[[(.tree 4 6 (λk=>g8 [[i 1,i 0,i 0,i t2.C3],[i (-1),i 0,i 0,i t2.Ya7],[i 0,i 1,i 0,i t2.Ya8],[i 0,i (-1),i 0,i t2.Ya9],[i 0,i 0,i 1,i t2.Za0],[i 0,i 0,i (-1),i t2.Za1]] (0+k)))]]⟩)) z) z) (e 1))
def la5{α:Type}(k:P9->α)(e:Nat->α)(z:α)(p:sa2)(s:P9):α:=let y1:=(rt tI s.J6);let t1:=(g9 ⟨4,y1,s.Z4⟩);let y0:=(W (s.is9+(W (1+t1.is0))));let t2:=(ta7 (⟨s.is9,0,0⟩:V3) (⟨y0,3,p.N7⟩:V3));let t3:=(ta7 (⟨s.is9,3,0⟩:V3) (⟨y0,6,p.N7⟩:V3));(sl (decide (s.D6<p.is7)) (sl ((cnE tI s.J6)&&true) (sl (Nat.beq t1.alt 1) (sl (Nat.beq s.sa4 (len s.eh4)&&Nat.ble ((s.sa4+1)*24) room) (sl p.bs8 (sl (Nat.beq (s.sa4+1) (len (app s.eh4 [[(.tree 4 6 (λk=>g8 [[i 1,i 0,i 0,i t2.C3],[i (-1),i 0,i 0,i t2.Ya7],[i 0,i 1,i 0,i t2.Ya8],[i 0,i (-1),i 0,i t2.Ya9],[i 0,i 0,i 1,i t2.Za0],[i 0,i 0,i (-1),i t2.Za1]] (0+k)))]]))&&Nat.ble (((s.sa4+1)+1)*24) room) (k ⟨1,y0,W (s.D6+1),y1,t1.j5,(s.sa4+1)+1,(app (app s.eh4 [[(.tree 4 6 (λk=>g8 [[i 1,i 0,i 0,i t2.C3],[i (-1),i 0,i 0,i t2.Ya7],[i 0,i 1,i 0,i t2.Ya8],[i 0,i (-1),i 0,i t2.Ya9],[i 0,i 0,i 1,i t2.Za0],[i 0,i 0,i (-1),i t2.Za1]] (0+k)))]]) [[(.tree 4 6 (λk=>g8 [[i 1,i 0,i 0,i t3.C3],[i (-1),i 0,i 0,i t3.Ya7],[i 0,i 1,i 0,i t3.Ya8],[i 0,i (-1),i 0,i t3.Ya9],[i 0,i 0,i 1,i t3.Za0],[i 0,i 0,i (-1),i t3.Za1]] (0+k)))]])⟩) z) (k ⟨1,y0,W (s.D6+1),y1,t1.j5,s.sa4+1,(app s.eh4 [[(.tree 4 6 (λk=>g8 [[i 1,i 0,i 0,i t2.C3],[i (-1),i 0,i 0,i t2.Ya7],[i 0,i 1,i 0,i t2.Ya8],[i 0,i (-1),i 0,i t2.Ya9],[i 0,i 0,i 1,i t2.Za0],[i 0,i 0,i (-1),i t2.Za1]] (0+k)))]])⟩)) z) z) z) (e 2))
def da4(p:sa2)(s:P9):Stp P9:=(sel (Nat.beq s.ph 1) (la5 .next .exit .fail p s) (la4 .next .exit .fail p s))
def nc7:Lo sa2 P9:=⟨En Cc4,0,Qf7,[1,1,1,1,1,1,1,1,1,0,1,4,4],[2,3,5,6,7,8,9,10,11],.p,[⟨sUq::sUq::sPq 0::sPq 1::sUq::sPq 2::sPq 3::sIq::sBq::sIq::sIq::sIq::ru2 161 [],[⟨0,3,true,some [[.o .val,.o .nil,.o .nil]]⟩,⟨0,2,true,some [[.c 1 (nL tI),.c 1 (nL tI)]]⟩,⟨0,2,true,some [[.c 1 (nL tI),.o (.int .i64)]]⟩,⟨0,0,true,some [[.o .val,.o .nil,.o .nil]]⟩],λa H=>(⟨aIq a 7,aBq a 8,aIq a 10,da2 (slT (rwT (elT H 0) 0) 0),hLq tI H 1 0 0,hLq tI H 1 0 1,da2 (slT (rwT (elT H 3) 0) 0)⟩,⟨0,aIq a 9,aIq a 11,hLq tI H 2 0 0,hIq H 2 0 1,0,[]⟩)⟩,⟨sUq::sUq::sPq 0::sPq 1::sUq::sPq 2::sPq 3::sIq::sBq::sIq::sIq::sIq::ru2 161 [],[⟨0,3,true,some [[.o .val,.o .nil,.o .nil]]⟩,⟨0,2,true,some [[.c 1 (nL tI),.c 1 (nL tI)]]⟩,⟨0,2,true,some [[.c 1 (nL tI),.o (.int .i64)]]⟩,⟨0,0,true,some [[.o .val,.o (.sl 4 0 (some 0) none),.o .nil]]⟩,⟨35,1,true,none⟩],λa H=>(⟨aIq a 7,aBq a 8,aIq a 10,da2 (slT (rwT (elT H 0) 0) 0),hLq tI H 1 0 0,hLq tI H 1 0 1,da2 (slT (rwT (elT H 3) 0) 0)⟩,⟨1,aIq a 9,aIq a 11,hLq tI H 2 0 0,hIq H 2 0 1,slN (slT (rwT (elT H 3) 0) 1),elT H 4⟩)⟩],da4,[(some 2,λp s=>upq (Cc5 p s) [(56,i s.D6),(57,i p.is7),(58,b (decide (s.D6<p.is7)))]),(some 2,λp s=>upq (Cc6 p s) [(56,i s.D6),(57,i p.is7),(58,b (decide (s.D6<p.is7)))])],Md7⟩
theorem Md8:nc7.OkM:=Lo.okMq [] .nil λp s=>(.sel (Nat.beq s.ph 1) (.ofq @la5) (.ofq @la4))
structure T7 where
 (E9 Da8:ByteArray)
 Q1:Nat
structure E8 where
 ph:Nat
 Na0:Int
 J6:List Int
 Z4:Int
 eh3:List (List c7)
 Da9:Nat
 eh4:List (List c7)
def Cc7(p:T7)(s:E8):St:=⟨.unk::.unk::.ptr 0 0 0 0::ra 3 (.ptr 1 0 0 0::ra 10 (.ptr 2 0 0 0::i s.Na0::ra 154 [])),[bq 0 3 [[.v (.string p.E9),nlq,nlq]],bq 0 0 [[.v (.string p.Da8),nlq,nlq]],bq 0 2 [[eL tI s.J6,i s.Z4]]]⟩
def Cc8(p:T7)(s:E8):St:=⟨.unk::.unk::.ptr 0 0 0 0::ra 3 (.ptr 1 0 0 0::ra 10 (.ptr 2 0 0 0::i s.Na0::ra 154 [])),[bq 0 3 [[.v (.string p.E9),nlq,nlq]],bq 0 0 [[.v (.string p.Da8),.sl 3 0 p.Q1 0,nlq]],bq 0 2 [[eL tI s.J6,i s.Z4]],bq 35 1 s.eh3]⟩
def Cc9(p:T7)(s:E8):St:=⟨.unk::.unk::.ptr 0 0 0 0::ra 3 (.ptr 1 0 0 0::ra 10 (.ptr 2 0 0 0::i s.Na0::ra 154 [])),[bq 0 3 [[.v (.string p.E9),nlq,nlq]],bq 0 0 [[.v (.string p.Da8),.sl 3 0 p.Q1 0,.sl 4 0 s.Da9 0]],bq 0 2 [[eL tI s.J6,i s.Z4]],bq 35 1 s.eh3,bq 3 1 s.eh4]⟩
def Dc0(p:T7)(s:E8):St:=⟨.unk::.unk::.ptr 0 0 0 0::ra 3 (.ptr 1 0 0 0::ra 10 (.ptr 2 0 0 0::i s.Na0::ra 154 [])),[bq 0 3 [[.v (.string p.E9),nlq,nlq]],bq 0 0 [[.v (.string p.Da8),nlq,.sl 3 0 s.Da9 0]],bq 0 2 [[eL tI s.J6,i s.Z4]],bq 3 1 s.eh3]⟩
def Md9(p:T7)(s:E8):St:=(sel (Nat.beq s.ph 3) (Dc0 p s) (sel (Nat.beq s.ph 2) (Cc9 p s) (sel (Nat.beq s.ph 1) (Cc8 p s) (Cc7 p s))))
def Dc1{α:Type}(k:E8->α)(e:Nat->α)(z:α)(p:T7)(s:E8):α:=let t1:=(g9 ⟨4,rt tI s.J6,s.Z4⟩);let y0:=(g8 [[i 2],[i 1],[i 3],[i 2]] (0+t1.is0.toNat));(sl (decide (s.Na0<0)) (sl ((cnE tI s.J6)&&true) (sl (Nat.beq t1.alt 1) (sl (inB t1.is0 4) (sl ((Nat.ble 1 (len y0))&&(sa5 [CK.int .i64] y0)) (k ⟨3,W (s.Na0+1),rt tI s.J6,t1.j5,[[i (toI (hdA y0))]],1,[]⟩) z) z) z) z) (e 1))
def tb6{α:Type}(k:E8->α)(e:Nat->α)(z:α)(p:T7)(s:E8):α:=let t1:=(g9 ⟨4,rt tI s.J6,s.Z4⟩);let y0:=(g8 [[i 2],[i 1],[i 3],[i 2]] (0+t1.is0.toNat));(sl (decide (s.Na0<(↑p.Q1:Int))) (sl ((cnE tI s.J6)&&true) (sl (Nat.beq t1.alt 1) (sl (inB t1.is0 4) (sl ((Nat.ble 1 (len y0))&&(sa5 [CK.int .i64] y0)) (k ⟨2,W (s.Na0+1),rt tI s.J6,t1.j5,s.eh3,1,[[i (toI (hdA y0))]]⟩) z) z) z) z) (e 2))
def Ga7{α:Type}(k:E8->α)(e:Nat->α)(z:α)(p:T7)(s:E8):α:=let t1:=(g9 ⟨4,rt tI s.J6,s.Z4⟩);let y0:=(g8 [[i 2],[i 1],[i 3],[i 2]] (0+t1.is0.toNat));(sl (decide (s.Na0<(↑p.Q1:Int))) (sl ((cnE tI s.J6)&&true) (sl (Nat.beq t1.alt 1) (sl (inB t1.is0 4) (sl ((Nat.ble 1 (len y0))&&(sa5 [CK.int .i64] y0)) (sl (Nat.beq s.Da9 (len s.eh4)&&Nat.ble ((s.Da9+1)*8) room) (k ⟨2,W (s.Na0+1),rt tI s.J6,t1.j5,s.eh3,s.Da9+1,app s.eh4 [[i (toI (hdA y0))]]⟩) z) z) z) z) z) (e 3))
def Dc2{α:Type}(k:E8->α)(e:Nat->α)(z:α)(p:T7)(s:E8):α:=let t1:=(g9 ⟨4,rt tI s.J6,s.Z4⟩);let y0:=(g8 [[i 2],[i 1],[i 3],[i 2]] (0+t1.is0.toNat));(sl (decide (s.Na0<0)) (sl ((cnE tI s.J6)&&true) (sl (Nat.beq t1.alt 1) (sl (inB t1.is0 4) (sl ((Nat.ble 1 (len y0))&&(sa5 [CK.int .i64] y0)) (sl (Nat.beq s.Da9 (len s.eh3)&&Nat.ble ((s.Da9+1)*8) room) (k ⟨3,W (s.Na0+1),rt tI s.J6,t1.j5,app s.eh3 [[i (toI (hdA y0))]],s.Da9+1,[]⟩) z) z) z) z) z) (e 4))
def ka5(p:T7)(s:E8):Stp E8:=(sel (Nat.beq s.ph 3) (Dc2 .next .exit .fail p s) (sel (Nat.beq s.ph 2) (Ga7 .next .exit .fail p s) (sel (Nat.beq s.ph 1) (tb6 .next .exit .fail p s) (Dc1 .next .exit .fail p s))))
def nc8:Lo T7 E8:=⟨En Cc4,0,Qf7,[1,1,1,1,1,1,1,1,1,1,1,1,0,1,4,4],[2,6,17,18],.p,[⟨sUq::sUq::sPq 0::ru2 3 (sPq 1::ru2 10 (sPq 2::sIq::ru2 154 [])),[⟨0,3,true,some [[.o .val,.o .nil,.o .nil]]⟩,⟨0,0,true,some [[.o .val,.o .nil,.o .nil]]⟩,⟨0,2,true,some [[.c 1 (nL tI),.o (.int .i64)]]⟩],λa H=>(⟨da2 (slT (rwT (elT H 0) 0) 0),da2 (slT (rwT (elT H 1) 0) 0),0⟩,⟨0,aIq a 18,hLq tI H 2 0 0,hIq H 2 0 1,[],0,[]⟩)⟩,⟨sUq::sUq::sPq 0::ru2 3 (sPq 1::ru2 10 (sPq 2::sIq::ru2 154 [])),[⟨0,3,true,some [[.o .val,.o .nil,.o .nil]]⟩,⟨0,0,true,some [[.o .val,.o (.sl 3 0 (some 0) none),.o .nil]]⟩,⟨0,2,true,some [[.c 1 (nL tI),.o (.int .i64)]]⟩,⟨35,1,true,none⟩],λa H=>(⟨da2 (slT (rwT (elT H 0) 0) 0),da2 (slT (rwT (elT H 1) 0) 0),slN (slT (rwT (elT H 1) 0) 1)⟩,⟨1,aIq a 18,hLq tI H 2 0 0,hIq H 2 0 1,elT H 3,0,[]⟩)⟩,⟨sUq::sUq::sPq 0::ru2 3 (sPq 1::ru2 10 (sPq 2::sIq::ru2 154 [])),[⟨0,3,true,some [[.o .val,.o .nil,.o .nil]]⟩,⟨0,0,true,some [[.o .val,.o (.sl 3 0 (some 0) none),.o (.sl 4 0 (some 0) none)]]⟩,⟨0,2,true,some [[.c 1 (nL tI),.o (.int .i64)]]⟩,⟨35,1,true,none⟩,⟨3,1,true,none⟩],λa H=>(⟨da2 (slT (rwT (elT H 0) 0) 0),da2 (slT (rwT (elT H 1) 0) 0),slN (slT (rwT (elT H 1) 0) 1)⟩,⟨2,aIq a 18,hLq tI H 2 0 0,hIq H 2 0 1,elT H 3,slN (slT (rwT (elT H 1) 0) 2),elT H 4⟩)⟩,⟨sUq::sUq::sPq 0::ru2 3 (sPq 1::ru2 10 (sPq 2::sIq::ru2 154 [])),[⟨0,3,true,some [[.o .val,.o .nil,.o .nil]]⟩,⟨0,0,true,some [[.o .val,.o .nil,.o (.sl 3 0 (some 0) none)]]⟩,⟨0,2,true,some [[.c 1 (nL tI),.o (.int .i64)]]⟩,⟨3,1,true,none⟩],λa H=>(⟨da2 (slT (rwT (elT H 0) 0) 0),da2 (slT (rwT (elT H 1) 0) 0),0⟩,⟨3,aIq a 18,hLq tI H 2 0 0,hIq H 2 0 1,elT H 3,slN (slT (rwT (elT H 1) 0) 2),[]⟩)⟩],ka5,[(some 4,λp s=>upq (Cc7 p s) [(155,i s.Na0),(156,.ptr 1 0 1 0),(157,nlq),(158,i 0),(159,b (decide (s.Na0<0)))]),(some 4,λp s=>upq (Cc8 p s) [(155,i s.Na0),(156,.ptr 1 0 1 0),(157,.sl 3 0 p.Q1 0),(158,i (↑p.Q1:Int)),(159,b (decide (s.Na0<(↑p.Q1:Int))))]),(some 4,λp s=>upq (Cc9 p s) [(155,i s.Na0),(156,.ptr 1 0 1 0),(157,.sl 3 0 p.Q1 0),(158,i (↑p.Q1:Int)),(159,b (decide (s.Na0<(↑p.Q1:Int))))]),(some 4,λp s=>upq (Dc0 p s) [(155,i s.Na0),(156,.ptr 1 0 1 0),(157,nlq),(158,i 0),(159,b (decide (s.Na0<0)))])],Md9⟩
theorem Nd0:nc8.OkM:=Lo.okMq [] .nil λp s=>(.sel (Nat.beq s.ph 3) (.ofq @Dc2) (.sel (Nat.beq s.ph 2) (.ofq @Ga7) (.sel (Nat.beq s.ph 1) (.ofq @tb6) (.ofq @Dc1))))
def Oe9(x:L2)(t17:Nat×P9):ROq:=let y11:=((cnE tI t17.2.J6)&&true);let y10:=(rt tI (rt tI x.v));let y6:=(t17.2.sa4+1);let y5:=(rt tI t17.2.J6);let y3:=((.agg [(.v (.string ⟨#[112]⟩)),nlq,nlq]),[]);let t9:=(lp (ka5 (⟨⟨#[]⟩,⟨#[112]⟩,0⟩:T7)) (⟨0,0,y10,0,[],0,[]⟩:E8));let a4:=((cnE tI (rt tI x.v))&&true);let t18:=(g9 ⟨4,y5,t17.2.Z4⟩);let t27:=(lp (ka5 (⟨⟨#[]⟩,⟨#[112]⟩,t17.2.sa4⟩:T7)) (⟨1,0,y10,0,t17.2.eh4,0,[]⟩:E8));let a3:=(λk=>g8 t27.2.eh3 (0+k));let a8:=(λk=>g8 t9.2.eh3 (0+k));let a11:=(rt tI y5);let t19:=(g9 ⟨0,a11,t18.j5⟩);let t20:=(g9 ⟨4,rt tI a11,t19.j5⟩);let t21:=(g9 ⟨(↑t17.2.sa4:Int),a11,t18.j5⟩);let y7:=(inB t21.is0 t17.2.sa4);let t22:=(g9 ⟨4,rt tI a11,t21.j5⟩);let t23:=(Rb7 (⟨(⟨0,1,1⟩:V3),W (2+t22.is0)⟩:Pln));let a5:=(g8 t17.2.eh4 (0+t21.is0.toNat));let a0:=(B3 (toG (hdA (l9 a5 0))) (List.range (toN (hdA (l9 a5 0)))));let y8:=(Nat.beq 0 0&&Nat.ble ((0+(len a0))*32) room);let y2:=((0+(len a0))+1);let y4:=(Nat.beq (0+(len a0)) (len (app [] a0))&&Nat.ble (y2*32) room);let y1:=(app (app [] a0) [[i t23.n.x,i t23.n.y,i t23.n.z,i t23.b]]);let y0:=(app (app [] a0) [[i 0,i 1,i 1,i (W (2+t22.is0))]]);let t24:=(Qb4 (slR tP y0 0 y2));let t25:=(Qb4 (slR tP y1 0 y2));let t26:=(lp (ka5 (⟨⟨#[]⟩,⟨#[112]⟩,y6⟩:T7)) (⟨1,0,y10,0,(app (setAt t17.2.eh4 (0+t21.is0.toNat) (V6 a5 0 [(.tree 4 y2 (λk=>g8 y0 (0+k)))])) [[(.tree 4 y2 (λk=>g8 y1 (0+k)))]]),0,[]⟩:E8));let a9:=((Nat.blt (0+t21.is0.toNat) (len t17.2.eh4))&&(Nat.ble (0+1) (len a5)));let y9:=(a9&&(sa5 [CK.sl 4] (l9 a5 0)));let a14:=(λk=>g8 t27.2.eh4 (0+k));let w0:ROq:=(sl a4 (sl (Nat.beq t27.1 1) (some y3) (sl (Nat.beq t27.1 2) (some ((.agg [(.v (.string ⟨#[112]⟩)),.tree 1 t17.2.sa4 a3,nlq]),[])) (sl (Nat.beq t27.1 3) (some ((.agg [(.v (.string ⟨#[112]⟩)),.tree 1 t17.2.sa4 a3,.tree 1 t27.2.Da9 a14]),[])) (sl (Nat.beq t27.1 4) (some ((.agg [(.v (.string ⟨#[112]⟩)),nlq,.tree 1 t27.2.Da9 a3]),[])) none)))) none);(sl (Nat.beq t17.1 1) (sl y11 (sl (Nat.beq t18.alt 1) (sl (t18.is0==3) (sl ((cnE tI y5)&&true) (sl (Nat.beq t19.alt 1) (sl ((cnE tI a11)&&true) (sl (Nat.beq t20.alt 1) none none) none) none) none) (sl a4 (sl (Nat.beq t9.1 1) (some y3) (sl (Nat.beq t9.1 2) (some ((.agg [(.v (.string ⟨#[112]⟩)),.tree 1 0 a8,nlq]),[])) (sl (Nat.beq t9.1 3) (some ((.agg [(.v (.string ⟨#[112]⟩)),.tree 1 0 a8,(.tree 1 t9.2.Da9 (λk=>g8 t9.2.eh4 (0+k)))]),[])) (sl (Nat.beq t9.1 4) (some ((.agg [(.v (.string ⟨#[112]⟩)),nlq,.tree 1 t9.2.Da9 a8]),[])) none)))) none)) none) none) (sl (Nat.beq t17.1 2) (sl y11 (sl (Nat.beq t18.alt 1) (sl (t18.is0==3) (sl (decide ((↑t17.2.sa4:Int)<6)) (sl ((cnE tI y5)&&true) (sl (Nat.beq t21.alt 1) (sl ((cnE tI a11)&&true) (sl (Nat.beq t22.alt 1) (sl y7 (sl y9 (sl y8 (sl y4 (sl y7 (sl y9 (sl y8 (sl y4 (sl (okS tP y0 0 y2) (sl (Qb5 (slR tP y0 0 y2)) (sl t24 (sl (okS tP y1 0 y2) (sl (Qb5 (slR tP y1 0 y2)) (sl t25 (sl y7 (sl a9 (sl (Nat.beq t17.2.sa4 (len (setAt t17.2.eh4 (0+t21.is0.toNat) (V6 a5 0 [(.tree 4 y2 (λk=>g8 y0 (0+k)))])))&&Nat.ble (y6*24) room) (sl a4 (sl (Nat.beq t26.1 1) (some y3) (sl (Nat.beq t26.1 2) (some ((.agg [(.v (.string ⟨#[112]⟩)),(.tree 1 y6 (λk=>g8 t26.2.eh3 (0+k))),nlq]),[])) (sl (Nat.beq t26.1 3) (some ((.agg [(.v (.string ⟨#[112]⟩)),(.tree 1 y6 (λk=>g8 t26.2.eh3 (0+k))),(.tree 1 t26.2.Da9 (λk=>g8 t26.2.eh4 (0+k)))]),[])) (sl (Nat.beq t26.1 4) (some ((.agg [(.v (.string ⟨#[112]⟩)),nlq,(.tree 1 t26.2.Da9 (λk=>g8 t26.2.eh3 (0+k)))]),[])) none)))) none) none) none) none) w0) none) none) w0) none) none) none) none) none) none) none) none) none) none) none) none) none) none) w0) w0) none) none) none))
def Tb3(x:L2):ROq:=let y2:=(rt tI (rt tI x.u));let t1:=(g9 ⟨3,rt tI x.u,0⟩);let t2:=(g9 ⟨3,y2,t1.j5⟩);let a7:=(rt tI y2);let y1:=((cnE tI x.u)&&((cnE tI x.v)&&((cnE tI (rt tI a7))&&true)));let t3:=(g9 ⟨3,a7,t2.j5⟩);let t4:=(g9 ⟨3,rt tI a7,t3.j5⟩);let y0:=(⟨0,W ((-6)+t3.is0),0,rt tI (rt tI a7),t4.j5,0,[]⟩:P9);let t5:=(lp (da4 (⟨W (2+t1.is0),decide ((W (2+t1.is0))<4),W (2+t4.is0),⟨#[]⟩,rt tI x.u,rt tI x.v,⟨#[112]⟩⟩:sa2)) y0);let t17:=(lp (da4 (⟨W (2+t1.is0),false,W (2+t4.is0),⟨#[]⟩,rt tI x.u,rt tI x.v,⟨#[112]⟩⟩:sa2)) y0);(sl ((cnE tI x.u)&&true) (sl (Nat.beq t1.alt 1) (sl ((cnE tI (rt tI x.u))&&true) (sl (Nat.beq t2.alt 1) (sl (t2.is0==2) (sl ((cnE tI y2)&&true) (sl (Nat.beq t3.alt 1) (sl ((cnE tI a7)&&true) (sl (Nat.beq t4.alt 1) (sl y1 (Oe9 x t5) none) none) none) none) none) (sl ((cnE tI y2)&&true) (sl (Nat.beq t3.alt 1) (sl ((cnE tI a7)&&true) (sl (Nat.beq t4.alt 1) (sl y1 (Oe9 x t17) none) none) none) none) none)) none) none) none) none)
def yb8(x:L2):Prt:=aa3 (one r1J) (Tb3 x)
def Rc9(x:L2):Bool:=okO (one r1J) (Tb3 x)
def Id2:Sum:=ba7 c2L (λx=>.guard (Rc9 x) (.ret ((one r1J).enc (yb8 x),[])))
theorem ve7:l8 prog G 31 Id2:=dd5 (bd b31 ee9) (one r1J) (o:=Tb3) λx=>Bd4 (.s .p (.s .p (.s .p (.s .p (.s .p (.s .p (.s .p (.s .p (.s .p (.s (.s .p (.b (.u nc7.lsM))) (.s .p (.s .p (.s (.s .p (.b (.u nc8.lsM))) .p))))))))))))) [nc7.prM,nc8.prM] (.cons Md8 (.cons Nd0 .nil))
def od5:List (Nat×Sum):=[(43,Hb3),(36,lc8)]
theorem fe0:C6 prog G od5:=⟨fc9,zc4,trivial⟩
structure Aa6 where
 Ga9:List (List Int)
 E9:ByteArray
 i9:LPq
 m9:List Int
structure Q0 where
 ph:Nat
 is6:Int
 ns5:Nat
 eh1:List (List c7)
def Tb4(p:Aa6)(s:Q0):St:=⟨eL (tLs tI) p.Ga9::.unk::.unk::.ptr 0 0 0 0::.unk::nlq::i s.is6::ra 90 [],[bq 0 3 [[.v (.string p.E9),eL tLq p.i9,eL tI p.m9]]]⟩
def Tb5(p:Aa6)(s:Q0):St:=⟨eL (tLs tI) p.Ga9::.unk::.unk::.ptr 0 0 0 0::.unk::.sl 1 0 s.ns5 0::i s.is6::ra 90 [],[bq 0 3 [[.v (.string p.E9),eL tLq p.i9,eL tI p.m9]],bq 35 1 s.eh1]⟩
def Nd1(p:Aa6)(s:Q0):St:=(sel (Nat.beq s.ph 1) (Tb5 p s) (Tb4 p s))
def la6{α:Type}(k:Q0->α)(e:Nat->α)(z:α)(p:Aa6)(s:Q0):α:=let y2:=(gL (tLs tI) p.Ga9 s.is6.toNat);let a3:=(rt tI y2);let t1:=(g9 ⟨4,a3,0⟩);let t2:=(g9 ⟨(↑(List.length p.i9):Int),rt tI a3,t1.j5⟩);let y3:=(gL tLq p.i9 t2.is0.toNat);let a0:=(rt tI (rt tI a3));let y1:=(rt tI (rt tI a0));let t3:=(g9 ⟨2,a0,t2.j5⟩);let t4:=(g9 ⟨2,rt tI a0,t3.j5⟩);let t5:=(g9 ⟨14,y1,t4.j5⟩);let t12:=(g9 ⟨14,a0,t2.j5⟩);let t13:=(g9 ⟨3,rt tI a0,t12.j5⟩);let t14:=(g9 ⟨2,y1,t13.j5⟩);let a1:=(B3 (λk=>(tP).row (gL tP y3 k)) (List.range (List.length y3)));let a2:=(rt tI y1);let y0:=(rt tI (rt tI a2));let t6:=(g9 ⟨3,a2,t5.j5⟩);let t7:=(g9 ⟨2,rt tI a2,t6.j5⟩);let t8:=(g9 ⟨6,y0,t7.j5⟩);let t9:=(g9 ⟨6,rt tI y0,t8.j5⟩);let t10:=(g9 ⟨6,rt tI (rt tI y0),t9.j5⟩);let t11:=(ta7 (⟨W (t5.is0-7),W (t6.is0-1),W (t7.is0-1)⟩:V3) (⟨W ((W ((W (t5.is0-7))+1))+t8.is0),W ((W ((W (t6.is0-1))+2))+t9.is0),W ((W ((W (t7.is0-1))+2))+t10.is0)⟩:V3));let t15:=(g9 ⟨6,a2,t14.j5⟩);let t16:=(g9 ⟨6,rt tI a2,t15.j5⟩);let t17:=(g9 ⟨6,y0,t16.j5⟩);let t18:=(ta7 (⟨W (t12.is0-7),W (t13.is0-1),W (t14.is0-1)⟩:V3) (⟨W ((W ((W (t12.is0-7))+1))+t15.is0),W ((W ((W (t13.is0-1))+2))+t16.is0),W ((W ((W (t14.is0-1))+2))+t17.is0)⟩:V3));(sl (decide (s.is6<(↑(List.length p.Ga9):Int))) (sl (decide (s.is6<4)) (sl (inB s.is6 (List.length p.Ga9)) (sl ((cnE tI y2)&&true) (sl (Nat.beq t1.alt 1) (sl ((cnE tI a3)&&true) (sl (Nat.beq t2.alt 1) (sl (inB t2.is0 (List.length p.i9)) (sl (Nat.beq 0 0&&Nat.ble ((0+(len a1))*32) room) (sl (t1.is0==1) (sl ((cnE tI (rt tI a3))&&true) (sl (Nat.beq t3.alt 1) (sl ((cnE tI a0)&&true) (sl (Nat.beq t4.alt 1) (sl (Nat.beq (0+(len a1)) (len (app [] a1))&&Nat.ble (((0+(len a1))+1)*32) room) (sl (t1.is0==2) (sl ((cnE tI (rt tI a0))&&true) (sl (Nat.beq t5.alt 1) (sl ((cnE tI y1)&&true) (sl (Nat.beq t6.alt 1) (sl ((cnE tI a2)&&true) (sl (Nat.beq t7.alt 1) (sl ((cnE tI (rt tI a2))&&true) (sl (Nat.beq t8.alt 1) (sl ((cnE tI y0)&&true) (sl (Nat.beq t9.alt 1) (sl ((cnE tI (rt tI y0))&&true) (sl (Nat.beq t10.alt 1) (k ⟨1,W (s.is6+1),1,[[(.tree 4 6 (λk=>g8 [[i 1,i 0,i 0,i t11.C3],[i (-1),i 0,i 0,i t11.Ya7],[i 0,i 1,i 0,i t11.Ya8],[i 0,i (-1),i 0,i t11.Ya9],[i 0,i 0,i 1,i t11.Za0],[i 0,i 0,i (-1),i t11.Za1]] (0+k)))]]⟩) z) z) z) z) z) z) z) z) z) z) z) z) (k ⟨1,W (s.is6+1),1,[[(.tree 4 ((0+(len a1))+1) (λk=>g8 (app (app [] a1) [[i 0,i 0,i (W (1-(W (2*t3.is0)))),i (W ((W (1-(W (2*t3.is0))))*(W (1+t4.is0))))]]) (0+k)))]]⟩)) z) z) z) z) z) (sl (t1.is0==2) (sl ((cnE tI (rt tI a3))&&true) (sl (Nat.beq t12.alt 1) (sl ((cnE tI a0)&&true) (sl (Nat.beq t13.alt 1) (sl ((cnE tI (rt tI a0))&&true) (sl (Nat.beq t14.alt 1) (sl ((cnE tI y1)&&true) (sl (Nat.beq t15.alt 1) (sl ((cnE tI a2)&&true) (sl (Nat.beq t16.alt 1) (sl ((cnE tI (rt tI a2))&&true) (sl (Nat.beq t17.alt 1) (k ⟨1,W (s.is6+1),1,[[(.tree 4 6 (λk=>g8 [[i 1,i 0,i 0,i t18.C3],[i (-1),i 0,i 0,i t18.Ya7],[i 0,i 1,i 0,i t18.Ya8],[i 0,i (-1),i 0,i t18.Ya9],[i 0,i 0,i 1,i t18.Za0],[i 0,i 0,i (-1),i t18.Za1]] (0+k)))]]⟩) z) z) z) z) z) z) z) z) z) z) z) z) (k ⟨1,W (s.is6+1),1,[[(.tree 4 (0+(len a1)) (λk=>g8 (app [] a1) (0+k)))]]⟩))) z) z) z) z) z) z) z) (e 1)) (e 2))
def la7{α:Type}(k:Q0->α)(e:Nat->α)(z:α)(p:Aa6)(s:Q0):α:=let y2:=(gL (tLs tI) p.Ga9 s.is6.toNat);let a3:=(rt tI y2);let t1:=(g9 ⟨4,a3,0⟩);let t2:=(g9 ⟨(↑(List.length p.i9):Int),rt tI a3,t1.j5⟩);let y3:=(gL tLq p.i9 t2.is0.toNat);let a0:=(rt tI (rt tI a3));let y1:=(rt tI (rt tI a0));let t3:=(g9 ⟨2,a0,t2.j5⟩);let t4:=(g9 ⟨2,rt tI a0,t3.j5⟩);let t5:=(g9 ⟨14,y1,t4.j5⟩);let t12:=(g9 ⟨14,a0,t2.j5⟩);let t13:=(g9 ⟨3,rt tI a0,t12.j5⟩);let t14:=(g9 ⟨2,y1,t13.j5⟩);let a1:=(B3 (λk=>(tP).row (gL tP y3 k)) (List.range (List.length y3)));let a2:=(rt tI y1);let y0:=(rt tI (rt tI a2));let t6:=(g9 ⟨3,a2,t5.j5⟩);let t7:=(g9 ⟨2,rt tI a2,t6.j5⟩);let t8:=(g9 ⟨6,y0,t7.j5⟩);let t9:=(g9 ⟨6,rt tI y0,t8.j5⟩);let t10:=(g9 ⟨6,rt tI (rt tI y0),t9.j5⟩);let t11:=(ta7 (⟨W (t5.is0-7),W (t6.is0-1),W (t7.is0-1)⟩:V3) (⟨W ((W ((W (t5.is0-7))+1))+t8.is0),W ((W ((W (t6.is0-1))+2))+t9.is0),W ((W ((W (t7.is0-1))+2))+t10.is0)⟩:V3));let t15:=(g9 ⟨6,a2,t14.j5⟩);let t16:=(g9 ⟨6,rt tI a2,t15.j5⟩);let t17:=(g9 ⟨6,y0,t16.j5⟩);let t18:=(ta7 (⟨W (t12.is0-7),W (t13.is0-1),W (t14.is0-1)⟩:V3) (⟨W ((W ((W (t12.is0-7))+1))+t15.is0),W ((W ((W (t13.is0-1))+2))+t16.is0),W ((W ((W (t14.is0-1))+2))+t17.is0)⟩:V3));let a4:=(Nat.beq s.ns5 (len s.eh1)&&Nat.ble ((s.ns5+1)*24) room);(sl (decide (s.is6<(↑(List.length p.Ga9):Int))) (sl (decide (s.is6<4)) (sl (inB s.is6 (List.length p.Ga9)) (sl ((cnE tI y2)&&true) (sl (Nat.beq t1.alt 1) (sl ((cnE tI a3)&&true) (sl (Nat.beq t2.alt 1) (sl (inB t2.is0 (List.length p.i9)) (sl (Nat.beq 0 0&&Nat.ble ((0+(len a1))*32) room) (sl (t1.is0==1) (sl ((cnE tI (rt tI a3))&&true) (sl (Nat.beq t3.alt 1) (sl ((cnE tI a0)&&true) (sl (Nat.beq t4.alt 1) (sl (Nat.beq (0+(len a1)) (len (app [] a1))&&Nat.ble (((0+(len a1))+1)*32) room) (sl (t1.is0==2) (sl ((cnE tI (rt tI a0))&&true) (sl (Nat.beq t5.alt 1) (sl ((cnE tI y1)&&true) (sl (Nat.beq t6.alt 1) (sl ((cnE tI a2)&&true) (sl (Nat.beq t7.alt 1) (sl ((cnE tI (rt tI a2))&&true) (sl (Nat.beq t8.alt 1) (sl ((cnE tI y0)&&true) (sl (Nat.beq t9.alt 1) (sl ((cnE tI (rt tI y0))&&true) (sl (Nat.beq t10.alt 1) (sl a4 (k ⟨1,W (s.is6+1),s.ns5+1,(app s.eh1 [[(.tree 4 6 (λk=>g8 [[i 1,i 0,i 0,i t11.C3],[i (-1),i 0,i 0,i t11.Ya7],[i 0,i 1,i 0,i t11.Ya8],[i 0,i (-1),i 0,i t11.Ya9],[i 0,i 0,i 1,i t11.Za0],[i 0,i 0,i (-1),i t11.Za1]] (0+k)))]])⟩) z) z) z) z) z) z) z) z) z) z) z) z) z) (sl a4 (k ⟨1,W (s.is6+1),s.ns5+1,(app s.eh1 [[(.tree 4 ((0+(len a1))+1) (λk=>g8 (app (app [] a1) [[i 0,i 0,i (W (1-(W (2*t3.is0)))),i (W ((W (1-(W (2*t3.is0))))*(W (1+t4.is0))))]]) (0+k)))]])⟩) z)) z) z) z) z) z) (sl (t1.is0==2) (sl ((cnE tI (rt tI a3))&&true) (sl (Nat.beq t12.alt 1) (sl ((cnE tI a0)&&true) (sl (Nat.beq t13.alt 1) (sl ((cnE tI (rt tI a0))&&true) (sl (Nat.beq t14.alt 1) (sl ((cnE tI y1)&&true) (sl (Nat.beq t15.alt 1) (sl ((cnE tI a2)&&true) (sl (Nat.beq t16.alt 1) (sl ((cnE tI (rt tI a2))&&true) (sl (Nat.beq t17.alt 1) (sl a4 (k ⟨1,W (s.is6+1),s.ns5+1,(app s.eh1 [[(.tree 4 6 (λk=>g8 [[i 1,i 0,i 0,i t18.C3],[i (-1),i 0,i 0,i t18.Ya7],[i 0,i 1,i 0,i t18.Ya8],[i 0,i (-1),i 0,i t18.Ya9],[i 0,i 0,i 1,i t18.Za0],[i 0,i 0,i (-1),i t18.Za1]] (0+k)))]])⟩) z) z) z) z) z) z) z) z) z) z) z) z) z) (sl a4 (k ⟨1,W (s.is6+1),s.ns5+1,(app s.eh1 [[(.tree 4 (0+(len a1)) (λk=>g8 (app [] a1) (0+k)))]])⟩) z))) z) z) z) z) z) z) z) (e 3)) (e 4))
def fb6(p:Aa6)(s:Q0):Stp Q0:=(sel (Nat.beq s.ph 1) (la7 .next .exit .fail p s) (la6 .next .exit .fail p s))
def nc9:Lo Aa6 Q0:=⟨En od5,0,Zf8,[1,1,0,1,4,4],[0,3,5,6],.p,[⟨.s (.c 1 (nL (tLs tI)))::sUq::sUq::sPq 0::sUq::.s (.o .nil)::sIq::ru2 90 [],[⟨0,3,true,some [[.o .val,.c 1 (nL tLq),.c 1 (nL tI)]]⟩],λa H=>(⟨aLq (tLs tI) a 0,da2 (slT (rwT (elT H 0) 0) 0),hLq tLq H 0 0 1,hLq tI H 0 0 2⟩,⟨0,aIq a 6,0,[]⟩)⟩,⟨.s (.c 1 (nL (tLs tI)))::sUq::sUq::sPq 0::sUq::.s (.o (.sl 1 0 (some 0) none))::sIq::ru2 90 [],[⟨0,3,true,some [[.o .val,.c 1 (nL tLq),.c 1 (nL tI)]]⟩,⟨35,1,true,none⟩],λa H=>(⟨aLq (tLs tI) a 0,da2 (slT (rwT (elT H 0) 0) 0),hLq tLq H 0 0 1,hLq tI H 0 0 2⟩,⟨1,aIq a 6,slN (slT a 5),elT H 1⟩)⟩],fb6,[(some 0,λp s=>upq (Tb4 p s) [(12,i s.is6),(13,eL (tLs tI) p.Ga9),(14,i (↑(List.length p.Ga9):Int)),(15,b (decide (s.is6<(↑(List.length p.Ga9):Int)))),(16,b true),(17,i s.is6),(18,b (decide (s.is6<4))),(19,b (decide (s.is6<4)))]),(some 0,λp s=>upq (Tb4 p s) [(12,i s.is6),(13,eL (tLs tI) p.Ga9),(14,i (↑(List.length p.Ga9):Int)),(15,b (decide (s.is6<(↑(List.length p.Ga9):Int)))),(16,b false),(17,u),(18,u),(19,b false)]),(some 0,λp s=>upq (Tb5 p s) [(12,i s.is6),(13,eL (tLs tI) p.Ga9),(14,i (↑(List.length p.Ga9):Int)),(15,b (decide (s.is6<(↑(List.length p.Ga9):Int)))),(16,b true),(17,i s.is6),(18,b (decide (s.is6<4))),(19,b (decide (s.is6<4)))]),(some 0,λp s=>upq (Tb5 p s) [(12,i s.is6),(13,eL (tLs tI) p.Ga9),(14,i (↑(List.length p.Ga9):Int)),(15,b (decide (s.is6<(↑(List.length p.Ga9):Int)))),(16,b false),(17,u),(18,u),(19,b false)])],Nd1⟩
theorem Nd2:nc9.Ok:=Lo.okq [] .nil λp s=>(.sel (Nat.beq s.ph 1) (.ofq @la7) (.ofq @la6))
def Tb6(x:List (List Int))(y:Prt):ROq:=let t1:=(lp (fb6 (⟨rt (tLs tI) x,y.nm,rt tLq y.cl,rt tI y.wt⟩:Aa6)) (⟨0,0,0,[]⟩:Q0));let y0:=(.sl 0 0 t1.2.ns5 0,[bq 35 1 t1.2.eh1]);(sl ((cnE (tLs tI) x)&&((cnE tLq y.cl)&&((cnE tI y.wt)&&true))) (sl (Nat.beq t1.1 1) (some (nlq,[])) (sl (Nat.beq t1.1 2) (some (nlq,[])) (sl (Nat.beq t1.1 3) (some y0) (sl (Nat.beq t1.1 4) (some y0) none)))) none)
def ba4(x:List (List Int))(y:Prt):LPq:=aa3 (one (r1L tLq)) (Tb6 x y)
def yb9(x:List (List Int))(y:Prt):Bool:=okO (one (r1L tLq)) (Tb6 x y)
def Id3:Sum:=va4 (pa5 (tLs tI)) cJ (λx y=>.guard (yb9 x y) (.ret ((one (r1L tLq)).enc (ba4 x y),[])))
theorem ve8:l8 prog G 17 Id3:=pd9 (bd b17 fe0) (one (r1L tLq)) (o:=Tb6) λx y=>da5 (.s .p (.s .p (.s (.s .p (.b (.u nc9.ls))) .p))) [nc9.pr] (.cons Nd2 .nil)
structure Mf3 where
 (G3 j5 G4:Int)
 (Da8 Hf5:ByteArray)
structure ve9 where
 ph:Nat
 is7:Int
 Pe9:Nat
 eh3:List (List c7)
 Qe0:Nat
 eh4:List (List c7)
structure Ze1 where
 (G3 j5 G4:Int)
 (K9 Qe0:Nat)
 (eh3 eh4:List (List c7))
structure Ze2 where
 (ph Pe9:Nat)
 eh5:List (List c7)
def fe1:List (Nat×Sum):=[(36,lc8)]
theorem Nd3:C6 prog G fe1:=⟨zc4,trivial⟩
def Dc3(x:Int)(y:Int):ROq:=let t1:=(ta7 (⟨x,0,0⟩:V3) (⟨y,2,2⟩:V3));(some (.sl 0 0 6 0,[bq 66 4 [[i 1,i 0,i 0,i t1.C3],[i (-1),i 0,i 0,i t1.Ya7],[i 0,i 1,i 0,i t1.Ya8],[i 0,i (-1),i 0,i t1.Ya9],[i 0,i 0,i 1,i t1.Za0],[i 0,i 0,i (-1),i t1.Za1]]]))
def ca4(x:Int)(y:Int):PLq:=aa3 (one (r1L tP)) (Dc3 x y)
def Z3(x:Int)(y:Int):Bool:=okO (one (r1L tP)) (Dc3 x y)
def od6:Sum:=va4 cI cI (λx y=>.guard (Z3 x y) (.ret ((one (r1L tP)).enc (ca4 x y),[])))
theorem fe2:l8 prog G 32 od6:=xc8 (bd b32 Nd3) (one (r1L tP)) (o:=Dc3)
structure tb7 where
 vs2:ByteArray
 Xf4:Int
 (L8 O1:List Bool)
 M8:LPq
structure sa3 where
 uc2:Int
def Mc8(p:tb7)(s:sa3):St:=⟨.unk::.unk::.v (.string p.vs2)::.ptr 0 0 0 0::ra 24 (i p.Xf4::i s.uc2::ra 25 []),[bq 0 3 [[eL tB p.L8,eL tB p.O1,eL tLq p.M8]]]⟩
def tb8{α:Type}(k:sa3->α)(e:Nat->α)(z:α)(p:tb7)(s:sa3):α:=let y0:=(inB s.uc2 (ByteArray.size p.vs2));(sl (decide (s.uc2<p.Xf4)) (sl (inB s.uc2 (List.length p.L8)) (sl y0 (sl (!((gL tB p.L8 s.uc2.toNat)==((sAt p.vs2 s.uc2)==115))) (e 1) (sl (inB s.uc2 (List.length p.O1)) (sl y0 (sl (!((gL tB p.O1 s.uc2.toNat)==((sAt p.vs2 s.uc2) != 46))) (e 1) (k ⟨W (s.uc2+1)⟩)) z) z)) z) z) (e 2))
def fb7(p:tb7)(s:sa3):Stp sa3:=tb8 .next .exit .fail p s
def oc0:Lo tb7 sa3:=⟨En tbN,0,ag1,[1,1,0,1,4,4],[2,3,28,29],.p,[⟨sUq::sUq::.s (.o .val)::sPq 0::ru2 24 (sIq::sIq::ru2 25 []),[⟨0,3,true,some [[.c 1 (nL tB),.c 1 (nL tB),.c 1 (nL tLq)]]⟩],λa H=>(⟨da2 (slT a 2),aIq a 28,hLq tB H 0 0 0,hLq tB H 0 0 1,hLq tLq H 0 0 2⟩,⟨aIq a 29⟩)⟩],fb7,[(none,λp s=>⟨[b false],[]⟩),(some 0,λp s=>upq (Mc8 p s) [(30,b (decide (s.uc2<p.Xf4)))])],Mc8⟩
theorem Nd4:oc0.Ok:=Lo.okq [] .nil λp s=>(.ofq @tb8)
def Tb7(x:Pce)(y:Int)(z:ByteArray):ROq:=let t1:=(lp (fb7 (⟨z,(↑(List.length x.su):Int),rt tB x.su,rt tB x.to,rt tLq x.cu⟩:tb7)) (⟨0⟩:sa3));(sl (y != 0) (some (b false,[])) (sl ((↑(List.length x.su):Int) != (↑(ByteArray.size z):Int)) (some (b false,[])) (sl ((↑(List.length x.to):Int) != (↑(ByteArray.size z):Int)) (some (b false,[])) (sl ((cnE tB x.su)&&((cnE tB x.to)&&((cnE tLq x.cu)&&true))) (sl (Nat.beq t1.1 1) (some (b false,[])) (sl (Nat.beq t1.1 2) (some (b true,[])) none)) none))))
def Wa9(x:Pce)(y:Int)(z:ByteArray):Bool:=aa3 (one r1B) (Tb7 x y z)
def Xa0(x:Pce)(y:Int)(z:ByteArray):Bool:=okO (one r1B) (Tb7 x y z)
def Id4:Sum:=Jd5 cO cI cG (λx y z=>.guard (Xa0 x y z) (.ret ((one r1B).enc (Wa9 x y z),[])))
theorem we0:l8 prog G 33 Id4:=Yf7 (bd b33 Aa9) (one r1B) (o:=Tb7) λx y z=>da5 (.s .p (.s .p (.s (.s .p (.b (.u oc0.ls))) .p))) [oc0.pr] (.cons Nd4 .nil)
def Sc0:List (Nat×Sum):=[(31,Id2)]
theorem Jc7:C6 prog G Sc0:=⟨ve7,trivial⟩
def Aa7(x:Cse):ROq:=let y0:=(⟨rt tI x.p0,rt tI x.p1⟩:L2);let t1:=(yb8 y0);(sl ((okE tI x.p0)&&((okE tI x.p1)&&true)) (sl (Rc9 y0) (some (.agg [.v (.string t1.nm),eL tLq t1.cl,eL tI t1.wt],[])) none) none)
def tb9(x:Cse):Prt:=aa3 (one r1J) (Aa7 x)
def ub0(x:Cse):Bool:=okO (one r1J) (Aa7 x)
def Yb7:Sum:=ba7 cF (λx=>.guard (ub0 x) (.ret ((one r1J).enc (tb9 x),[])))
theorem Sc1:l8 prog G 10 Yb7:=cb9 (bd b10 Jc7) (one r1J) (o:=Aa7)
def Eb4(x:List (List Int)):ROq:=let y0:=(↑(List.length x):Int);(sl (inB (if 3<y0 then 3 else y0) ((List.length x)+1)) (some ((.tree 1 ((if 3<y0 then 3 else y0).toNat-0) (λk=>(λk=>(tLs tI).row (gL (tLs tI) x k)) (0+k))),[])) none)
def lb1(x:List (List Int)):List (List Int):=aa3 (one (r1L (tLs tI))) (Eb4 x)
def lb2(x:List (List Int)):Bool:=okO (one (r1L (tLs tI))) (Eb4 x)
def od7:Sum:=ba7 (pa5 (tLs tI)) (λx=>.guard (lb2 x) (.ret ((one (r1L (tLs tI))).enc (lb1 x),[])))
theorem fe3:l8 prog G 18 od7:=cb9 (bd b18 Aa9) (one (r1L (tLs tI))) (o:=Eb4)
def sd6:List (Nat×Sum):=[(32,od6),(12,cc5),(15,Ac8),(19,cc7),(33,Id4),(22,Jb2),(25,bd5),(24,Bc4)]
theorem kd2:C6 prog G sd6:=⟨fe2,Ac7,Zc6,Cc0,we0,hc8,Md6,sd3,trivial⟩
def Xa1  : ROq:=let y18:=(Z3 1 4);let y17:=(Z3 3 5);let t1:=(ca4 0 2);let y14:=(⟨⟨#[]⟩,[rt tP t1,rt tP t1],[1,2]⟩:Prt);let t2:=(ca4 2 4);let y10:=((okE tP t2)&&true);let t3:=(ca4 4 6);let y12:=((okE tP t1)&&((okE tP t2)&&((okE tP t3)&&true)));let y8:=(⟨⟨#[]⟩,[rt tP t1,rt tP t2,rt tP t3],[1,2]⟩:Prt);let y0:=(⟨⟨#[]⟩,[rt tP t1,rt tP t2,rt tP t3],[1,2,3]⟩:Prt);let t4:=(Ca2 y0);let t5:=(Ca2 y8);let t6:=(Ca2 y14);let t7:=(Db5 y0);let y1:=(⟨rt tB t7.su,rt tB t7.to,rt tLq t7.cu⟩:Pce);let y24:=(Xa0 y1 0 ⟨#[46,46,46]⟩);let t8:=(ca4 3 5);let y16:=(ta0 y0 y1 [rt tP t2] [rt tP t8]);let y11:=((okE tP t8)&&true);let t9:=(sa9 y0 y1 [rt tP t2] [rt tP t8]);let y4:=(⟨rt tB t9.1.su,rt tB t9.1.to,rt tLq t9.1.cu⟩:Pce);let y23:=(Xa0 y4 t9.2 ⟨#[46,115,116]⟩);let t10:=(ca4 2 3);let y13:=(ta0 y0 y1 [rt tP t10,rt tP t8] []);let t11:=(sa9 y0 y1 [rt tP t10,rt tP t8] []);let y5:=(⟨rt tB t11.1.su,rt tB t11.1.to,rt tLq t11.1.cu⟩:Pce);let y21:=(Xa0 y5 t11.2 ⟨#[46,115,116]⟩);let t12:=(ca4 1 4);let y22:=(ta0 y0 y1 [rt tP t12] []);let y15:=(ta0 y0 y1 [rt tP t2] [rt tP t12]);let y9:=((okE tP t12)&&true);let t13:=(sa9 y0 y1 [rt tP t2] [rt tP t12]);let y2:=(⟨rt tB t13.1.su,rt tB t13.1.to,rt tLq t13.1.cu⟩:Pce);let y19:=(L7 y0 y2);let y6:=(Xa0 y2 t13.2 ⟨#[116,115,46]⟩);let t14:=(sa9 y0 y1 [rt tP t12] []);let y3:=(⟨rt tB t14.1.su,rt tB t14.1.to,rt tLq t14.1.cu⟩:Pce);let y20:=(L7 y0 y3);let y7:=(Xa0 y3 t14.2 ⟨#[116,115,46]⟩);let t15:=(Wa9 y1 0 ⟨#[46,46,46]⟩);let t16:=(ba0 y0 y1);let t17:=(Wa9 y4 t9.2 ⟨#[46,115,116]⟩);let t18:=(ba0 y0 y4);let t19:=(Wa9 y5 t11.2 ⟨#[46,115,116]⟩);let t20:=(ba0 y0 y5);let t21:=(Wa9 y2 t13.2 ⟨#[116,115,46]⟩);let t22:=(ba0 y0 y2);let t23:=(Wa9 y3 t14.2 ⟨#[116,115,46]⟩);let t24:=(ba0 y0 y3);let t25:=(Nb1 y0 y1);let t26:=(Va5 (rt tLq t25) [rt tP t1,rt tP t2,rt tP t3]);let t27:=(Nb1 y0 y4);let t28:=(Va5 (rt tLq t27) [rt tP t1,rt tP t3]);let a0:=(y12&&(true&&true));let a1:=((okE tB t13.1.su)&&((okE tB t13.1.to)&&((okE tLq t13.1.cu)&&true)));let a2:=((okE tB t14.1.su)&&((okE tB t14.1.to)&&((okE tLq t14.1.cu)&&true)));let a3:=((okE tB t7.su)&&((okE tB t7.to)&&((okE tLq t7.cu)&&true)));let a4:=((okE tB t9.1.su)&&((okE tB t9.1.to)&&((okE tLq t9.1.cu)&&true)));let a5:=((okE tB t11.1.su)&&((okE tB t11.1.to)&&((okE tLq t11.1.cu)&&true)));let w0:ROq:=(sl a1 (sl y6 (sl t21 (sl a0 (sl a1 (sl y19 (sl (t22==30) (sl a2 (sl y7 (sl t23 (sl a0 (sl a2 (sl y20 (some (b false,[])) none) none) none) (some (b false,[]))) none) none) (some (b false,[]))) none) none) none) (some (b false,[]))) none) none);let w1:ROq:=(sl a1 (sl y6 (sl t21 (sl a0 (sl a1 (sl y19 (sl (t22==30) (sl a2 (sl y7 (sl t23 (sl a0 (sl a2 (sl y20 (sl (t6==13) (some (b false,[])) (some (b false,[]))) none) none) none) (sl (t6==13) (some (b false,[])) (some (b false,[])))) none) none) (sl (t6==13) (some (b false,[])) (some (b false,[])))) none) none) none) (sl (t6==13) (some (b false,[])) (some (b false,[])))) none) none);let w2:ROq:=(sl a0 (sl (kb5 y0) (sl y17 (sl a0 (sl a3 (sl y10 (sl y11 (sl y16 (sl (Z3 2 3) (sl y17 (sl a0 (sl a3 (sl ((okE tP t10)&&y11) (sl y13 (sl y18 (sl a0 (sl a3 (sl y10 (sl y9 (sl y15 (sl y18 (sl a0 (sl a3 (sl y9 (sl y22 (sl a3 (sl y24 (sl t15 (sl a0 (sl a3 (sl (L7 y0 y1) (sl (t16==34) (sl a4 (sl y23 (sl t17 (sl a0 (sl a4 (sl (L7 y0 y4) (sl (t18==0) (sl a5 (sl y21 (sl t19 (sl ((↑(List.length t11.1.cu):Int)==2) (sl a0 (sl a5 (sl (L7 y0 y5) w0 none) none) none) w0) w0) none) none) w0) none) none) none) w0) none) none) w0) none) none) none) w0) none) none) none) none) none) none) none) none) none) none) none) none) none) none) none) none) none) none) none) none) none) none) none) none) none) none) none);let w3:ROq:=(sl (t6==13) (sl (t20==0) (some (b false,[])) (some (b false,[]))) (some (b false,[])));(sl (Z3 0 2) (sl (Z3 2 4) (sl (Z3 4 6) (sl a0 (sl (Ca3 y0) (sl (t4==0) (sl a0 (sl (Ca3 y8) (sl (t5==1) (sl (((okE tP t1)&&((okE tP t1)&&true))&&(true&&true)) (sl (Ca3 y14) (sl a0 (sl (kb5 y0) (sl y17 (sl a0 (sl a3 (sl y10 (sl y11 (sl y16 (sl (Z3 2 3) (sl y17 (sl a0 (sl a3 (sl ((okE tP t10)&&y11) (sl y13 (sl y18 (sl a0 (sl a3 (sl y10 (sl y9 (sl y15 (sl y18 (sl a0 (sl a3 (sl y9 (sl y22 (sl a3 (sl y24 (sl t15 (sl a0 (sl a3 (sl (L7 y0 y1) (sl (t16==34) (sl a4 (sl y23 (sl t17 (sl a0 (sl a4 (sl (L7 y0 y4) (sl (t18==0) (sl a5 (sl y21 (sl t19 (sl ((↑(List.length t11.1.cu):Int)==2) (sl a0 (sl a5 (sl (L7 y0 y5) (sl a1 (sl y6 (sl t21 (sl a0 (sl a1 (sl y19 (sl (t22==30) (sl a2 (sl y7 (sl t23 (sl a0 (sl a2 (sl y20 (sl (t6==13) (sl (t20==0) (sl (t24==35) (sl a0 (sl a3 (sl (Nb2 y0 y1) (sl (okE tLq t25) (sl y12 (sl (Va6 (rt tLq t25) [rt tP t1,rt tP t2,rt tP t3]) (sl t26 (sl a0 (sl a4 (sl (Nb2 y0 y4) (sl (okE tLq t27) (sl ((okE tP t1)&&((okE tP t3)&&true)) (sl (Va6 (rt tLq t27) [rt tP t1,rt tP t3]) (some (b t28,[])) none) none) none) none) none) none) (some (b false,[]))) none) none) none) none) none) none) (some (b false,[]))) (some (b false,[]))) (some (b false,[]))) none) none) none) w3) none) none) w3) none) none) none) w3) none) none) none) none) none) w1) w1) none) none) w1) none) none) none) w1) none) none) w1) none) none) none) w1) none) none) none) none) none) none) none) none) none) none) none) none) none) none) none) none) none) none) none) none) none) none) none) none) none) none) none) none) none) w2) none) none) w2) none) none) none) none) none)
def ub1  : Bool:=aa3 (one r1B) Xa1
def ub2  : Bool:=okO (one r1B) Xa1
def Dc4:Sum:=Ae3  (.guard ub2 (.ret ((one r1B).enc ub1,[])))
theorem sd7:l8 prog G 9 Dc4:=hg3 (bd b9 kd2) (one r1B) (o:=Xa1) (va5 (by kernel_rfl))
def bd8(x:PLq)(y:LPq):LPq×Int :=
 if chk x != 0 then ([],chk x) else if schk y != 0 then ([],schk y) else match Fe1 Oe0 x y with
  |some r=>(r,0)
  |none=>([],9)
theorem rf5:tb0=bd8:=by
 funext x y;unfold tb0 bd8;rw[Xe9]<;>rfl
def fe4(x:LPq)(y:PLq):Bool×Int:=((bd8 y x).2==0&&((bd8 y x).1.length:Int)==0,(bd8 y x).2)
theorem Ze3:R3=fe4:=by
 funext x y;unfold R3 fe4;rw[rf5]
def suG(C cl:LPq)(su:List Bool)(j:Nat):Bool×Int:=if gL tB su j=true then (true,0) else fe4 (D7 C (gL tLq cl j)) (gL tLq cl j)
theorem fg9:suJ=suG:=by
 funext C cl su j;unfold suJ suG;rw[Ze3]
def Mf4(z w cl C:LPq)(su to:List Bool):Pce×Int :=
 match (List.range cl.length).find? λj=>(suG C cl su j).2 != 0 with
 |some j=>(Mc7,(suG C cl su j).2)
 |none=>(⟨(List.range cl.length).map λk=>(suG C cl su k).1,(List.range cl.length).map (toJ z w cl to),C⟩,0)
def rf6(x:Prt)(y:Pce)(z w:LPq):Pce×Int :=
 if (Nb0 x y != 0)=true then (Mc7,Nb0 x y) else if (Bc5 (z++w) != 0)=true then (Mc7,Bc5 (z++w)) else if (y.cu.length:Int)+(z.length:Int)>24 then (Mc7,2)
 else Mf4 z w x.cl (y.cu++z) y.su y.to
theorem bd9:Wa1=rf6:=by
 funext x y z w;unfold Wa1 rf6 bd2 Mf4;rw[fg9]<;>rfl
def isC(x:Pce)(z:ByteArray)(j:Nat):Bool:=!(gL tB x.su j==(sAt z (j:Int)==115))||!(gL tB x.to j==(sAt z (j:Int) != 46))
theorem gg0{x:Pce}{z:ByteArray}(h1:x.su.length=z.size)(h2:x.to.length=z.size)(hz:z.size<=1000000):Tb7 x 0 z=some (b (!(List.range z.size).any (isC x z)),[]):=by
 obtain⟨k,hk⟩:=Gd3 (step:=fb7 ⟨z,(x.su.length:Int),x.su,x.to,x.cu⟩) (mk:=λj=>(⟨(j:Int)⟩:sa3)) x.su.length (isC x z) 1 2 (by omega)
  (λj hj=>by
   simp only[fb7,tb8,Int.toNat_natCast,D0 hj (show x.su.length<=4611686018427387904 by omega),isC]
   rw[btD (s8 hj),bt (j9 hj),bt (j9 (show j<z.size by omega)),bt (j9 (show j<x.to.length by omega)),bt (j9 (show j<z.size by omega))]
   cases gL tB x.su j==(sAt z (j:Int)==115)<;>cases gL tB x.to j==(sAt z (j:Int) != 46)<;>rfl)
  (by simp only[fb7,tb8];rw[bfD (E2 (Qid _))])
 unfold Tb7;simp only[j8,o7,Qka,i6];rw[show (⟨0⟩:sa3)=⟨((0:Nat):Int)⟩ from rfl,hk,h1,h2]
 rw[show ((0:Int) != 0)=false from rfl,show (((z.size:Nat):Int) != (z.size:Int))=false by simp]
 simp only[A6];cases (List.range z.size).any (isC x z)<;>rfl
theorem rf7{x:Pce}{z:ByteArray}(h1:x.su.length=z.size)(h2:x.to.length=z.size)(hz:z.size<=1000000)(h:(List.range z.size).any (isC x z)=false):Wa9 x 0 z=true/\Xa0 x 0 z=true:=by
 unfold Wa9 Xa0;rw[gg0 h1 h2 hz,h];exact⟨rfl,rfl⟩
def bk(a c:Int):PLq:=bx a 0 0 c 2 2
def exP:Prt:=⟨⟨#[]⟩,[bk 0 2,bk 2 4,bk 4 6],[1,2,3]⟩
def exQ:Prt:=⟨⟨#[]⟩,[bk 0 2,bk 2 4,bk 4 6],[1,2]⟩
def exR:Prt:=⟨⟨#[]⟩,[bk 0 2,bk 0 2],[1,2]⟩
def ps(a c d e f g:Bool)(l:LPq):Pce:=⟨[a,c,d],[e,f,g],l⟩
theorem kb:(ca4 0 2=bk 0 2/\Z3 0 2=true)/\(ca4 2 4=bk 2 4/\Z3 2 4=true)/\(ca4 4 6=bk 4 6/\Z3 4 6=true)/\(ca4 3 5=bk 3 5/\Z3 3 5=true)/\(ca4 2 3=bk 2 3/\Z3 2 3=true) /\
  (ca4 1 4=bk 1 4/\Z3 1 4=true):=by refine⟨⟨?_,?_⟩,⟨?_,?_⟩,⟨?_,?_⟩,⟨?_,?_⟩,⟨?_,?_⟩,?_,?_⟩<;>kernel_rfl
theorem kc1:Bc6 exP=0:=by kernel_rfl
theorem kc2:Bc6 exQ=1:=by kernel_rfl
theorem kc3:Bc6 exR=13:=by kernel_rfl
theorem ka1:Wa1 exP (ps false false false false false false []) [bk 2 4] [bk 3 5]=(ps false true false false true true [bk 2 4],0):=by rw[bd9];kernel_rfl
theorem ka2:Wa1 exP (ps false false false false false false []) [bk 2 3,bk 3 5] []=(ps false true false false true true [bk 2 3,bk 3 5],0):=by rw[bd9];kernel_rfl
theorem ka3:Wa1 exP (ps false false false false false false []) [bk 2 4] [bk 1 4]=(ps false true false true true false [bk 2 4],0):=by rw[bd9];kernel_rfl
theorem ka4:Wa1 exP (ps false false false false false false []) [bk 1 4] []=(ps false true false true true false [bk 1 4],0):=by rw[bd9];kernel_rfl
theorem kv1:Vb4 exP (ps false false false false false false [])=34:=by kernel_rfl
theorem kv2:Vb4 exP (ps false true false false true true [bk 2 4])=0:=by kernel_rfl
theorem kv3:Vb4 exP (ps false true false false true true [bk 2 3,bk 3 5])=0:=by kernel_rfl
theorem kv4:Vb4 exP (ps false true false true true false [bk 2 4])=30:=by kernel_rfl
theorem kv5:Vb4 exP (ps false true false true true false [bk 1 4])=35:=by kernel_rfl
theorem kl1:ve6 exP (ps false false false false false false [])=[bk 0 2,bk 2 4,bk 4 6]:=by kernel_rfl
theorem kl2:ve6 exP (ps false true false false true true [bk 2 4])=[bk 0 2,bk 4 6]:=by kernel_rfl
theorem ki1:(List.range 3).any (isC (ps false false false false false false []) ⟨#[46,46,46]⟩)=false:=by kernel_rfl
theorem ki2(l:LPq):(List.range 3).any (isC (ps false true false false true true l) ⟨#[46,115,116]⟩)=false:=by kernel_rfl
theorem ki3(l:LPq):(List.range 3).any (isC (ps false true false true true false l) ⟨#[116,115,46]⟩)=false:=by kernel_rfl
theorem fe5(a c:Int):(bk a c).length=6:=rfl
theorem Pe0(a c:Int):bk a c≠[]:=by intro h;have:=congrArg List.length h;simp[fe5] at this
theorem fa3:Jok exP:=⟨by show 3<=_;omega,by show 3<=_;omega,λc hc=>by
 have:c.length=6:=by
  simp only[exP,Qbi,Qiy,or_false] at hc
  rcases hc with rfl|rfl|rfl<;>rfl
 omega⟩
theorem rf8:Jok exQ:=⟨by show 3<=_;omega,by show 2<=_;omega,fa3.pl⟩
theorem rf9:Jok exR:=⟨by show 2<=_;omega,by show 2<=_;omega,λc hc=>by
 have:c.length=6:=by
  simp only[exR,Qbi,Qiy,or_false] at hc
  rcases hc with rfl|rfl<;>rfl
 omega⟩
theorem fe6:∀q∈exP.cl,q≠[]:=λc hc=>by
 simp only[exP,Qbi,Qiy,or_false] at hc
 rcases hc with rfl|rfl|rfl<;>exact Pe0 _ _
theorem we1(a c d e f g:Bool){l:LPq}(h1:l.length<=1000000)(h2:∀q∈l,q.length<=1000000):Pok (ps a c d e f g l):=⟨by show 3<=_;omega,by show 3<=_;omega,h1,h2⟩
theorem bk1(a c:Int):(∀q∈[bk a c],q.length<=1000000)/\∀q∈[bk a c],q≠[]:=⟨λq hq=>by rw[Qja.1 hq,fe5];decide,λq hq=>by rw[Qja.1 hq];exact Pe0 _ _⟩
theorem bk2(a c d e:Int):(∀q∈[bk a c,bk d e],q.length<=1000000)/\∀q∈[bk a c,bk d e],q≠[]:=by
 constructor<;>intro q hq<;>simp only[Qbi,Qiy,or_false] at hq<;>rcases hq with rfl | rfl
 ·rw[fe5];decide
 ·rw[fe5];decide
 ·exact Pe0 _ _
 ·exact Pe0 _ _
theorem we2:∀q∈([]:LPq),q.length<=1000000:=by simp
theorem od8:∀q∈([]:LPq),q≠[]:=by simp
theorem od9:Xa1=some (b true,[]):=by
 obtain⟨⟨b1,b2⟩,⟨b3,b4⟩,⟨b5,b6⟩,⟨b7,b8⟩,⟨b9,b10⟩,b11,b12⟩:=kb;have c1:=(Hd4 fa3).trans kc1;have c1':=ee5 fa3;have c2:=(Hd4 rf8).trans kc2;have c2':=ee5 rf8;have c3:=(Hd4 rf9).trans kc3;have c3':=ee5 rf9;have n1:Db5 exP=ps false false false false false false []:=Mf1 fa3.cl;have n1':kb5 exP=true:=Mf2 fa3.cl;have x0:Pok (ps false false false false false false []):=we1 _ _ _ _ _ _ (by simp) we2
 have x1:Pok (ps false true false false true true [bk 2 4]):=we1 _ _ _ _ _ _ (by simp) (bk1 2 4).1
 have x2:Pok (ps false true false false true true [bk 2 3,bk 3 5]):=we1 _ _ _ _ _ _ (by simp) (bk2 2 3 3 5).1
 have x3:Pok (ps false true false true true false [bk 2 4]):=we1 _ _ _ _ _ _ (by simp) (bk1 2 4).1
 have x4:Pok (ps false true false true true false [bk 1 4]):=we1 _ _ _ _ _ _ (by simp) (bk1 1 4).1
 have a1:=(bd3 (z:=[bk 2 4]) (w:=[bk 3 5]) fa3 x0 (by simp) (by simp) (bk1 2 4).1 (bk1 3 5).1 od8 (bk1 2 4).2).trans ka1
 have a1':=bd4 (z:=[bk 2 4]) (w:=[bk 3 5]) fa3 x0 (by simp) (by simp) (bk1 2 4).1 (bk1 3 5).1 od8 (bk1 2 4).2
 have a2:=(bd3 (z:=[bk 2 3,bk 3 5]) (w:=[]) fa3 x0 (by simp) (by simp) (bk2 2 3 3 5).1 we2 od8 (bk2 2 3 3 5).2).trans ka2
 have a2':=bd4 (z:=[bk 2 3,bk 3 5]) (w:=[]) fa3 x0 (by simp) (by simp) (bk2 2 3 3 5).1 we2 od8 (bk2 2 3 3 5).2
 have a3:=(bd3 (z:=[bk 2 4]) (w:=[bk 1 4]) fa3 x0 (by simp) (by simp) (bk1 2 4).1 (bk1 1 4).1 od8 (bk1 2 4).2).trans ka3
 have a3':=bd4 (z:=[bk 2 4]) (w:=[bk 1 4]) fa3 x0 (by simp) (by simp) (bk1 2 4).1 (bk1 1 4).1 od8 (bk1 2 4).2
 have a4:=(bd3 (z:=[bk 1 4]) (w:=[]) fa3 x0 (by simp) (by simp) (bk1 1 4).1 we2 od8 (bk1 1 4).2).trans ka4
 have a4':=bd4 (z:=[bk 1 4]) (w:=[]) fa3 x0 (by simp) (by simp) (bk1 1 4).1 we2 od8 (bk1 1 4).2
 have v1:=(Nb8 fa3 x0).trans kv1;have v1':=Nb9 fa3 x0;have v2:=(Nb8 fa3 x1).trans kv2;have v2':=Nb9 fa3 x1;have v3:=(Nb8 fa3 x2).trans kv3;have v3':=Nb9 fa3 x2;have v4:=(Nb8 fa3 x3).trans kv4;have v4':=Nb9 fa3 x3;have v5:=(Nb8 fa3 x4).trans kv5;have v5':=Nb9 fa3 x4;have l1:=(rf2 fa3 x0 fe6).trans kl1;have l1':=rf3 fa3 x0 fe6;have l2:=(rf2 fa3 x1 fe6).trans kl2;have l2':=rf3 fa3 x1 fe6;have i1:=rf7 (x:=ps false false false false false false []) (z:=⟨#[46,46,46]⟩) rfl rfl (by show 3<=_;omega) ki1
 have i2:=rf7 (x:=ps false true false false true true [bk 2 4]) (z:=⟨#[46,115,116]⟩) rfl rfl (by show 3<=_;omega) (ki2 _)
 have i3:=rf7 (x:=ps false true false false true true [bk 2 3,bk 3 5]) (z:=⟨#[46,115,116]⟩) rfl rfl (by show 3<=_;omega) (ki2 _)
 have i4:=rf7 (x:=ps false true false true true false [bk 2 4]) (z:=⟨#[116,115,46]⟩) rfl rfl (by show 3<=_;omega) (ki3 _)
 have i5:=rf7 (x:=ps false true false true true false [bk 1 4]) (z:=⟨#[116,115,46]⟩) rfl rfl (by show 3<=_;omega) (ki3 _)
 have s1:=Hd1 (x:=[bk 0 2,bk 2 4,bk 4 6]) (by simp) fa3.pl
 have s1':=Hd2 (x:=[bk 0 2,bk 2 4,bk 4 6]) (by simp) fa3.pl
 have s2:=Hd1 (x:=[bk 0 2,bk 4 6]) (by simp) (bk2 0 2 4 6).1
 have s2':=Hd2 (x:=[bk 0 2,bk 4 6]) (by simp) (bk2 0 2 4 6).1
 unfold exP at c1 c1' n1 n1' a1 a1' a2 a2' a3 a3' a4 a4' v1 v1' v2 v2' v3 v3' v4 v4' v5 v5' l1 l1' l2 l2';unfold exQ at c2 c2';unfold exR at c3 c3';unfold ps at n1 a1 a1' a2 a2' a3 a3' a4 a4' v1 v1' v2 v2' v3 v3' v4 v4' v5 v5' l1 l1' l2 l2' i1 i2 i3 i4 i5;unfold Xa1;simp only[b1,b2,b3,b4,b5,b6,b7,b8,b9,b10,b11,b12,j8,B8,Qka,i6,c1,c1',c2,c2',c3,c3',n1,n1',a1,a1',a2,a2',a3,a3',a4,a4',v1,v1',v2,v2',v3,v3',v4,v4',v5,v5',l1,l1',l2,l2',i1.1,i1.2,i2.1,i2.2,i3.1,i3.2,i4.1,i4.2,i5.1,i5.2,s1,s1',s2,s2'];rfl
theorem Ge1:ub1=true:=by unfold ub1;rw[od9];rfl
theorem Ge2:ub2=true:=by unfold ub2;rw[od9];rfl
theorem fe7{c:PLq}{p:Pln}{q:Pln}:q∈c++[p]++ws↔q∈c++ws\/q=p:=by
 simp only[Qiq,Qja];constructor
 ·rintro ((h|h)|h)
  ·exact .inl (.inl h)
  ·exact .inr h
  ·exact .inl (.inr h)
 ·rintro ((h|h)|h)
  ·exact .inl (.inl h)
  ·exact .inr h
  ·exact .inl (.inr h)
theorem Pe1{c:PLq}{p:Pln}{z:Pt}:Ins (c++[p]++ws) z↔Ins (c++ws) z/\0<rmZ p z:=by
 constructor
 ·intro h;exact⟨h.mono λq hq=>fe7.2 (.inl hq),h.h p (fe7.2 (.inr rfl))⟩
 ·rintro⟨h1,h2⟩;refine⟨h1.w,λq hq=>?_⟩
  rcases fe7.1 hq with h|rfl
  ·exact h1.h q h
  ·exact h2
structure HvF(c:PLq)(p q:Pln):Prop where
 a:qf0 [c] [c++[p],c++[X9 p]]=(true,0)
 a':qf0 [c++[p],c++[X9 p]] [c]=(true,0)
 h:R3 [c++[p]] c=(!ful (c++[X9 p]),0)
 h':R3 [c++[X9 p]] c=(!ful (c++[p]),0)
 s:qf0 [c++[X9 p],c++[p]++[q],c++[p]++[X9 q]] [c++[p],c++[X9 p]]=(true,0)
 v:R3 [c++[X9 p],c++[p]++[q],c++[p]++[X9 q]] c=(true,0)
 d:apart (c++[p]) (c++[X9 p])=true
theorem fe8{n:V3}{d:Int}(hn:[n.x,n.y,n.z].all (smb 4608)=true)(hg:g3 n=1)(h1:-2097152<=d)(h2:d<=2097152):okp ⟨n,d⟩=true:=by
 unfold okp;rw[hn,hg];simp only[List.all_cons,List.all_nil,Qii,Qkl,Qas,beq_self_eq_true,true_and,ud8];exact⟨h1,h2⟩
theorem kd3{x y z u v w:Int}{p:Pln}:p∈bx x y z u v w↔p=⟨⟨1,0,0⟩,u⟩\/p=⟨⟨-1,0,0⟩,-x⟩\/p=⟨⟨0,1,0⟩,v⟩\/p=⟨⟨0,-1,0⟩,-y⟩\/p=⟨⟨0,0,1⟩,w⟩\/p=⟨⟨0,0,-1⟩,-z⟩:=by
 simp only[bx,Qbi,Qiy,or_false]
theorem if5{x y z u v w:Int}(h1:-2000<=x/\x<=2000)(h2:-2000<=y/\y<=2000)(h3:-2000<=z/\z<=2000)(h4:-2000<=u/\u<=2000)(h5:-2000<=v/\v<=2000)(h6:-2000<=w/\w<=2000):∀p∈bx x y z u v w,okp p=true:=λp hp=>by
 rcases kd3.1 hp with rfl|rfl|rfl|rfl|rfl|rfl<;>exact fe8 (by decide) (by decide) (by omega) (by omega)
theorem kd4{x y z u v w:Int}(h1:-2000<=x/\x<=2000)(h2:-2000<=y/\y<=2000)(h3:-2000<=z/\z<=2000)(h4:-2000<=u/\u<=2000)(h5:-2000<=v/\v<=2000)(h6:-2000<=w/\w<=2000):(chk (bx x y z u v w)==0)=true:=by
 rw[beq_iff_eq,Ua3];exact⟨by rw[Bc3];decide,if5 h1 h2 h3 h4 h5 h6⟩
theorem Wf2{p:Pln}:p∈ws↔p=⟨⟨1,0,0⟩,24⟩\/p=⟨⟨-1,0,0⟩,24⟩\/p=⟨⟨0,1,0⟩,24⟩\/p=⟨⟨0,-1,0⟩,24⟩\/p=⟨⟨0,0,1⟩,24⟩\/p=⟨⟨0,0,-1⟩,24⟩:=by
 simp only[ws,Qbi,Qiy,or_false]
theorem Wf3{x y z u v w:Int}(h1:-24<=x/\x<u/\u<=24)(h2:-24<=y/\y<v/\v<=24)(h3:-24<=z/\z<w/\w<=24):ful (bx x y z u v w)=true:=by
 refine ca8.2 ⟨kd4 (by omega) (by omega) (by omega) (by omega) (by omega) (by omega),⟨x+u,y+v,z+w,2⟩,by show (0:Int)<2;decide,λp hp=>?_⟩
 rcases Qiq.1 hp with hp|hp
 ·rcases kd3.1 hp with rfl|rfl|rfl|rfl|rfl|rfl<;>(unfold rmZ;simp only;omega)
 ·rcases Wf2.1 hp with rfl|rfl|rfl|rfl|rfl|rfl<;>(unfold rmZ;simp only;omega)
theorem we3{a c:PLq}(ha:(chk a==0)=true)(hc:(chk c==0)=true){p q:Pln}(hp:p∈a)(hq:q∈c)(h:∀z:Pt,0<z.pw->0<rmZ p z->0<rmZ q z->False):apart a c=true :=
 (Ya5 ha hc).2 λz h1 h2=>h z h1.w (h1.h p (Qbj _ hp)) (h2.h q (Qbj _ hq))
theorem sf0{a a' c c':PLq}(ha:(chk a==0)=true)(hc:(chk c==0)=true)(ha':(chk a'==0)=true)(hc':(chk c'==0)=true)(h1:∀p∈a,p∈a')(h2:∀p∈c,p∈c')(h:apart a c=true):apart a' c'=true :=
 (Ya5 ha' hc').2 λz k1 k2=>(Ya5 ha hc).1 h z (k1.mono λp hp=>(Qiq.1 hp).elim (λe=>Qbj _ (h1 p e)) λe=>Qce _ e)
  (k2.mono λp hp=>(Qiq.1 hp).elim (λe=>Qbj _ (h2 p e)) λe=>Qce _ e)
def Prw(l:LPq):Prop:=∀j k,j<k->k<l.length->apart (gL tLq l j) (gL tLq l k)=true
theorem cd0{α:Type}(t:Ty α)(l:List α)(c:α){k:Nat}(h:k<l.length):gL t (l++[c]) k=gL t l k:=by
 simp only[gL,Qda];rw[Qbb h]
theorem fe9{α:Type}(t:Ty α)(l:List α)(c:α):gL t (l++[c]) l.length=c:=by
 simp[gL,Qda]
theorem Prw.app{l:LPq}(h:Prw l){c:PLq}(hc:∀q∈l,apart q c=true):Prw (l++[c]):=by
 intro j k hjk hk;rw[Qdc,List.length_singleton] at hk;by_cases e:k<l.length
 ·rw[cd0 _ _ _ e,cd0 _ _ _ (by omega)]
  exact h j k hjk e
 ·have:k=l.length:=by omega
  subst this;rw[fe9,cd0 _ _ _ hjk];exact hc _ (S1 _ hjk)
theorem Prw.nil:Prw []:=λj k _ hk=>absurd hk (Qjq _)
structure Rw(h X:Int)(l:LPq):Prop where
 p:Prw l
 c:∀q∈l,∃a c y,q=bx a y 0 c (y+3) h/\-6<=a/\a<c/\c<=X/\(y=0\/y=3)
theorem Rw.nil(h X:Int):Rw h X []:=⟨.nil,λq hq=>by cases hq⟩
theorem Rw.add{h X a c y:Int}{l:LPq}(r:Rw h X l)(hh:2<=h/\h<=4)(hX:-6<=X/\X<=20)(hc:X<c/\c<=24)(ha:a=X)(hy:y=0\/y=3):Prw (l++[bx a y 0 c (y+3) h]):=by
 refine r.p.app λq hq=>?_
 obtain⟨a',c',y',rfl,h1,h2,h3,h4⟩:=r.c q hq;refine we3 (p:=⟨⟨1,0,0⟩,c'⟩) (q:=⟨⟨-1,0,0⟩,-a⟩) (kd4 (by omega) (by omega) (by omega) (by omega) (by omega) (by omega)) (kd4 (by omega) (by omega) (by omega) (by omega) (by omega) (by omega)) (kd3.2 (by simp)) (kd3.2 (by simp)) λz h0 k1 k2=>?_
 have:(a-c')*z.pw<0:=by
  unfold rmZ at k1 k2
  simp only at k1 k2
  have e:(a-c')*z.pw=a*z.pw-c'*z.pw:=Int.sub_mul _ _ _;have e2:-a*z.pw=-(a*z.pw):=Int.neg_mul _ _;rw[e2] at k2;rw[e];omega
 have:0<=(a-c')*z.pw:=Qjc (by omega) (by omega)
 omega
theorem Rw.one{h X c:Int}{l:LPq}(r:Rw h X l)(hh:2<=h/\h<=4)(hX:-6<=X/\X<=20)(hc:X<c/\c<=24):Rw h c (l++[bx X 0 0 c 3 h]) :=
 ⟨r.add (y:=0) hh hX hc rfl (.inl rfl),λq hq=>by
  rcases Qiq.1 hq with hq|hq
  ·obtain⟨a',c',y',h0,h1,h2,h3,h4⟩:=r.c q hq;exact⟨a',c',y',h0,h1,h2,by omega,h4⟩
  ·rw[Qja.1 hq];exact⟨X,c,0,rfl,by omega,by omega,by omega,.inl rfl⟩⟩
theorem Rw.two{h X c:Int}{l:LPq}(r:Rw h X l)(hh:2<=h/\h<=4)(hX:-6<=X/\X<=20)(hc:X<c/\c<=24):Rw h c ((l++[bx X 0 0 c 3 h])++[bx X 3 0 c 6 h]):=by
 have r1:=r.one hh hX hc;refine⟨r1.p.app λq hq=>?_,λq hq=>?_⟩
 ·rcases Qiq.1 hq with hq|hq
  ·have h2:=r.add (y:=3) hh hX hc rfl (.inr rfl);obtain⟨k,hk,rfl⟩:=Qlc hq
   have:=h2 k l.length hk (by simp)
   rw[fe9,cd0 _ _ _ hk,eb4 tLq hk] at this;exact this
  ·rw[Qja.1 hq];refine we3 (p:=⟨⟨0,1,0⟩,3⟩) (q:=⟨⟨0,-1,0⟩,-3⟩) (kd4 (by omega) (by omega) (by omega) (by omega) (by omega) (by omega)) (kd4 (by omega) (by omega) (by omega) (by omega) (by omega) (by omega)) (kd3.2 (by simp)) (kd3.2 (by simp)) λz h0 k1 k2=>?_
   unfold rmZ at k1 k2
   simp only at k1 k2
   omega
 ·rcases Qiq.1 hq with hq|hq
  ·exact r1.c q hq
  ·rw[Qja.1 hq];exact⟨X,c,3,rfl,by omega,by omega,by omega,.inr rfl⟩
structure Mcl(l:LPq):Prop where
 n1:2<=l.length
 n2:l.length<=6
 p:Prw l
 f:∀q∈l,ful q=true
 k:∀q∈l,6<=q.length/\q.length<=7
theorem Rw.mcl{h X:Int}{l:LPq}(r:Rw h X l)(hh:2<=h/\h<=4)(hX:X<=24)(h1:2<=l.length)(h2:l.length<=6):Mcl l :=
 ⟨h1,h2,r.p,λq hq=>by
  obtain⟨a',c',y',rfl,h1,h2,h3,h4⟩:=r.c q hq;exact Wf3 (by omega) (by omega) (by omega),λq hq=>by
  obtain⟨a',c',y',rfl,h1,h2,h3,h4⟩:=r.c q hq;rw[Bc3]
  omega⟩
theorem Ge3{α:Type}(t:Ty α)(l:List α)(c:α){j k:Nat}(h:j<l.length):gL t (l.set j c) k=if k=j then c else gL t l k:=by
 simp only[gL,Qda,List.getElem?_set];by_cases e:j=k
 ·subst e;simp[h]
 ·rw[if_neg e,if_neg (λe'=>e e'.symm)]
theorem Mcl.cut{l:LPq}(m:Mcl l)(h6:l.length<6)(hk:∀q∈l,q.length=6){p:Pln}(hp:okp p=true){j:Nat}(hj:j<l.length)
  (f1:ful (gL tLq l j++[p])=true) (f2:ful (gL tLq l j++[X9 p])=true):Mcl (l.set j (gL tLq l j++[p])++[gL tLq l j++[X9 p]]):=by
 have hc:=λk (h:k<l.length)=>(ca8.1 (m.f _ (S1 tLq h))).1
 have hl:=hk _ (S1 tLq hj);have k1:=(ca8.1 f1).1;have k2:=(ca8.1 f2).1;have ap:∀k,k<l.length->k≠j->∀q:Pln,(chk (gL tLq l j++[q])==0)=true->apart (gL tLq l k) (gL tLq l j++[q])=true/\apart (gL tLq l j++[q]) (gL tLq l k)=true:=by
  intro k hk' hkj q hq;have h0:apart (gL tLq l k) (gL tLq l j)=true:=by
   rcases Nat.lt_or_gt_of_ne hkj with h|h
   ·exact m.p k j h hj
   ·rw[Sb5];exact m.p j k h hk'
  have h1:apart (gL tLq l k) (gL tLq l j++[q])=true:=sf0 (hc k hk') (hc j hj) (hc k hk') hq (λ_ h=>h) (λ_ h=>Qbj _ h) h0
  exact⟨h1,by rw[Sb5];exact h1⟩
 refine⟨by rw[Qdc,Qir];have:=m.n1;simp;omega,by rw[Qdc,Qir];simp;omega,?_,?_,?_⟩
 ·refine Prw.app (λi k hik hkl=>?_) λq hq=>?_
  ·rw[Qir] at hkl;rw[Ge3 tLq l _ hj,Ge3 tLq l _ hj];by_cases e1:i=j
   ·rw[if_pos e1,if_neg (by omega)]
    exact (ap k hkl (by omega) p k1).2
   ·by_cases e2:k=j
    ·rw[if_neg e1,if_pos e2];exact (ap i (by omega) e1 p k1).1
    ·rw[if_neg e1,if_neg e2];exact m.p i k hik hkl
  ·obtain⟨i,hi,rfl⟩:=Qlc hq;rw[Qir] at hi;rw[List.getElem_set];by_cases e:j=i
   ·rw[if_pos e];refine (Ya5 k1 k2).2 λz z1 z2=>?_
    have a1:=(Pe1.1 z1).2;have a2:=(Pe1.1 z2).2;rw[Aa2] at a2;omega
   ·rw[if_neg e]
    have:=(ap i hi (λe'=>e e'.symm) (X9 p) k2).1
    rw[eb4 tLq hi] at this;exact this
 ·intro q hq
  rcases Qiq.1 hq with hq|hq
  ·rcases Qla hq with h|rfl
   ·exact m.f q h
   ·exact f1
  ·rw[Qja.1 hq];exact f2
 ·intro q hq
  rcases Qiq.1 hq with hq|hq
  ·rcases Qla hq with h|rfl
   ·exact m.k q h
   ·rw[Qdc,hl,List.length_singleton];decide
  ·rw[Qja.1 hq,Qdc,hl,List.length_singleton];decide
structure Mp(x:Prt):Prop where
 c:Mcl x.cl
 w:x.wt.length=x.cl.length
 o:∀n∈x.wt,n=1\/n=2\/n=3
theorem Mp.jok{x:Prt}(m:Mp x):Jok x:=⟨by have:=m.c.n2;omega,by have:=m.c.n2;have:=m.w;omega,λc hc=>by have:=(m.c.k c hc).2;omega⟩
theorem Mp.ne{x:Prt}(m:Mp x):∀q∈x.cl,q≠[]:=λq hq e=>by
 have:=(m.c.k q hq).1
 rw[e] at this
 simp at this
theorem Mp.chk{x:Prt}(m:Mp x):Bc6 x=0:=by
 have h1:=m.c.n1;have h2:=m.c.n2;unfold Bc6;rw[if_neg (by omega),if_neg (by omega),if_neg (by rw[m.w];simp),if_neg,if_neg]
 ·intro h;obtain⟨j,hj,hb⟩:=Qiaa.1 h;have hj:=Qca.1 hj;unfold ue8 at hb;rw[m.c.f _ (S1 tLq hj)] at hb;simp only[Qkg,Bool.false_or] at hb;obtain⟨k,hk,hb⟩:=Qiaa.1 hb;rw[m.c.p k j (Qca.1 hk) hj] at hb;cases hb
 ·intro h;obtain⟨n,hn,hb⟩:=Qiaa.1 h
  rcases m.o n hn with rfl|rfl|rfl<;>revert hb<;>decide
theorem Ic0(lo hi:V3):ta7 lo hi=⟨hi.x,W (0-lo.x),hi.y,W (0-lo.y),hi.z,W (0-lo.z)⟩:=rfl
theorem gg1(x y z u v w:Int):bL tP (bx x y z u v w)=[[i 1,i 0,i 0,i u],[i (-1),i 0,i 0,i (-x)],[i 0,i 1,i 0,i v],[i 0,i (-1),i 0,i (-y)],[i 0,i 0,i 1,i w],[i 0,i 0,i (-1),i (-z)]]:=rfl
theorem Id5(x y z u v w:Int):c7.tree 4 6 (λk=>g8 [[i 1,i 0,i 0,i u],[i (-1),i 0,i 0,i (-x)],[i 0,i 1,i 0,i v],[i 0,i (-1),i 0,i (-y)],[i 0,i 0,i 1,i w],[i 0,i 0,i (-1),i (-z)]] (0+k))=cpA (bx x y z u v w):=by
 rw[<- gg1];exact kd0 (bx x y z u v w)
def we4(t:Bool):Nat:=if t=true then 2 else 1
structure RPa(n:Nat)(t:Bool)(h:Int)(u:List Int)(j:Nat)(s:P9)(O:LPq):Prop where
 le:j<=n
 ph:s.ph=phL O
 r:Rw h s.is9 O
 x:-6<=s.is9/\s.is9<=-4+4*(j:Int)
 ix:s.D6=(j:Int)
 u:s.J6=u
 d:0<=s.Z4/\s.Z4<=100+(j:Int)
 n:s.sa4=O.length
 e:s.eh4=cpR O
 l:O.length=we4 t*j
theorem Id6{n:Nat}{t:Bool}{h:Int}{nm nm2:ByteArray}{u u' v':List Int}(hn:n<=4)(hh:2<=h/\h<=4){x d:Int}(hx:-6<=x/\x<=-4)(hd:0<=d/\d<=100) :
  ∃s O,lp (da4 ⟨(n:Int),t,h,nm,u',v',nm2⟩) ⟨0,x,0,u,d,0,[]⟩=(phL O+1,s)/\RPa n t h u n s O:=by
 suffices key:∃tt s,lp (da4 ⟨(n:Int),t,h,nm,u',v',nm2⟩) ⟨0,x,0,u,d,0,[]⟩=(tt,s)/\∃O,tt=phL O+1/\RPa n t h u n s O by
  obtain⟨tt,s,h1,O,h2,h3⟩:=key;exact⟨s,O,by rw[h1,h2],h3⟩
 refine va3 (step:=da4 ⟨(n:Int),t,h,nm,u',v',nm2⟩) (mk:=λ_ (s:P9)=>s) n (λj s=>∃O,RPa n t h u j s O) (λtt s=>∃O,tt=phL O+1/\RPa n t h u n s O) (by omega)
  (λj s hj hi=>?_) (λj s hj hi=>?_) 0 ⟨0,x,0,u,d,0,[]⟩ ⟨[],⟨Qbw _,rfl,.nil _ _,by show -6<=x/\x<=_;omega,rfl,rfl,by show 0<=d/\d<=_;omega,rfl,rfl,by simp⟩⟩
 ·obtain⟨O,hi⟩:=hi;obtain⟨_,h2,h3,⟨h4,h4'⟩,h5,h6,⟨h7,h7'⟩,h8,h9,h10⟩:=hi;obtain⟨ph,is9,D6,lI,ih,nh,eh⟩:=s
  simp only at h2 h3 h4 h4' h5 h6 h7 h7' h8 h9 h10
  subst h2 h5 h6 h8 h9;obtain⟨v,d',e1,e2,e3,e4,e5⟩:=ra9 4 lI ih h7 (by omega) (by decide) (by decide)
  have hw1:W ((j:Int)+1)=((j+1:Nat):Int):=D0 hj (by omega)
  have hw2:W (1+v)=1+v:=ja8 (by omega) (by omega)
  have hw3:W (is9+(1+v))=is9+(1+v):=ja8 (by omega) (by omega)
  have hw4:W (0-is9)=-is9:=by rw[ja8 (by omega) (by omega)];omega
  have hw5:W (0-0)=-0:=rfl;have hw6:W (0-3)=-3:=rfl;have hO:O.length<=8:=by rw[h10];unfold we4;split<;>omega
  have q11:Nat.beq 1 1=true:=rfl;have hr1:Rw h (is9+(1+v)) (O++[bx is9 0 0 (is9+(1+v)) 3 h]):=h3.one hh (by omega) (by omega)
  have hr2:Rw h (is9+(1+v)) ((O++[bx is9 0 0 (is9+(1+v)) 3 h])++[bx is9 3 0 (is9+(1+v)) 6 h]):=h3.two hh (by omega) (by omega)
  cases t with
  |false =>
   have hl:(O++[bx is9 0 0 (is9+(1+v)) 3 h]).length=we4 false*(j+1):=by rw[Qdc,h10];unfold we4;simp
   have fin:RPa n false h lI (j+1) ⟨phL (O++[bx is9 0 0 (is9+(1+v)) 3 h]),is9+(1+v),((j+1:Nat):Int),lI,d',(O++[bx is9 0 0 (is9+(1+v)) 3 h]).length,cpR (O++[bx is9 0 0 (is9+(1+v)) 3 h])⟩ (O++[bx is9 0 0 (is9+(1+v)) 3 h]) :=
    ⟨hj,rfl,hr1,by show -6<=is9+(1+v)/\is9+(1+v)<=-4+4*((j+1:Nat):Int);omega,rfl,rfl,by show 0<=d'/\d'<=100+((j+1:Nat):Int);omega,rfl,rfl,hl⟩
   have hst:da4 ⟨(n:Int),false,h,nm,u',v',nm2⟩ ⟨phL O,is9,(j:Int),lI,ih,O.length,cpR O⟩=.next ⟨phL (O++[bx is9 0 0 (is9+(1+v)) 3 h]),is9+(1+v),((j+1:Nat):Int),lI,d',(O++[bx is9 0 0 (is9+(1+v)) 3 h]).length,cpR (O++[bx is9 0 0 (is9+(1+v)) 3 h])⟩:=by
    rw[Ab8,Qdc,List.length_singleton,<- mc9]
    rcases I8 O with⟨hz,hn⟩|h1
    ·rw[hz];show la4 Stp.next Stp.exit Stp.fail _ _=_;simp only[la4,j8,o7,Qka,e1,Ic0,hw1,hw2,hw3,hw4,hw5,hw6,Id5,i6,A6,q11];rw[btD (by omega),hn]
     rfl
    ·rw[h1];show la5 Stp.next Stp.exit Stp.fail _ _=_;simp only[la5,j8,o7,Qka,e1,Ic0,hw1,hw2,hw3,hw4,hw5,hw6,Id5,i6,A6,q11];rw[btD (by omega),bt (jd5 _ (by omega))]
   show Nx (da4 ⟨(n:Int),false,h,nm,u',v',nm2⟩ ⟨phL O,is9,(j:Int),lI,ih,O.length,cpR O⟩) _ _;rw[hst];exact .nx ⟨_,rfl,_,fin⟩
  |true =>
   have hl:((O++[bx is9 0 0 (is9+(1+v)) 3 h])++[bx is9 3 0 (is9+(1+v)) 6 h]).length=we4 true*(j+1):=by rw[Qdc,Qdc,h10];unfold we4;simp;omega
   have fin:RPa n true h lI (j+1) ⟨phL ((O++[bx is9 0 0 (is9+(1+v)) 3 h])++[bx is9 3 0 (is9+(1+v)) 6 h]),is9+(1+v),((j+1:Nat):Int),lI,d',((O++[bx is9 0 0 (is9+(1+v)) 3 h])++[bx is9 3 0 (is9+(1+v)) 6 h]).length,cpR ((O++[bx is9 0 0 (is9+(1+v)) 3 h])++[bx is9 3 0 (is9+(1+v)) 6 h])⟩ ((O++[bx is9 0 0 (is9+(1+v)) 3 h])++[bx is9 3 0 (is9+(1+v)) 6 h]) :=
    ⟨hj,rfl,hr2,by show -6<=is9+(1+v)/\is9+(1+v)<=-4+4*((j+1:Nat):Int);omega,rfl,rfl,by show 0<=d'/\d'<=100+((j+1:Nat):Int);omega,rfl,rfl,hl⟩
   have hst:da4 ⟨(n:Int),true,h,nm,u',v',nm2⟩ ⟨phL O,is9,(j:Int),lI,ih,O.length,cpR O⟩=.next ⟨phL ((O++[bx is9 0 0 (is9+(1+v)) 3 h])++[bx is9 3 0 (is9+(1+v)) 6 h]),is9+(1+v),((j+1:Nat):Int),lI,d',((O++[bx is9 0 0 (is9+(1+v)) 3 h])++[bx is9 3 0 (is9+(1+v)) 6 h]).length,cpR ((O++[bx is9 0 0 (is9+(1+v)) 3 h])++[bx is9 3 0 (is9+(1+v)) 6 h])⟩:=by
    rw[Ab8,Qdc,Qdc,List.length_singleton,List.length_singleton,<- mc9,<- mc9]
    rcases I8 O with⟨hz,hn⟩|h1
    ·rw[hz];show la4 Stp.next Stp.exit Stp.fail _ _=_;simp only[la4,j8,o7,Qka,e1,Ic0,hw1,hw2,hw3,hw4,hw5,hw6,Id5,i6,A6,q11];rw[btD (by omega),hn]
     rfl
    ·rw[h1];show la5 Stp.next Stp.exit Stp.fail _ _=_;simp only[la5,j8,o7,Qka,e1,Ic0,hw1,hw2,hw3,hw4,hw5,hw6,Id5,i6,A6,q11];rw[btD (by omega),bt (jd5 _ (by omega)),bt]
     rw[mc9]
     have:=jd5 (O++[bx is9 0 0 (is9+(1+v)) 3 h]) (by rw[Qdc];simp;omega)
     rw[Qdc,List.length_singleton] at this;exact this
   show Nx (da4 ⟨(n:Int),true,h,nm,u',v',nm2⟩ ⟨phL O,is9,(j:Int),lI,ih,O.length,cpR O⟩) _ _;rw[hst];exact .nx ⟨_,rfl,_,fin⟩
 ·obtain⟨O,hi⟩:=hi;have hje:j=n:=by have:=hi.le;omega
  subst hje;have hi':=hi;obtain⟨_,h2,h3,h4,h5,h6,h7,h8,h9,h10⟩:=hi;obtain⟨ph,is9,D6,lI,ih,nh,eh⟩:=s
  simp only at h2 h3 h4 h5 h6 h7 h8 h9 h10
  subst h2 h5 h6 h8 h9
  rcases I8 O with⟨hz,hn⟩|h1
  ·refine⟨1,?_,O,by rw[hz],hi'⟩
   rw[hz];show la4 Stp.next Stp.exit Stp.fail _ _=_;simp only[la4];rw[bfD (E2 (Qid _))]
  ·refine⟨2,?_,O,by rw[h1],hi'⟩
   rw[h1];show la5 Stp.next Stp.exit Stp.fail _ _=_;simp only[la5];rw[bfD (E2 (Qid _))]
structure RPw(n:Nat)(u:List Int)(E:List (List c7))(j:Nat)(s:E8)(V:List Int):Prop where
 le:j<=n
 ph:s.ph=if j=0 then 1 else 2
 ix:s.Na0=(j:Int)
 u:s.J6=u
 d:0<=s.Z4/\s.Z4<=(j:Int)
 e3:s.eh3=E
 n:s.Da9=j
 e4:s.eh4=bL tI V
 l:V.length=j
 o:∀v∈V,v=1\/v=2\/v=3
theorem Id7{n:Nat}{u:List Int}{E:List (List c7)}{nm nm2:ByteArray}(hn:1<=n/\n<=1000) :
  ∃s V,lp (ka5 ⟨nm,nm2,n⟩) ⟨1,0,u,0,E,0,[]⟩=(3,s)/\RPw n u E n s V:=by
 suffices key:∃tt s,lp (ka5 ⟨nm,nm2,n⟩) ⟨1,0,u,0,E,0,[]⟩=(tt,s)/\∃V,tt=3/\RPw n u E n s V by
  obtain⟨tt,s,h1,V,h2,h3⟩:=key;exact⟨s,V,by rw[h1,h2],h3⟩
 refine va3 (step:=ka5 ⟨nm,nm2,n⟩) (mk:=λ_ (s:E8)=>s) n (λj s=>∃V,RPw n u E j s V) (λtt s=>∃V,tt=3/\RPw n u E n s V) (by omega)
  (λj s hj hi=>?_) (λj s hj hi=>?_) 0 ⟨1,0,u,0,E,0,[]⟩ ⟨[],⟨Qbw _,rfl,rfl,rfl,⟨Qjs _,Qjs _⟩,rfl,rfl,rfl,rfl,by simp⟩⟩
 ·obtain⟨V,hi⟩:=hi;obtain⟨_,h2,h3,h4,⟨h5,h5'⟩,h6,h7,h8,h9,h10⟩:=hi;obtain⟨ph,is,lI,ih,e3,nh,e4⟩:=s
  simp only at h2 h3 h4 h5 h5' h6 h7 h8 h9 h10
  subst h2 h3 h4 h6 h7 h8;obtain⟨v,d',w1,w2,w3,w4,w5⟩:=ra9 4 lI ih h5 (by omega) (by decide) (by decide)
  have hw1:W ((nh:Int)+1)=((nh+1:Nat):Int):=D0 hj (by omega)
  have q11:Nat.beq 1 1=true:=rfl;obtain⟨m,rfl⟩:∃m:Nat,v=(m:Int):=⟨v.toNat,by omega⟩
  have hm:m<4:=by omega
  have hin:inB (m:Int) 4=true:=j9 hm;have hrow:∃k:Int,g8 [[i 2],[i 1],[i 3],[i 2]] (0+m)=[i k]/\(k=1\/k=2\/k=3):=by
   match m,hm with
   |0,_=>exact⟨2,rfl,by simp⟩
   |1,_=>exact⟨1,rfl,by simp⟩
   |2,_=>exact⟨3,rfl,by simp⟩
   |3,_=>exact⟨2,rfl,by simp⟩
  obtain⟨k,hk,hko⟩:=hrow;have g:((Nat.ble 1 (len [i k]))&&(sa5 [CK.int .i64] [i k]))=true:=rfl;have t:toI (hdA [i k])=k:=rfl;have fin:RPw n lI e3 (nh+1) ⟨2,((nh+1:Nat):Int),lI,d',e3,nh+1,bL tI (V++[k])⟩ (V++[k]) :=
   ⟨hj,by rw[if_neg (by omega)],rfl,rfl,by show 0<=d'/\d'<=((nh+1:Nat):Int);omega,rfl,rfl,rfl,by rw[Qdc,h9];rfl,λx hx=>by
    rcases Qiq.1 hx with hx|hx
    ·exact h10 x hx
    ·rw[Qja.1 hx];exact hko⟩
  have hst:ka5 ⟨nm,nm2,n⟩ ⟨if nh=0 then 1 else 2,(nh:Int),lI,ih,e3,nh,bL tI V⟩=.next ⟨2,((nh+1:Nat):Int),lI,d',e3,nh+1,bL tI (V++[k])⟩:=by
   by_cases h0:nh=0
   ·rw[if_pos h0];have hV:V=[]:=Qki.1 (by omega)
    show tb6 Stp.next Stp.exit Stp.fail _ _=_;simp only[tb6,j8,o7,Qka,w1,Int.toNat_natCast,hk,hin,g,t,hw1,i6,q11];rw[btD (s8 hj),hV,h0];rfl
   ·rw[if_neg h0];show Ga7 Stp.next Stp.exit Stp.fail _ _=_;simp only[Ga7,j8,o7,Qka,w1,Int.toNat_natCast,hk,hin,g,t,hw1,i6,q11];rw[btD (s8 hj),bt,show app (bL tI V) [[i k]]=bL tI (V++[k]) from ob5 tI V [k]]
    rw[O3,h9,Qip,Qkl,Qiae];unfold room;omega
  show Nx (ka5 ⟨nm,nm2,n⟩ ⟨if nh=0 then 1 else 2,(nh:Int),lI,ih,e3,nh,bL tI V⟩) _ _
  rw[hst];exact .nx ⟨_,rfl,_,fin⟩
 ·obtain⟨V,hi⟩:=hi;have hje:j=n:=by have:=hi.le;omega
  subst hje;refine⟨3,?_,V,rfl,hi⟩;obtain⟨_,h2,h3,h4,h5,h6,h7,h8,h9,h10⟩:=hi;obtain⟨ph,is,lI,ih,e3,nh,e4⟩:=s
  simp only at h2 h3 h4 h5 h6 h7 h8 h9 h10
  subst h2 h3 h4 h6 h7 h8;rw[if_neg (by omega)]
  show Ga7 Stp.next Stp.exit Stp.fail _ _=_;simp only[Ga7];rw[bfD (E2 (Qid _))]
theorem sf1{nm:ByteArray}{c w:c7}{cl:LPq}{wt:List Int}(h2:CR tLq c cl)(h3:CR tI w wt):(one r1J).rd (.agg [.v (.string nm),c,w],[])=some ⟨nm,cl,wt⟩:=by
 show Option.rec (motive:=λ_=>Option Prt) none (λp=>Bool.rec (motive:=λ_=>Option Prt) none (some (tJ.rd p)) (tJ.ok p)) ((freezeCells [] [.v (.string nm),c,w]).map (·.1))=_
 rw[fz3 (show freezeCell [] (.v (.string nm))=some (.v (.string nm),[]) from rfl) h2.fz h3.fz]
 show Bool.rec (motive:=λ_=>Option Prt) none (some (tJ.rd [.v (.string nm),c,w])) (Bool.and (tMq.ok [c]) (Bool.and ((tLs tI).ok [w]) true))=_
 rw[h2.ok,h3.ok];show some (Prt.mk nm (rL tLq c) (rL tI w))=_;rw[h2.rd,h3.rd]
theorem CR.cp(l:LPq){n:Nat}(h:n=l.length):CR tLq (.tree 1 n (λk=>g8 (cpR l) (0+k))) l:=by
 subst h;exact .tree tLq (ee7 l).2 (ee7 l).1
theorem sf2{v:List Int}{O:LPq}{s:E8}{V:List Int}(hm:Mcl O)(h:RPw O.length v (cpR O) O.length s V) :
  Rd (one r1J) (some ((.agg [(.v (.string ⟨#[112]⟩)),(.tree 1 O.length (λk=>g8 s.eh3 (0+k))),(.tree 1 s.Da9 (λk=>g8 s.eh4 (0+k)))]),[])) Mp:=by
 rw[h.e3,h.e4];exact⟨_,_,rfl,sf1 (.cp O rfl) (.bL tI V (by rw[h.n,h.l])),hm,h.l,h.o⟩
theorem Gf7(c:PLq):B3 (toG (cpA c)) (List.range (toN (cpA c)))=bL tP c:=by
 show B3 (λk=>g8 (bL tP c) k) (List.range c.length)=bL tP c
 conv=>rhs;rw[<- Ka4]
 rw[A2,A2];exact Qcl λk hk=>ba8 tP (Qca.1 hk)
theorem ge0(c:PLq)(p:Pln):app (bL tP c) [[i p.n.x,i p.n.y,i p.n.z,i p.b]]=bL tP (c++[p]):=ob5 tP c [p]
theorem Wf4(l:LPq)(k:Nat)(c:PLq):setAt (cpR l) k [cpA c]=cpR (l.set k c):=by
 unfold cpR;exact yd8 (λc=>[cpA c]) l k c
theorem we5{n:Nat}{t:Bool}{h:Int}{u:List Int}{s:P9}{O:LPq}(x:L2)(r:RPa n t h u n s O)(hn:n<=4)(hh:2<=h/\h<=4)(h1:2<=O.length)(h2:O.length<=6):Rd (one r1J) (Oe9 x (2,s)) Mp:=by
 obtain⟨_,_,hr,hx,_,_,hd,hnh,he,_⟩:=r;obtain⟨ph,is9,D6,lI,ih,nh,eh⟩:=s
 simp only at hr hx hd hnh he
 subst hnh he;have hm:Mcl O:=hr.mcl hh (by omega) h1 h2
 obtain⟨v6,d6,e6,p6,q6,r6,_⟩:=ra9 4 lI ih hd.1 (by omega) (by decide) (by decide)
 obtain⟨vk,dk,ek,pk,qk,rk,_⟩:=ra9 (O.length:Int) lI d6 (by omega) (by omega) (by omega) (by omega)
 obtain⟨vb,db,eb,pb,qb,rb,_⟩:=ra9 4 lI dk (by omega) (by omega) (by decide) (by decide)
 obtain⟨s1,V,hw,hW⟩:=Id7 (u:=x.v) (E:=cpR O) (nm:=⟨#[]⟩) (nm2:=⟨#[112]⟩) (n:=O.length) ⟨by omega,by omega⟩
 have F:=sf2 hm hW;have q11:Nat.beq 1 1=true:=rfl;have q21:Nat.beq 2 1=false:=rfl;have q22:Nat.beq 2 2=true:=rfl;have q31:Nat.beq 3 1=false:=rfl;have q32:Nat.beq 3 2=false:=rfl;have q33:Nat.beq 3 3=true:=rfl;unfold Oe9;simp only[j8,o7,Qka,q11,q21,q22,i6,A6,e6];refine Rd.sl (λ_=>?_) (λ_=>?_)
 ·refine Rd.sl (λh6=>?_) (λ_=>?_)
  ·have h6:(O.length:Int)<6:=by simpa using h6
   obtain⟨k,rfl⟩:∃k:Nat,vk=(k:Int):=⟨vk.toNat,by omega⟩
   have hk:k<O.length:=by omega
   have hw3:W (2+vb)=2+vb:=ja8 (by omega) (by omega)
   have hmem:=S1 tLq hk;have hl6:(gL tLq O k).length=6:=by
    obtain⟨a,c,y,h0,_⟩:=hr.c _ hmem;rw[h0,Bc3]
   have hp:okp ⟨⟨0,1,1⟩,2+vb⟩=true:=fe8 (by decide) (by decide) (by omega) (by omega)
   have hfl:Rb7 ⟨⟨0,1,1⟩,2+vb⟩=X9 ⟨⟨0,1,1⟩,2+vb⟩:=of2 (gd5 hp);have hrow:g8 (cpR O) k=[cpA (gL tLq O k)]:=vd6 hk;have hd0:hdA (l9 [cpA (gL tLq O k)] 0)=cpA (gL tLq O k):=rfl;have hck:sa5 [CK.sl 4] (l9 [cpA (gL tLq O k)] 0)=true:=rfl;have hbl:Nat.blt k (len (cpR O))=true:=by rw[ee6,Qcf];exact hk
   have hle1:Nat.ble (0+1) (len [cpA (gL tLq O k)])=true:=rfl;have hrm:∀m:Nat,m<=100->Nat.ble (m*32) room=true:=λm hm=>by rw[Qiae];unfold room;omega
   have a1:app (bL tP (gL tLq O k)) [[i 0,i 1,i 1,i (2+vb)]]=bL tP (gL tLq O k++[⟨⟨0,1,1⟩,2+vb⟩]):=ge0 _ ⟨⟨0,1,1⟩,2+vb⟩;have a2:app (bL tP (gL tLq O k)) [[i (X9 ⟨⟨0,1,1⟩,2+vb⟩).n.x,i (X9 ⟨⟨0,1,1⟩,2+vb⟩).n.y,i (X9 ⟨⟨0,1,1⟩,2+vb⟩).n.z,i (X9 ⟨⟨0,1,1⟩,2+vb⟩).b]]=bL tP (gL tLq O k++[X9 ⟨⟨0,1,1⟩,2+vb⟩]):=ge0 _ _;have L1:∀p:Pln,(gL tLq O k).length+1=(gL tLq O k++[p]).length:=λp=>by rw[Qdc];rfl
   have s1':∀p:Pln,slR tP (bL tP (gL tLq O k++[p])) 0 ((gL tLq O k).length+1)=gL tLq O k++[p]:=λp=>by rw[L1 p];exact Oc9 tP _
   have s2':∀p:Pln,okS tP (bL tP (gL tLq O k++[p])) 0 ((gL tLq O k).length+1)=true:=λp=>by rw[L1 p];exact Pc0 tP _
   have c1:∀p:Pln,c7.tree 4 ((gL tLq O k).length+1) (λj=>g8 (bL tP (gL tLq O k++[p])) (0+j))=cpA (gL tLq O k++[p]):=λp=>by rw[L1 p];exact kd0 _
   have f1:=Le5 (c:=gL tLq O k++[⟨⟨0,1,1⟩,2+vb⟩]) (by rw[Qdc,hl6];simp)
   have f2:=Le6 (c:=gL tLq O k++[⟨⟨0,1,1⟩,2+vb⟩]) (by rw[Qdc,hl6];simp)
   have f3:=Le5 (c:=gL tLq O k++[X9 ⟨⟨0,1,1⟩,2+vb⟩]) (by rw[Qdc,hl6];simp)
   have f4:=Le6 (c:=gL tLq O k++[X9 ⟨⟨0,1,1⟩,2+vb⟩]) (by rw[Qdc,hl6];simp)
   have sp:∀y:c7,V6 [cpA (gL tLq O k)] 0 [y]=[y]:=λy=>rfl
   have hin:inB (k:Int) O.length=true:=j9 hk;simp only[ek,eb,q11,i6,Int.toNat_natCast,Qar,hrow,hd0,hck,hin,hw3,hfl,Gf7,Cc1,a1,a2,O3,Qip,hbl,show Nat.ble 1 (len [cpA (gL tLq O k)])=true from rfl,Qka]
   simp only[Qar] at c1;simp only[hrm _ (show (gL tLq O k).length<=100 by omega),hrm _ (show (gL tLq O k).length+1<=100 by omega),s1',s2',c1,f1,f2,f3,f4,sp,Wf4,mc9,i6,Qka]
   refine Rd.sl (λg1=>?_) (λ_=>?_)
   ·refine Rd.sl (λg2=>?_) (λ_=>?_)
    ·have m2:=hm.cut (by omega) (λq hq=>by obtain⟨a,c,y,h0,_⟩:=hr.c _ hq;rw[h0,Bc3]) hp hk g1 g2
     have e1:O.length+1=(O.set k (gL tLq O k++[⟨⟨0,1,1⟩,2+vb⟩])++[gL tLq O k++[X9 ⟨⟨0,1,1⟩,2+vb⟩]]).length:=by rw[Qdc,Qir];rfl
     obtain⟨s3,V3,hw3,hW3⟩:=Id7 (u:=x.v) (E:=cpR (O.set k (gL tLq O k++[⟨⟨0,1,1⟩,2+vb⟩])++[gL tLq O k++[X9 ⟨⟨0,1,1⟩,2+vb⟩]])) (nm:=⟨#[]⟩) (nm2:=⟨#[112]⟩) (n:=(O.set k (gL tLq O k++[⟨⟨0,1,1⟩,2+vb⟩])++[gL tLq O k++[X9 ⟨⟨0,1,1⟩,2+vb⟩]]).length) ⟨by omega,by omega⟩
     have F3:=sf2 m2 hW3;have hroom:(Nat.beq O.length (len (cpR (O.set k (gL tLq O k++[⟨⟨0,1,1⟩,2+vb⟩]))))&&Nat.ble ((O.length+1)*24) room)=true:=by
      have:=jd5 (O.set k (gL tLq O k++[⟨⟨0,1,1⟩,2+vb⟩])) (by rw[Qir];omega)
      rw[Qir] at this;exact this
     rw[hroom,e1,hw3];simp only[Qar] at F3;exact F3
    ·rw[hw];simp only[Qar] at F;exact F
   ·rw[hw];simp only[Qar] at F;exact F
  ·rw[hw];exact F
 ·rw[hw];exact F
theorem Pe2(x:L2):Rd (one r1J) (Tb3 x) Mp:=by
 obtain⟨v1,d1,e1,p1,q1,r1,r1'⟩:=ra9 3 x.u 0 (by decide) (by decide) (by decide) (by decide)
 obtain⟨v2,d2,e2,p2,q2,r2,r2'⟩:=ra9 3 x.u d1 (by omega) (by omega) (by decide) (by decide)
 obtain⟨v3,d3,e3,p3,q3,r3,r3'⟩:=ra9 3 x.u d2 (by omega) (by omega) (by decide) (by decide)
 obtain⟨v4,d4,e4,p4,q4,r4,r4'⟩:=ra9 3 x.u d3 (by omega) (by omega) (by decide) (by decide)
 obtain⟨n,hn⟩:∃n:Nat,2+v1=(n:Int):=⟨(2+v1).toNat,by omega⟩
 have w1:W (2+v1)=(n:Int):=by rw[ja8 (by omega) (by omega)];exact hn
 have w4:W (2+v4)=2+v4:=ja8 (by omega) (by omega)
 have w3:W (-6+v3)=-6+v3:=ja8 (by omega) (by omega)
 have q11:Nat.beq 1 1=true:=rfl;unfold Tb3;simp only[j8,o7,Qka,i6,e1,e2,e3,e4,w1,w3,w4,q11];refine Rd.sl (λ_=>?_) (λ_=>?_)
 ·obtain⟨s,O,h1,h2⟩:=Id6 (n:=n) (t:=decide ((n:Int)<4)) (h:=2+v4) (nm:=⟨#[]⟩) (nm2:=⟨#[112]⟩) (u:=x.u) (u':=x.u) (v':=x.v) (x:=-6+v3) (d:=d4) (by omega) (by omega) (by omega) (by omega)
  have hl:=h2.l;have h3:2<=O.length/\O.length<=6:=by
   rw[hl];unfold we4;by_cases h4:(n:Int)<4
   ·rw[decide_eq_true h4,if_pos rfl];omega
   ·rw[decide_eq_false h4,if_neg (by decide)];omega
  rcases I8 O with⟨_,h0⟩|h0
  ·rw[h0] at h3;simp at h3
  ·rw[h1,h0];exact we5 x h2 (by omega) (by omega) h3.1 h3.2
 ·obtain⟨s,O,h1,h2⟩:=Id6 (n:=n) (t:=false) (h:=2+v4) (nm:=⟨#[]⟩) (nm2:=⟨#[112]⟩) (u:=x.u) (u':=x.u) (v':=x.v) (x:=-6+v3) (d:=d4) (by omega) (by omega) (by omega) (by omega)
  have hl:=h2.l;have h3:2<=O.length/\O.length<=6:=by
   rw[hl];unfold we4;rw[if_neg (by decide)]
   omega
  rcases I8 O with⟨_,h0⟩|h0
  ·rw[h0] at h3;simp at h3
  ·rw[h1,h0];exact we5 x h2 (by omega) (by omega) h3.1 h3.2
theorem Wf5(x:L2):Mp (yb8 x):=(Pe2 x).p
theorem Wf6(x:L2):Rc9 x=true:=(Pe2 x).g
theorem Ge4{c:PLq}(hf:ful c=true):apart c c=false:=by
 obtain⟨hc,x,hx⟩:=ca8.1 hf;cases h:apart c c with
 |false=>rfl
 |true=>exact ((Ya5 hc hc).1 h x hx hx).elim
theorem Mcl.ap{l:LPq}(m:Mcl l){j k:Nat}(hj:j<l.length)(hk:k<l.length):apart (gL tLq l j) (gL tLq l k)=!(j==k):=by
 rcases Nat.lt_trichotomy j k with h|h|h
 ·rw[m.p j k h hk,show (j==k)=false by simp;omega];rfl
 ·subst h;rw[Ge4 (m.f _ (S1 tLq hj)),show (j==j)=true by simp];rfl
 ·rw[Sb5,m.p k j h hj,show (j==k)=false by simp;omega];rfl
structure gg2(l:LPq)(f:Nat->Bool)(D:LPq):Prop where
 n:D.length<=20
 d:∀q∈D,∃i,i<l.length/\f i=true/\q=gL tLq l i
theorem Pe3{s:LPq}(h:∀q∈s,chk q=0):Bc5 s=0:=by
 unfold Bc5;rw[Qkd.2 λq hq=>by rw[h q hq];decide]
theorem Mcl.chk0{l:LPq}(m:Mcl l){q:PLq}(h:q∈l):chk q=0:=beq_iff_eq.1 (ca8.1 (m.f q h)).1
theorem gg2.chk0{l:LPq}{f:Nat->Bool}{D:LPq}(m:Mcl l)(h:gg2 l f D):∀q∈D,chk q=0:=λq hq=>by
 obtain⟨i,hi,_,rfl⟩:=h.d q hq;exact m.chk0 (S1 tLq hi)
structure Ct(l:LPq):Prop where
 c:∀q∈l,chk q=0
 n:∀q∈l,6<=q.length/\q.length<=8
theorem Ct.app{l:LPq}(h:Ct l){c:PLq}(h1:chk c=0)(h2:6<=c.length/\c.length<=8):Ct (l++[c]) :=
 ⟨λq hq=>by rcases Qiq.1 hq with hq | hq;exact h.c q hq;rw[Qja.1 hq];exact h1,λq hq=>by rcases Qiq.1 hq with hq | hq;exact h.n q hq;rw[Qja.1 hq];exact h2⟩
structure RCu(l:List (List Int))(j:Nat)(s:Q0)(O:LPq):Prop where
 le:j<=l.length
 j4:j<=4
 ix:s.is6=(j:Int)
 ph:s.ph=phL O
 n:s.ns5=O.length
 e:s.eh1=cpR O
 l:O.length=j
 t:Ct O
theorem Ze4{x:List (List Int)}{y:Prt}(m:Mp y) :
  ∃t s O,lp (fb6 ⟨x,y.nm,y.cl,y.wt⟩) ⟨0,0,0,[]⟩=(t,s)/\(∃j,RCu x j s O)/\((phL O=0/\(t=1\/t=2))\/(phL O=1/\(t=3\/t=4))):=by
 suffices key:∃t s,lp (fb6 ⟨x,y.nm,y.cl,y.wt⟩) ⟨0,0,0,[]⟩=(t,s)/\∃O,(∃j,RCu x j s O)/\((phL O=0/\(t=1\/t=2))\/(phL O=1/\(t=3\/t=4))) by
  obtain⟨t,s,h1,O,h2⟩:=key;exact⟨t,s,O,h1,h2⟩
 have hn1:=m.c.n1;have hn2:=m.c.n2;refine va3 (step:=fb6 ⟨x,y.nm,y.cl,y.wt⟩) (mk:=λ_ (s:Q0)=>s) 5 (λj s=>∃O,RCu x j s O) (λt s=>∃O,(∃j,RCu x j s O)/\((phL O=0/\(t=1\/t=2))\/(phL O=1/\(t=3\/t=4)))) (by omega)
  (λj s hj hi=>?_) (λj s hj hi=>by obtain⟨O,hi⟩:=hi;exact absurd hi.j4 (by omega)) 0 _ ⟨[],Qbw _,by omega,rfl,rfl,rfl,rfl,rfl,⟨by simp,by simp⟩⟩
 obtain⟨O,hi⟩:=hi;have hi':=hi;obtain⟨h1,h2,h3,h4,h5,h6,h7,h8⟩:=hi;obtain⟨ph,is,ns,eh⟩:=s
 simp only at h3 h4 h5 h6
 subst h3 h4 h5 h6;by_cases hlt:j<x.length
 ·by_cases h4:j<4
  ·obtain⟨v1,d1,e1,p1,q1,r1,r1'⟩:=ra9 4 (gL (tLs tI) x j) 0 (by decide) (by decide) (by decide) (by decide)
   obtain⟨v2,d2,e2,p2,q2,r2,r2'⟩:=ra9 (y.cl.length:Int) (gL (tLs tI) x j) d1 (by omega) (by omega) (by omega) (by omega)
   obtain⟨v3,d3,e3,p3,q3,r3,r3'⟩:=ra9 2 (gL (tLs tI) x j) d2 (by omega) (by omega) (by decide) (by decide)
   obtain⟨v4,d4,e4,p4,q4,r4,r4'⟩:=ra9 2 (gL (tLs tI) x j) d3 (by omega) (by omega) (by decide) (by decide)
   obtain⟨v5,d5,e5,p5,q5,r5,r5'⟩:=ra9 14 (gL (tLs tI) x j) d2 (by omega) (by omega) (by decide) (by decide)
   obtain⟨v6,d6,e6,p6,q6,r6,r6'⟩:=ra9 3 (gL (tLs tI) x j) d5 (by omega) (by omega) (by decide) (by decide)
   obtain⟨v7,d7,e7,p7,q7,r7,r7'⟩:=ra9 2 (gL (tLs tI) x j) d6 (by omega) (by omega) (by decide) (by decide)
   obtain⟨v8,d8,e8,p8,q8,r8,r8'⟩:=ra9 6 (gL (tLs tI) x j) d7 (by omega) (by omega) (by decide) (by decide)
   obtain⟨v9,d9,e9,p9,q9,r9,r9'⟩:=ra9 6 (gL (tLs tI) x j) d8 (by omega) (by omega) (by decide) (by decide)
   obtain⟨va,da,ea,pa,qa,ra,ra'⟩:=ra9 6 (gL (tLs tI) x j) d9 (by omega) (by omega) (by decide) (by decide)
   obtain⟨k,rfl⟩:∃k:Nat,v2=(k:Int):=⟨v2.toNat,by omega⟩
   have hk:k<y.cl.length:=by omega
   have hmem:=S1 tLq hk;have hck:chk (gL tLq y.cl k)=0:=beq_iff_eq.1 (ca8.1 (m.c.f _ hmem)).1;obtain⟨l6,l7⟩:=m.c.k _ hmem;have hw1:W ((j:Int)+1)=((j+1:Nat):Int):=D0 hj (by omega)
   have rm:∀c:PLq,c.length<=100->(Nat.beq c.length c.length&&Nat.ble ((c.length+1)*32) room)=true:=λc hc=>by rw[Qip,Qkl,Qiae];unfold room;omega
   have rm2:∀c:PLq,c.length<=100->Nat.ble (c.length*32) room=true:=λc hc=>by rw[Qiae];unfold room;omega
   have ro:=jd5 O (by omega)
   have rm3:Nat.ble (((gL tLq y.cl k).length+1)*32) room=true:=by rw[Qiae];unfold room;omega
   have fin:∀c:PLq,chk c=0->6<=c.length/\c.length<=8->RCu x (j+1) ⟨1,((j+1:Nat):Int),O.length+1,cpR (O++[c])⟩ (O++[c]):=λc c1 c2 =>
    ⟨hlt,by omega,rfl,by rw[Ab8],by rw[Qdc];rfl,rfl,by rw[Qdc,h7];rfl,h8.app c1 c2⟩
   -- the cells that may come
   have hw2:W (2*v3)=2*v3:=ja8 (by omega) (by omega)
   have hw3:W (1-2*v3)=1-2*v3:=ja8 (by omega) (by omega)
   have hw4:W (1+v4)=1+v4:=ja8 (by omega) (by omega)
   have hv3:v3=0\/v3=1:=by omega
   obtain⟨B,hB,hB1,hB2⟩:∃B:Int,W ((1-2*v3)*(1+v4))=B/\-2<=B/\B<=2:=by
    rcases hv3 with rfl|rfl
    ·exact⟨1+v4,by rw[ja8 (by omega) (by omega)];omega,by omega,by omega⟩
    ·exact⟨-(1+v4),by rw[ja8 (by omega) (by omega)];omega,by omega,by omega⟩
   have okn:okp ⟨⟨0,0,1-2*v3⟩,B⟩=true:=by
    rcases hv3 with rfl|rfl
    ·exact fe8 (by decide) (by decide) (by omega) (by omega)
    ·exact fe8 (by decide) (by decide) (by omega) (by omega)
   have a1:app (bL tP (gL tLq y.cl k)) [[i 0,i 0,i (1-2*v3),i B]]=bL tP (gL tLq y.cl k++[⟨⟨0,0,1-2*v3⟩,B⟩]):=ge0 _ ⟨⟨0,0,1-2*v3⟩,B⟩;have ln:∀p:Pln,(gL tLq y.cl k).length+1=(gL tLq y.cl k++[p]).length:=λp=>by rw[Qdc];rfl
   have c1:∀p:Pln,c7.tree 4 ((gL tLq y.cl k).length+1) (λj=>g8 (bL tP (gL tLq y.cl k++[p])) (0+j))=cpA (gL tLq y.cl k++[p]):=λp=>by rw[ln p];exact kd0 _
   have c0:=kd0 (gL tLq y.cl k);have ckn:chk (gL tLq y.cl k++[⟨⟨0,0,1-2*v3⟩,B⟩])=0:=by
    rw[Ua3] at hck ⊢;refine⟨by rw[Qdc,List.length_singleton];omega,λq hq=>?_⟩
    rcases Qiq.1 hq with hq|hq
    ·exact hck.2 q hq
    ·rw[Qja.1 hq];exact okn
   have u1:W (v5-7)=v5-7:=ja8 (by omega) (by omega)
   have u2:W (v6-1)=v6-1:=ja8 (by omega) (by omega)
   have u3:W (v7-1)=v7-1:=ja8 (by omega) (by omega)
   have u4:W (v5-7+1)=v5-7+1:=ja8 (by omega) (by omega)
   have u5:W (v5-7+1+v8)=v5-7+1+v8:=ja8 (by omega) (by omega)
   have u6:W (v6-1+2)=v6-1+2:=ja8 (by omega) (by omega)
   have u7:W (v6-1+2+v9)=v6-1+2+v9:=ja8 (by omega) (by omega)
   have u8:W (v7-1+2)=v7-1+2:=ja8 (by omega) (by omega)
   have u9:W (v7-1+2+va)=v7-1+2+va:=ja8 (by omega) (by omega)
   have ua:W (0-(v5-7))=-(v5-7):=by rw[ja8 (by omega) (by omega)];omega
   have ub:W (0-(v6-1))=-(v6-1):=by rw[ja8 (by omega) (by omega)];omega
   have uc:W (0-(v7-1))=-(v7-1):=by rw[ja8 (by omega) (by omega)];omega
   have bc:=Id5 (v5-7) (v6-1) (v7-1) (v5-7+1+v8) (v6-1+2+v9) (v7-1+2+va);have bk:chk (bx (v5-7) (v6-1) (v7-1) (v5-7+1+v8) (v6-1+2+v9) (v7-1+2+va))=0:=beq_iff_eq.1 (kd4 (by omega) (by omega) (by omega) (by omega) (by omega) (by omega))
   simp only[Qar] at c0 c1 bc;have hkin:inB (k:Int) y.cl.length=true:=j9 hk;have q11:Nat.beq 1 1=true:=rfl
   -- one round
   have fin':∀(c:PLq),chk c=0->6<=c.length/\c.length<=8->∀s',s'=(⟨1,((j+1:Nat):Int),O.length+1,cpR (O++[c])⟩:Q0)->∃s,(Stp.next s':Stp Q0)=.next s/\∃a',s=a'/\∃O,RCu x (j+1) a' O:=λc c1 c2 s' e=>⟨_,rfl,s',rfl,O++[c],by rw[e];exact fin c c1 c2⟩
   refine .inr ?_
   rcases I8 O with⟨hz,hO⟩|h1
   ·rw[hz];show ∃s,la6 Stp.next Stp.exit Stp.fail _ _=.next s/\_;simp only[la6,j8,o7,Qka,e1,e2,e3,e4,e5,e6,e7,e8,e9,ea,q11,i6,Int.toNat_natCast,hkin,Ka4,O3,Cc1,Qar,rm _ (show (gL tLq y.cl k).length<=100 by omega),rm2 _ (show (gL tLq y.cl k).length<=100 by omega),Qip,Qkl,
     hw1,hw2,hw3,hw4,hB,a1,c1,c0,Ic0,u1,u2,u3,u4,u5,u6,u7,u8,u9,ua,ub,uc,bc,j9 hlt]
    rw[btD (s8 hlt),btD (by omega)]
    subst hO;have f1:=fin' _ ckn ⟨by rw[<- ln];omega,by rw[<- ln];omega⟩
    have f2:=fin' _ hck ⟨by omega,by omega⟩
    have f3:=fin' _ bk ⟨by rw[Bc3];decide,by rw[Bc3];decide⟩
    by_cases k1:v1=1
    ·subst k1;simp only[beq_self_eq_true,show ((1:Int)==2)=false from rfl,rm3,i6,A6]
     exact f1 _ rfl
    ·rw[show (v1==1)=false by simpa using k1,A6]
     by_cases k2:v1=2
     ·subst k2;simp only[beq_self_eq_true,i6];exact f3 _ rfl
     ·rw[show (v1==2)=false by simpa using k2,A6]
      exact f2 _ rfl
   ·rw[h1];show ∃s,la7 Stp.next Stp.exit Stp.fail _ _=.next s/\_;simp only[la7,j8,o7,Qka,e1,e2,e3,e4,e5,e6,e7,e8,e9,ea,q11,i6,Int.toNat_natCast,hkin,Ka4,O3,Cc1,Qar,rm _ (show (gL tLq y.cl k).length<=100 by omega),rm2 _ (show (gL tLq y.cl k).length<=100 by omega),Qip,Qkl,
     hw1,hw2,hw3,hw4,hB,a1,c1,c0,Ic0,u1,u2,u3,u4,u5,u6,u7,u8,u9,ua,ub,uc,bc,j9 hlt,ro,mc9]
    rw[btD (s8 hlt),btD (by omega)]
    have f1:=fin' _ ckn ⟨by rw[<- ln];omega,by rw[<- ln];omega⟩
    have f2:=fin' _ hck ⟨by omega,by omega⟩
    have f3:=fin' _ bk ⟨by rw[Bc3];decide,by rw[Bc3];decide⟩
    by_cases k1:v1=1
    ·subst k1;simp only[beq_self_eq_true,show ((1:Int)==2)=false from rfl,rm3,i6,A6]
     exact f1 _ rfl
    ·rw[show (v1==1)=false by simpa using k1,A6]
     by_cases k2:v1=2
     ·subst k2;simp only[beq_self_eq_true,i6];exact f3 _ rfl
     ·rw[show (v1==2)=false by simpa using k2,A6]
      exact f2 _ rfl
  ·rcases I8 O with⟨hz,hO⟩|h1
   ·refine .inl ⟨1,?_,O,⟨j,hi'⟩,.inl ⟨hz,.inl rfl⟩⟩;rw[hz];show la6 Stp.next Stp.exit Stp.fail _ _=_;simp only[la6];rw[btD (s8 hlt),bfD (by omega)]
   ·refine .inl ⟨3,?_,O,⟨j,hi'⟩,.inr ⟨h1,.inl rfl⟩⟩;rw[h1];show la7 Stp.next Stp.exit Stp.fail _ _=_;simp only[la7];rw[btD (s8 hlt),bfD (by omega)]
 ·rcases I8 O with⟨hz,hO⟩|h1
  ·refine .inl ⟨2,?_,O,⟨j,hi'⟩,.inl ⟨hz,.inr rfl⟩⟩;rw[hz];show la6 Stp.next Stp.exit Stp.fail _ _=_;simp only[la6];rw[bfD (by omega)]
  ·refine .inl ⟨4,?_,O,⟨j,hi'⟩,.inr ⟨h1,.inr rfl⟩⟩;rw[h1];show la7 Stp.next Stp.exit Stp.fail _ _=_;simp only[la7];rw[bfD (by omega)]
theorem Pe4{x:List (List Int)}{y:Prt}(m:Mp y):Rd (one (r1L tLq)) (Tb6 x y) (λr=>r.length<=x.length/\Ct r):=by
 obtain⟨t,s,O,h1,⟨j,h2⟩,h3⟩:=Ze4 (x:=x) m;unfold Tb6;simp only[j8,o7,Qka,i6,h1];have hl:O.length<=x.length:=by rw[h2.l];exact h2.le
 rcases h3 with⟨hz,ht⟩|⟨hz,ht⟩
 ·have hO:=Gf1 hz
  rcases ht with rfl|rfl<;>exact⟨_,[],rfl,qf5 _,by simp,⟨by simp,by simp⟩⟩
 ·rw[h2.n,h2.e]
  rcases ht with rfl|rfl<;>exact⟨_,O,rfl,Mf0 O,hl,h2.t⟩
theorem sf3{x:List (List Int)}{y:Prt}(m:Mp y):(ba4 x y).length<=x.length/\Ct (ba4 x y):=(Pe4 m).p
theorem sf4{x:List (List Int)}{y:Prt}(m:Mp y):yb9 x y=true:=(Pe4 (x:=x) m).g
theorem sf5(x:List (List Int)):Rd (one (r1L (tLs tI))) (Eb4 x) (λr=>r=x.take 3):=by
 have hm:(if 3<(x.length:Int) then 3 else (x.length:Int))=((min x.length 3:Nat):Int):=by split<;>omega
 have hin:inB ((min x.length 3:Nat):Int) (x.length+1)=true:=j9 (by omega)
 obtain⟨h1,h2⟩:=ue6 (tLs tI) x (min x.length 3) (by omega)
 have ht:x.take (min x.length 3)=x.take 3:=by rw[List.take_eq_take_iff];omega
 rw[ht] at h1;unfold Eb4;simp only[hm,hin,i6,Int.toNat_natCast];refine⟨_,x.take 3,rfl,?_,rfl⟩;show Bool.rec (motive:=λ_=>Option (List (List Int))) none (some (lsL (tLs tI) (min x.length 3-0) λk=>(λk=>(tLs tI).row (gL (tLs tI) x k)) (0+k))) (Bool.and (Nat.beq 1 1) (okL (tLs tI) (min x.length 3-0) λk=>(λk=>(tLs tI).row (gL (tLs tI) x k)) (0+k)))=_
 rw[h1,h2];rfl
theorem Vd7(x:List (List Int)):lb1 x=x.take 3:=(sf5 x).p
theorem Vd8(x:List (List Int)):lb2 x=true:=(sf5 x).g
theorem Ct.nil:Ct []:=⟨by simp,by simp⟩
theorem Ct.app2{a c:LPq}(h:Ct a)(k:Ct c):Ct (a++c) :=
 ⟨λq hq=>by rcases Qiq.1 hq with hq | hq;exact h.c q hq;exact k.c q hq,λq hq=>by rcases Qiq.1 hq with hq | hq;exact h.n q hq;exact k.n q hq⟩
theorem Ct.sub{a c:LPq}(h:Ct c)(hs:∀q∈a,q∈c):Ct a:=⟨λq hq=>h.c q (hs q hq),λq hq=>h.n q (hs q hq)⟩
theorem Ct.le{a:LPq}(h:Ct a):∀q∈a,q.length<=1000000:=λq hq=>by have:=(h.n q hq).2;omega
theorem Ct.ne{a:LPq}(h:Ct a):∀q∈a,q≠[]:=λq hq e=>by have:=(h.n q hq).1;rw[e] at this;simp at this
open Classical in
theorem Pe5{s:LPq}{c:PLq}(hc:chk c=0)(hs:schk s=0):((R3 s c).2=0/\((R3 s c).1=true↔Cov s c))\/R3 s c=(false,9):=by
 cases hm:Sb4 c s with
 |some r =>
  rw[(Fe0 (beq_iff_eq.2 hc) hs hm).1];exact .inl ⟨rfl,by simp⟩
 |none =>
  right;unfold R3 tb0;rw[hc,hs,hm];rfl
theorem Eb5{c:PLq}{s:LPq}:ea8 c s=true↔∀q∈s,apart c q=true:=by
 unfold ea8;rw[Qcc,Qbq];constructor
 ·intro h q hq
  have:=h q hq
  simpa using this
 ·intro h q hq;rw[h q hq]
  decide
theorem hc9{l:LPq}{c q:PLq}:q∈D7 l c↔q∈l/\apart q c=false:=by
 unfold D7;rw[Qff,Qcc]
theorem we6{l l':LPq}(c:PLq)(h:∀q∈l,q∈l'):∀q∈D7 l c,q∈D7 l' c:=λq hq=>hc9.2 ⟨h q (hc9.1 hq).1,(hc9.1 hq).2⟩
theorem Pe6{l:LPq}(h:Ct l)(hn:l.length<=16):schk l=0:=Ne9 hn λq hq=>beq_iff_eq.2 (h.c q hq)
structure Wd(x:Prt)(y:Pce)(g:LPq)(n:Nat):Prop where
 su:y.su.length=x.cl.length
 to:y.to.length=x.cl.length
 nc:y.cu.length<=n
 ng:g.length<=2*n
 cc:Ct y.cu
 cg:Ct g
 sub:∀q∈y.cu,q∈g
 ap:∀k,k<x.cl.length->gL tB y.to k=false->∀q∈g,apart (gL tLq x.cl k) q=true
 cov:∀k,k<x.cl.length->gL tB y.su k=true->Cov (D7 y.cu (gL tLq x.cl k)) (gL tLq x.cl k)
theorem Wf7(n:Nat)(v:Bool){k:Nat}(h:k<n):gL tB (List.replicate n v) k=v:=by
 simp[gL,Qda,h]
theorem Wd.new(x:Prt):Wd x (Ye0 x) [] 0:=⟨by show (List.replicate _ _).length=_;simp,by show (List.replicate _ _).length=_;simp,by show 0<=0;omega,by simp,.nil,.nil,λq hq=>(by cases hq),λk hk _ q hq=>(by cases hq),λk hk h=>by
 unfold Ye0 at h;rw[Wf7 _ _ hk] at h;cases h⟩
theorem Wd.pok{x:Prt}(m:Mp x){y:Pce}{g:LPq}{n:Nat}(h:Wd x y g n)(hn:n<=100):Pok y:=⟨by have:=h.su;have:=m.c.n2;omega,by have:=h.to;have:=m.c.n2;omega,by have:=h.nc;omega,h.cc.le⟩
theorem Wd.fit{x:Prt}(m:Mp x){y:Pce}{g:LPq}{n:Nat}(h:Wd x y g n)(hn:n<=24):Nb0 x y=0:=by
 have hc:=h.nc;unfold Nb0 ue7;rw[m.chk,h.su,h.to,Pe3 h.cc.c,decide_eq_true (show (y.cu.length:Int)<=24 by omega)]
 simp
theorem Wd.step{x:Prt}(m:Mp x){y:Pce}{g:LPq}{n:Nat}(h:Wd x y g n)(hn:n<=3){z w w':LPq}(hz:Ct z)(hw:Ct w)(hzn:z.length<=3)(hwn:w.length<=3)(hw':∀q∈w',q∈w)(hwl:w'.length<=w.length) :
  (Wa1 x y z w).2=9\/((Wa1 x y z w).2=0/\Wd x (Wa1 x y z w).1 ((g++z)++w') (n+3)):=by
 have hc:=h.nc;have hnn:=m.c.n2;have ck:Bc5 (z++w)=0:=Pe3 (hz.app2 hw).c;have hcz:Ct (y.cu++z):=h.cc.app2 hz;have hlen:(y.cu++z).length<=16:=by rw[Qdc];omega
 have ans:∀k,k<x.cl.length->(((suJ (y.cu++z) x.cl y.su k).2=0/\((suJ (y.cu++z) x.cl y.su k).1=true->Cov (D7 (y.cu++z) (gL tLq x.cl k)) (gL tLq x.cl k)))\/(suJ (y.cu++z) x.cl y.su k).2=9):=λk hk=>by
  unfold suJ;cases hs:gL tB y.su k with
  |true =>
   rw[if_pos rfl];exact .inl ⟨rfl,λ_=>(h.cov k hk hs).mono (we6 _ λq hq=>Qbj _ hq)⟩
  |false =>
   rw[if_neg (by decide)]
   have hmc:Ct (D7 (y.cu++z) (gL tLq x.cl k)):=hcz.sub λq hq=>(hc9.1 hq).1
   have hml:=yb5 (y.cu++z) (gL tLq x.cl k)
   rcases Pe5 (c:=gL tLq x.cl k) (m.c.chk0 (S1 tLq hk)) (Pe6 hmc (by omega)) with⟨h1,h2⟩|h1
   ·exact .inl ⟨h1,h2.1⟩
   ·rw[h1];exact .inr rfl
 have e:Wa1 x y z w=bd2 z w x.cl (y.cu++z) y.su y.to:=by
  unfold Wa1;rw[h.fit m (by omega),if_neg (by decide),ck,if_neg (by decide),if_neg (by omega)]
 rw[e];unfold bd2;cases hf:(List.range x.cl.length).find? λj=>(suJ (y.cu++z) x.cl y.su j).2 != 0 with
 |some j =>
  have hj:=Qca.1 (List.mem_of_find?_eq_some hf);have hb:=List.find?_some hf;left;show (suJ (y.cu++z) x.cl y.su j).2=9
  rcases ans j hj with⟨h1,_⟩|h1
  ·rw[h1] at hb;cases hb
  ·exact h1
 |none =>
  right;refine⟨rfl,?_⟩;have hall:∀k,k<x.cl.length->(suJ (y.cu++z) x.cl y.su k).2=0:=λk hk=>by
   have:=Qkd.1 hf k (Qca.2 hk)
   simpa using this
  refine⟨by simp,by simp,by show (y.cu++z).length<=_;rw[Qdc];omega,?_,hcz,(h.cg.app2 hz).app2 (hw.sub hw'),λq hq=>?_,λk hk ht q hq=>?_,λk hk hs=>?_⟩
  ·have:=h.ng
   rw[Qdc,Qdc];omega
  ·rcases Qiq.1 hq with hq|hq
   ·exact Qbj _ (Qbj _ (h.sub q hq))
   ·exact Qbj _ (Qce _ hq)
  ·have ht:gL tB ((List.range x.cl.length).map (toJ z w x.cl y.to)) k=false:=ht;rw[Fe4 tB _ _ hk] at ht;unfold toJ at ht;rw[Qlb,Qlb,Qld,Qld] at ht;obtain⟨t1,t2,t3⟩:=ht
   rcases Qiq.1 hq with hq|hq
   ·rcases Qiq.1 hq with hq|hq
    ·exact h.ap k hk t1 q hq
    ·exact Eb5.1 t2 q hq
   ·exact Eb5.1 t3 q (hw' q hq)
  ·have hs:gL tB ((List.range x.cl.length).map λk=>(suJ (y.cu++z) x.cl y.su k).1) k=true:=hs
   rw[Fe4 tB _ _ hk] at hs
   rcases ans k hk with⟨_,h2⟩|h1
   ·exact h2 hs
   ·rw[hall k hk] at h1;cases h1
theorem Wd.keep{x:Prt}(m:Mp x){y:Pce}{g:LPq}{n:Nat}(h:Wd x y g n)(hn:n<=24)(hv:Vb4 x y=0){k:Nat}(hk:k<x.cl.length)(hw:gL tI x.wt k=1):ea8 (gL tLq x.cl k) g=true:=by
 unfold Vb4 at hv;rw[h.fit m hn,if_neg (by decide)] at hv
 split at hv
 ·cases hv
 split at hv
 ·cases hv
 rename_i _ h2;have h2:(List.range x.cl.length).any (Rc8 x y)=false:=by simpa using h2
 have:=Qbq.1 h2 k (Qca.2 hk)
 unfold Rc8 at this;rw[hw] at this;refine Eb5.2 (h.ap k hk (by simpa using this))
theorem Wd.rem{x:Prt}(m:Mp x){y:Pce}{g:LPq}{n:Nat}(h:Wd x y g n)(hn:n<=8)(hv:Vb4 x y=0){k:Nat}(hk:k<x.cl.length)(hw:gL tI x.wt k=2) :
  (R3 (D7 g (gL tLq x.cl k)) (gL tLq x.cl k)).2=9\/(R3 (D7 g (gL tLq x.cl k)) (gL tLq x.cl k)).1=true:=by
 unfold Vb4 at hv;rw[h.fit m (by omega),if_neg (by decide)] at hv
 split at hv
 ·cases hv
 split at hv
 ·cases hv
 split at hv
 ·cases hv
 rename_i h3;have h3:(List.range x.cl.length).any (bd7 x y)=false:=by simpa using h3
 have:=Qbq.1 h3 k (Qca.2 hk)
 unfold bd7 at this;rw[hw] at this;have hs:gL tB y.su k=true:=by simpa using this
 have hmc:Ct (D7 g (gL tLq x.cl k)):=h.cg.sub λq hq=>(hc9.1 hq).1
 have hml:=yb5 g (gL tLq x.cl k);have hng:=h.ng
 rcases Pe5 (c:=gL tLq x.cl k) (m.c.chk0 (S1 tLq hk)) (Pe6 hmc (by omega)) with⟨h1,h2⟩|h1
 ·exact .inr (h2.2 ((h.cov k hk hs).mono (we6 _ h.sub)))
 ·rw[h1];exact .inl rfl
theorem Wd.spo{x:Prt}(m:Mp x){y:Pce}{g:LPq}{n:Nat}(h:Wd x y g n)(hn:n<=24)(hv:Vb4 x y=35):∃k,k<x.cl.length/\gL tI x.wt k=1/\ea8 (gL tLq x.cl k) g=false:=by
 unfold Vb4 at hv;rw[h.fit m hn,if_neg (by decide)] at hv
 split at hv
 ·rename_i h1;obtain⟨k,hk,hs⟩:=Qiaa.1 h1;unfold Rc7 at hs;rw[Qas,beq_iff_eq,Qcc] at hs;refine⟨k,Qca.1 hk,hs.1,?_⟩;cases hg:ea8 (gL tLq x.cl k) g with
  |false=>rfl
  |true =>
   have:=Eb5.2 λq hq=>Eb5.1 hg q (h.sub q hq)
   rw[this] at hs;cases hs.2
 ·split at hv
  ·cases hv
  ·split at hv<;>cases hv
structure Tb8(E:List (List c7))(l:LPq):Prop where
 n:len E=l.length
 r:∀k,k<l.length->∃r,g8 E k=[r]/\tLq.rd [r]=gL tLq l k/\tLq.ok [r]=true
theorem Tb8.cr{E:List (List c7)}{l:LPq}(h:Tb8 E l){n:Nat}(hn:n<=l.length):CR tLq (.tree 1 n (λk=>g8 E (0+k))) (l.take n):=by
 refine .tree tLq ?_ ?_
 ·unfold okL;rw[Qcb];intro k hk;have hk:k<n:=by simpa using hk
  obtain⟨r,h1,_,h3⟩:=h.r k (by omega)
  show tLq.ok (g8 E (0+k))=true;rw[Qar,h1,h3]
 ·unfold lsL;refine Qkc (by simp;omega) λk h1 h2=>?_
  have hk:k<n:=by simpa using h1
  obtain⟨r,g1,g2,_⟩:=h.r k (by omega)
  simp only[List.getElem_map,Qkn,Qar,g1,g2,List.getElem_take];exact eb4 tLq (by omega)
theorem Tb8.all{E:List (List c7)}{l:LPq}(h:Tb8 E l){n:Nat}(hn:n=l.length):CR tLq (.tree 1 n (λk=>g8 E (0+k))) l:=by
 have:=h.cr (n:=n) (by omega)
 rw[hn,Qkb] at this;rw[hn];exact this
theorem Tb8.cp(l:LPq):Tb8 (cpR l) l:=⟨ee6 l,λk hk=>⟨_,vd6 hk,(Oe4 _).1,(Oe4 _).2⟩⟩
theorem Ge5{E:List (List c7)}{j k:Nat}(r:List c7)(hj:j<len E):g8 (setAt E j r) k=if k=j then r else g8 E k:=by
 unfold g8;rw[I6,H4,H4,List.getElem?_set];rw[A3] at hj;by_cases e:j=k
 ·subst e;simp[hj]
 ·rw[if_neg e,if_neg (λh=>e h.symm)]
theorem Tb8.put{E:List (List c7)}{l:LPq}(h:Tb8 E l){j:Nat}(hj:j<l.length)(c:PLq):Tb8 (setAt E j [eL tP c]) (l.set j c):=by
 refine⟨by rw[I6,A3,Qir,<- A3,h.n,Qir],λk hk=>?_⟩
 rw[Qir] at hk;rw[Ge5 _ (by rw[h.n];exact hj),Ge3 tLq l c hj]
 by_cases e:k=j
 ·rw[if_pos e,if_pos e];exact⟨_,rfl,tLq.h1 c,tLq.h2 c⟩
 ·rw[if_neg e,if_neg e];exact h.r k hk
structure ROd(j:Nat)(s:ve9)(O:LPq)(V:List Int):Prop where
 ph:s.ph=1
 ix:s.is7=(O.length:Int)
 n2:s.Pe9=V.length
 e3:s.eh3=cpR O
 n1:s.Qe0=O.length
 e4:s.eh4=bL tI V
 l:O.length=j
 v:V.length=j
 c:∀q∈O,q.length<=1000
structure ge8 where
 bs5:Bool
 (P7 ja0:List Int)
 (ja1 ja2 ja3 ja4:List (List Int))
 (gb9 hb5 hb6 hb7 Na1 Na2:Int)
 Da8:ByteArray
 S3:LPq
 ga6:List Int
 Hf5:ByteArray
 Xf5:LPq
 Xf6:List Int
 ge7:ByteArray
 Hf3:Nat
 gg9:Nat->List c7
structure uc0 where
 ph:Nat
 is8:Int
 sa4:Nat
 eh4:List (List c7)
theorem Pe7(x:Cse):Rd (one r1J) (Aa7 x) (λr=>r=yb8 ⟨x.p0,x.p1⟩):=by
 unfold Aa7;simp only[j8,B8,Qka,Wf6,i6];exact⟨_,_,rfl,sf1 (.eL tLq _) (.eL tI _),rfl⟩
theorem Wf8(x:Cse):tb9 x=yb8 ⟨x.p0,x.p1⟩:=(Pe7 x).p
theorem Wf9(x:Cse):ub0 x=true:=(Pe7 x).g
theorem Tb8.ls{E:List (List c7)}{l:LPq}(h:Tb8 E l){n:Nat}(hn:n=l.length):lsL tLq n (λk=>g8 E (0+k))=l/\okL tLq n (λk=>g8 E (0+k))=true:=by
 have c:=h.all hn;refine⟨c.rd,?_⟩
 have:=c.ok
 exact this
theorem Tb8.app{E:List (List c7)}{l:LPq}(h:Tb8 E l){r:c7}{c:PLq}(h1:tLq.rd [r]=c)(h2:tLq.ok [r]=true):Tb8 (Go.Ev.app E [[r]]) (l++[c]):=by
 have hE:E.length=l.length:=by rw[<- A3];exact h.n
 refine⟨by rw[J9,A3,Qdc,Qdc,hE];rfl,λk hk=>?_⟩
 rw[Qdc,List.length_singleton] at hk;by_cases e:k<l.length
 ·obtain⟨r',g1,g2,g3⟩:=h.r k e;refine⟨r',?_,by rw[cd0 _ _ _ e];exact g2,g3⟩
  rw[<- g1];unfold g8;rw[J9,H4,H4,Qbb (by omega)]
 ·have:k=l.length:=by omega
  subst this;refine⟨r,?_,by rw[fe9];exact h1,h2⟩
  unfold g8;rw[J9,H4,<- hE,Qba (Qaf _),Nat.sub_self];rfl
def sm6(l:LPq)(j:Nat):LPq:=(l.take j).map (·.take 6)
structure RCk(l:LPq)(j:Nat)(s:uc0):Prop where
 le:j<=l.length
 j7:j<=17
 ph:s.ph=if j=0 then 0 else 1
 ix:s.is8=(j:Int)
 n:s.sa4=j
 e:Tb8 s.eh4 (sm6 l j)
end Go.Ev.Ce
