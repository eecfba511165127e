/- Own work. -/
import Derived.Test.YtigadclidanicaaGreatEvOdF
set_option linter.all false
noncomputable section
def Qla:=@List.mem_singleton
def Qlb:=@List.mem_or_eq_of_mem_set
def Qlc:=@List.getElem_of_mem
def Qld:=@Bool.and_eq_true_iff
def Qle:=@List.mem_of_mem_take
namespace Go.Ev.Ce
open Go Go.Ev Go.Ev.L Go.Proofs
set_option maxRecDepth 100000
structure Wb4 where
 is0:Int
 T7:PLq
 (N8 S6:List Bool)
 L5:LPq
def Wb6{α:Type}(kk:la8->α)(x:Wb4):α:=(sl (inB x.is0 (List.length x.N8)) (kk ⟨1,!(gL tB x.N8 x.is0.toNat)⟩) (kk ⟨0,false⟩))
def Ya1(x:Wb4):la8:=Wb6 (λr=>r) x
def zc7(x:Wb4)(r:la8):DT (b7×List c7):=(Ma1 r.alt 1 (b r.bs0,[bq 0 3 [[eL tB x.N8,eL tB x.S6,eL tLq x.L5]]]) .fail)
def Lc6:Sum:=Sa6 ⟨[sIq,sLq tP,sPq 0],[⟨0,3,true,some [[.c 1 (nL tB),.c 1 (nL tB),.c 1 (nL tLq)]]⟩],λa H=>(⟨aIq a 0,aLq tP a 1,hLq tB H 0 0 0,hLq tB H 0 0 1,hLq tLq H 0 0 2⟩,())⟩ (λx=>zc7 x (Ya1 x))
theorem Dd4:l8 prog G 60 Lc6:=K3 (enc:=λx=>⟨[i x.is0,eL tP x.T7,.ptr 0 0 0 0],[bq 0 3 [[eL tB x.N8,eL tB x.S6,eL tLq x.L5]]]⟩) (λa H=>by kernel_rfl) (bd b60 ya0) λx=>Fa0 (mEq @Wb6 (λr=>(zc7 x r).run) x)
structure eb1 where
 n7:LPq
 (N8 S6:List Bool)
 L5:LPq
def Gb4:List (Nat×Sum):=[(60,Lc6)]
theorem Bc4:A4 prog G Gb4:=⟨Dd4,trivial⟩
structure K7 where
 Lb5:LPq
 is9:Int
structure B5 where
 ph:Nat
 ka0:Int
 (N8 S6:List Bool)
 L5:LPq
 ns5:Nat
 eh1:List (List b7)
def ob1(p:K7)(s:B5):St:=⟨.unk::.fn 60 [.ptr 0 0 0 0]::ra 3 (nlq::.unk::.unk::eL tLq p.Lb5::i p.is9::i s.ka0::ra 14 []),[bq 0 3 [[eL tB s.N8,eL tB s.S6,eL tLq s.L5]]]⟩
def ob2(p:K7)(s:B5):St:=⟨.unk::.fn 60 [.ptr 0 0 0 0]::ra 3 (.sl 1 0 s.ns5 0::.unk::.unk::eL tLq p.Lb5::i p.is9::i s.ka0::ra 14 []),[bq 0 3 [[eL tB s.N8,eL tB s.S6,eL tLq s.L5]],bq 35 1 s.eh1]⟩
def uc2(p:K7)(s:B5):St:=(sel (Nat.beq s.ph 1) (ob2 p s) (ob1 p s))
def S4{α:Type}(k:B5->α)(e:Nat->α)(z:α)(p:K7)(s:B5):α:=let y3:=(rt tB s.S6);let y2:=(rt tB s.N8);let y1:=(rt tLq s.L5);let y0:=(gL tLq p.Lb5 s.ka0.toNat);let t1:=(Ya1 ⟨s.ka0,rt tP y0,y2,y3,y1⟩);(sl (decide (s.ka0<p.is9)) (sl (inB s.ka0 (List.length p.Lb5)) (sl ((cnE tP y0)&&((cnE tB s.N8)&&((cnE tB s.S6)&&((cnE tLq s.L5)&&true)))) (sl (Nat.beq t1.alt 1) (sl t1.bs0 (k ⟨1,W (s.ka0+1),y2,y3,y1,1,[[eL tP y0]]⟩) (k ⟨0,W (s.ka0+1),y2,y3,y1,0,[]⟩)) z) z) z) (e 1))
def S5{α:Type}(k:B5->α)(e:Nat->α)(z:α)(p:K7)(s:B5):α:=let y3:=(rt tB s.S6);let y2:=(rt tB s.N8);let y1:=(rt tLq s.L5);let y0:=(gL tLq p.Lb5 s.ka0.toNat);let t1:=(Ya1 ⟨s.ka0,rt tP y0,y2,y3,y1⟩);(sl (decide (s.ka0<p.is9)) (sl (inB s.ka0 (List.length p.Lb5)) (sl ((cnE tP y0)&&((cnE tB s.N8)&&((cnE tB s.S6)&&((cnE tLq s.L5)&&true)))) (sl (Nat.beq t1.alt 1) (sl t1.bs0 (sl (Nat.beq s.ns5 (len s.eh1)&&Nat.ble ((s.ns5+1)*24) room) (k ⟨1,W (s.ka0+1),y2,y3,y1,s.ns5+1,app s.eh1 [[eL tP y0]]⟩) z) (k ⟨1,W (s.ka0+1),y2,y3,y1,s.ns5,s.eh1⟩)) z) z) z) (e 2))
def da6(p:K7)(s:B5):Stp B5:=(sel (Nat.beq s.ph 1) (S5 .next .exit .fail p s) (S4 .next .exit .fail p s))
def Qa8:Lo K7 B5:=⟨En Gb4,1,ig0,[1,1,0,1,4,4],[1,5,8,9,10],.p,[⟨sUq::.fn 60 [.o (.ptr 0 0 0 0)]::ru2 3 (.s (.o .nil)::sUq::sUq::sLq tLq::sIq::sIq::ru2 14 []),[⟨0,3,true,some [[.c 1 (nL tB),.c 1 (nL tB),.c 1 (nL tLq)]]⟩],λa H=>(⟨aLq tLq a 8,aIq a 9⟩,⟨0,aIq a 10,hLq tB H 0 0 0,hLq tB H 0 0 1,hLq tLq H 0 0 2,0,[]⟩)⟩,⟨sUq::.fn 60 [.o (.ptr 0 0 0 0)]::ru2 3 (.s (.o (.sl 1 0 (some 0) none))::sUq::sUq::sLq tLq::sIq::sIq::ru2 14 []),[⟨0,3,true,some [[.c 1 (nL tB),.c 1 (nL tB),.c 1 (nL tLq)]]⟩,⟨35,1,true,none⟩],λa H=>(⟨aLq tLq a 8,aIq a 9⟩,⟨1,aIq a 10,hLq tB H 0 0 0,hLq tB H 0 0 1,hLq tLq H 0 0 2,slN (slT a 5),elT H 1⟩)⟩],da6,[(some 0,λp s=>upq (ob1 p s) [(11,b (decide (s.ka0<p.is9)))]),(some 0,λp s=>upq (ob2 p s) [(11,b (decide (s.ka0<p.is9)))])],uc2⟩
theorem uc3:Qa8.Ok:=Qjt [] .nil λp s=>(.sel (Nat.beq s.ph 1) (.ofq @S5) (.ofq @S4))
structure eb2 where
 alt:Nat
 (N8 S6:List Bool)
 L5:LPq
 ns0:Nat
 eh1:List (List b7)
def eb3{α:Type}(kk:eb2->α)(x:eb1):α:=let t1:=(lp (da6 (⟨rt tLq x.n7,(↑(List.length x.n7):Int)⟩:K7)) (⟨0,0,rt tB x.N8,rt tB x.S6,rt tLq x.L5,0,[]⟩:B5));(sl ((cnE tLq x.n7)&&((cnE tB x.N8)&&((cnE tB x.S6)&&((cnE tLq x.L5)&&true)))) (sl (Nat.beq t1.1 1) (kk ⟨1,t1.2.N8,t1.2.S6,t1.2.L5,0,[]⟩) (sl (Nat.beq t1.1 2) (kk ⟨2,t1.2.N8,t1.2.S6,t1.2.L5,t1.2.ns5,t1.2.eh1⟩) (kk ⟨0,[],[],[],0,[]⟩))) (kk ⟨0,[],[],[],0,[]⟩))
def na9(x:eb1):eb2:=eb3 (λr=>r) x
def Gb5(x:eb1)(r:eb2):DT (b7×List c7):=(Ma1 r.alt 1 (nlq,[bq 0 3 [[eL tB r.N8,eL tB r.S6,eL tLq r.L5]]]) (Ma1 r.alt 2 (.sl 1 0 r.ns0 0,[bq 0 3 [[eL tB r.N8,eL tB r.S6,eL tLq r.L5]],bq 35 1 r.eh1]) .fail))
def Lb8:Sum:=Sa6 ⟨[sLq tLq,.fn 60 [.o (.ptr 0 0 0 0)]],[⟨0,3,true,some [[.c 1 (nL tB),.c 1 (nL tB),.c 1 (nL tLq)]]⟩],λa H=>(⟨aLq tLq a 0,hLq tB H 0 0 0,hLq tB H 0 0 1,hLq tLq H 0 0 2⟩,())⟩ (λx=>Gb5 x (na9 x))
theorem Lc7:l8 prog G 49 Lb8:=K3 (enc:=λx=>⟨[eL tLq x.n7,.fn 60 [.ptr 0 0 0 0]],[bq 0 3 [[eL tB x.N8,eL tB x.S6,eL tLq x.L5]]]⟩) (λa H=>by kernel_rfl) (bd b49 Bc4) λx=>Q3 (.s .p (.s .p (.s (.s .p (.b (.u Qa8.ls))) .p))) [Qa8.pr] (.cons uc3 .nil) (mEq @eb3 (λr=>(Gb5 x r).run) x)
def ae6:List (Nat×Sum):=[(44,Vb4),(49,Lb8),(48,Lc3)]
theorem Ud3:A4 prog G ae6:=⟨xc9,Lc7,Dd2,trivial⟩
def La6(x:Prt)(y:Pce):ROq:=let y1:=(⟨x.nm,rt tLq x.cl,rt tI x.wt⟩:Prt);let y0:=(⟨rt tB y.su,rt tB y.to,rt tLq y.cu⟩:Pce);let t1:=(Wa8 y1 y0);let t2:=(na9 ⟨rt tLq x.cl,rt tB y.su,rt tB y.to,rt tLq y.cu⟩);let t3:=(Xa9 []);let t4:=(Xa9 (lsL tLq t2.ns0 (λk=>c8 t2.eh1 (0+k))));(sl ((okE tLq x.cl)&&((okE tI x.wt)&&true)) (sl ((okE tB y.su)&&((okE tB y.to)&&((okE tLq y.cu)&&true))) (sl (Wa9 y1 y0) (sl (t1 != 0) (some (nlq,[])) (sl ((cnE tLq x.cl)&&((cnE tB y.su)&&((cnE tB y.to)&&((cnE tLq y.cu)&&true)))) (sl (Nat.beq t2.alt 1) (sl (Ya0 []) (some (eL tLq t3,[])) none) (sl (Nat.beq t2.alt 2) (sl (okL tLq t2.ns0 (λk=>c8 t2.eh1 (0+k))) (sl (Ya0 (lsL tLq t2.ns0 (λk=>c8 t2.eh1 (0+k)))) (some (eL tLq t4,[])) none) none) none)) none)) none) none) none)
def ia2(x:Prt)(y:Pce):LPq:=L9 (one (r1L tLq)) (La6 x y)
def ia3(x:Prt)(y:Pce):Bool:=okO (one (r1L tLq)) (La6 x y)
def md4:Sum:=Z7 cJ cO (λx y=>.guard (ia3 x y) (.ret ((one (r1L tLq)).enc (ia2 x y),[])))
theorem ae7:l8 prog G 25 md4:=Sb2 (bd b25 Ud3) (one (r1L tLq)) (o:=La6)
structure Ya2 where
 Ne4:ByteArray
 Xb3:LPq
 vb3:List Int
 (vc3 vc4:List Bool)
 Gb9:LPq
 is1:Int
def Bc5:List (Nat×Sum):=[(27,gc1)]
theorem uc4:A4 prog G Bc5:=⟨Vb1,trivial⟩
def Ya4{α:Type}(kk:la8->α)(x:Ya2):α:=let y0:=(gL tLq x.Xb3 x.is1.toNat);let t1:=(gb9 (rt tP y0) (rt tLq x.Gb9));(sl (inB x.is1 (List.length x.vb3)) (sl ((gL tI x.vb3 x.is1.toNat)==1) (sl (inB x.is1 (List.length x.Xb3)) (sl (okE tP y0) (sl (okE tLq x.Gb9) (sl (hb5 (rt tP y0) (rt tLq x.Gb9)) (kk ⟨1,!t1⟩) (kk ⟨0,false⟩)) (kk ⟨0,false⟩)) (kk ⟨0,false⟩)) (kk ⟨0,false⟩)) (kk ⟨1,false⟩)) (kk ⟨0,false⟩))
def Aa1(x:Ya2):la8:=Ya4 (λr=>r) x
def wb9(x:Ya2)(r:la8):DT (b7×List c7):=(Ma1 r.alt 1 (b r.bs0,[]) .fail)
def Gb6:Sum:=Sa6 ⟨[.agg [.o .val,.c 1 (nL tLq),.c 1 (nL tI),.c 1 (nL tB),.c 1 (nL tB),.c 1 (nL tLq)],sIq],[],λa H=>(⟨Sa1 (slT (cellsOf (slT a 0)) 0),dLq tLq a 0 1,dLq tI a 0 2,dLq tB a 0 3,dLq tB a 0 4,dLq tLq a 0 5,aIq a 1⟩,())⟩ (λx=>wb9 x (Aa1 x))
theorem Bc6:l8 prog G 56 Gb6:=K3 (enc:=λx=>⟨[.agg [.v (.string x.Ne4),eL tLq x.Xb3,eL tI x.vb3,eL tB x.vc3,eL tB x.vc4,eL tLq x.Gb9],i x.is1],[]⟩) (λa H=>by kernel_rfl) (bd b56 uc4) λx=>Fa0 (mEq @Ya4 (λr=>(wb9 x r).run) x)
def Ya7{α:Type}(kk:la8->α)(x:Ya2):α:=(sl (inB x.is1 (List.length x.vb3)) (sl ((gL tI x.vb3 x.is1.toNat)==1) (sl (inB x.is1 (List.length x.vc4)) (kk ⟨1,gL tB x.vc4 x.is1.toNat⟩) (kk ⟨0,false⟩)) (kk ⟨1,false⟩)) (kk ⟨0,false⟩))
def Aa2(x:Ya2):la8:=Ya7 (λr=>r) x
def xb0(x:Ya2)(r:la8):DT (b7×List c7):=(Ma1 r.alt 1 (b r.bs0,[]) .fail)
def Gb7:Sum:=Sa6 ⟨[.agg [.o .val,.c 1 (nL tLq),.c 1 (nL tI),.c 1 (nL tB),.c 1 (nL tB),.c 1 (nL tLq)],sIq],[],λa H=>(⟨Sa1 (slT (cellsOf (slT a 0)) 0),dLq tLq a 0 1,dLq tI a 0 2,dLq tB a 0 3,dLq tB a 0 4,dLq tLq a 0 5,aIq a 1⟩,())⟩ (λx=>xb0 x (Aa2 x))
theorem Bc7:l8 prog G 57 Gb7:=K3 (enc:=λx=>⟨[.agg [.v (.string x.Ne4),eL tLq x.Xb3,eL tI x.vb3,eL tB x.vc3,eL tB x.vc4,eL tLq x.Gb9],i x.is1],[]⟩) (λa H=>by kernel_rfl) (bd b57 ya0) λx=>Fa0 (mEq @Ya7 (λr=>(xb0 x r).run) x)
def mb3{α:Type}(kk:la8->α)(x:Ya2):α:=(sl (inB x.is1 (List.length x.vb3)) (sl ((gL tI x.vb3 x.is1.toNat)==2) (sl (inB x.is1 (List.length x.vc3)) (kk ⟨1,!(gL tB x.vc3 x.is1.toNat)⟩) (kk ⟨0,false⟩)) (kk ⟨1,false⟩)) (kk ⟨0,false⟩))
def La7(x:Ya2):la8:=mb3 (λr=>r) x
def Lb9(x:Ya2)(r:la8):DT (b7×List c7):=(Ma1 r.alt 1 (b r.bs0,[]) .fail)
def Wb7:Sum:=Sa6 ⟨[.agg [.o .val,.c 1 (nL tLq),.c 1 (nL tI),.c 1 (nL tB),.c 1 (nL tB),.c 1 (nL tLq)],sIq],[],λa H=>(⟨Sa1 (slT (cellsOf (slT a 0)) 0),dLq tLq a 0 1,dLq tI a 0 2,dLq tB a 0 3,dLq tB a 0 4,dLq tLq a 0 5,aIq a 1⟩,())⟩ (λx=>Lb9 x (La7 x))
theorem Tc0:l8 prog G 58 Wb7:=K3 (enc:=λx=>⟨[.agg [.v (.string x.Ne4),eL tLq x.Xb3,eL tI x.vb3,eL tB x.vc3,eL tB x.vc4,eL tLq x.Gb9],i x.is1],[]⟩) (λa H=>by kernel_rfl) (bd b58 ya0) λx=>Fa0 (mEq @mb3 (λr=>(Lb9 x r).run) x)
def Ab8:List (Nat×Sum):=[(44,Vb4),(56,Gb6),(57,Gb7),(58,Wb7)]
theorem md5:A4 prog G Ab8:=⟨xc9,Bc6,Bc7,Tc0,trivial⟩
structure E1 where
 xe4:Int
 D4:ByteArray
 b8:LPq
 o6:List Int
 aa1:ByteArray
 D0:LPq
 E7:List Int
 (E8 E9:List Bool)
 D1:LPq
 bd7:ByteArray
 ic1:LPq
 vc5:List Int
 (vc6 vc7:List Bool)
 ic2:LPq
 bd8:ByteArray
 ic3:LPq
 vc8:List Int
 (vc9 wc0:List Bool)
 ic4:LPq
 bd9:ByteArray
 ic5:LPq
 wc1:List Int
 (wc2 wc3:List Bool)
 ic6:LPq
structure w6 where
 ph:Nat
 cd0:Int
def Mb0(p:E1)(s:w6):St:=⟨.unk::.unk::.ptr 0 0 0 0::ra 5 (.ptr 1 0 0 0::ra 19 (.sl 2 0 3 0::i 3::i 0::ra 5 (i p.xe4::i s.cd0::ra 10 []))),[bq 0 3 [[.v (.string p.D4),eL tLq p.b8,eL tI p.o6]],bq 0 2 [[.fn 100056 [.v (.string p.aa1),eL tLq p.D0,eL tI p.E7,eL tB p.E8,eL tB p.E9,eL tLq p.D1],i 35]],bq 91 2 [[.fn 100056 [.v (.string p.bd7),eL tLq p.ic1,eL tI p.vc5,eL tB p.vc6,eL tB p.vc7,eL tLq p.ic2],i 35],[.fn 100057 [.v (.string p.bd8),eL tLq p.ic3,eL tI p.vc8,eL tB p.vc9,eL tB p.wc0,eL tLq p.ic4],i 30],[.fn 100058 [.v (.string p.bd9),eL tLq p.ic5,eL tI p.wc1,eL tB p.wc2,eL tB p.wc3,eL tLq p.ic6],i 34]]]⟩
def Mb1(p:E1)(s:w6):St:=⟨.unk::.unk::.ptr 0 0 0 0::ra 5 (.ptr 1 0 0 0::ra 19 (.sl 2 0 3 0::i 3::i 1::ra 5 (i p.xe4::i s.cd0::ra 10 []))),[bq 0 3 [[.v (.string p.D4),eL tLq p.b8,eL tI p.o6]],bq 0 2 [[.fn 100057 [.v (.string p.aa1),eL tLq p.D0,eL tI p.E7,eL tB p.E8,eL tB p.E9,eL tLq p.D1],i 30]],bq 91 2 [[.fn 100056 [.v (.string p.bd7),eL tLq p.ic1,eL tI p.vc5,eL tB p.vc6,eL tB p.vc7,eL tLq p.ic2],i 35],[.fn 100057 [.v (.string p.bd8),eL tLq p.ic3,eL tI p.vc8,eL tB p.vc9,eL tB p.wc0,eL tLq p.ic4],i 30],[.fn 100058 [.v (.string p.bd9),eL tLq p.ic5,eL tI p.wc1,eL tB p.wc2,eL tB p.wc3,eL tLq p.ic6],i 34]]]⟩
def Mb2(p:E1)(s:w6):St:=⟨.unk::.unk::.ptr 0 0 0 0::ra 5 (.ptr 1 0 0 0::ra 19 (.sl 2 0 3 0::i 3::i 2::ra 5 (i p.xe4::i s.cd0::ra 10 []))),[bq 0 3 [[.v (.string p.D4),eL tLq p.b8,eL tI p.o6]],bq 0 2 [[.fn 100058 [.v (.string p.aa1),eL tLq p.D0,eL tI p.E7,eL tB p.E8,eL tB p.E9,eL tLq p.D1],i 34]],bq 91 2 [[.fn 100056 [.v (.string p.bd7),eL tLq p.ic1,eL tI p.vc5,eL tB p.vc6,eL tB p.vc7,eL tLq p.ic2],i 35],[.fn 100057 [.v (.string p.bd8),eL tLq p.ic3,eL tI p.vc8,eL tB p.vc9,eL tB p.wc0,eL tLq p.ic4],i 30],[.fn 100058 [.v (.string p.bd9),eL tLq p.ic5,eL tI p.wc1,eL tB p.wc2,eL tB p.wc3,eL tLq p.ic6],i 34]]]⟩
def ad6(p:E1)(s:w6):St:=(sel (Nat.beq s.ph 2) (Mb2 p s) (sel (Nat.beq s.ph 1) (Mb1 p s) (Mb0 p s)))
def ea6{α:Type}(k:w6->α)(e:Nat->α)(z:α)(p:E1)(s:w6):α:=let t1:=(Aa1 ⟨p.aa1,rt tLq p.D0,rt tI p.E7,rt tB p.E8,rt tB p.E9,rt tLq p.D1,s.cd0⟩);(sl (decide (s.cd0<p.xe4)) (sl ((cnE tLq p.D0)&&((cnE tI p.E7)&&((cnE tB p.E8)&&((cnE tB p.E9)&&((cnE tLq p.D1)&&true))))) (sl (Nat.beq t1.alt 1) (sl t1.bs0 (e 1) (k ⟨0,W (s.cd0+1)⟩)) z) z) (e 2))
def ea7{α:Type}(k:w6->α)(e:Nat->α)(z:α)(p:E1)(s:w6):α:=let t1:=(Aa2 ⟨p.aa1,rt tLq p.D0,rt tI p.E7,rt tB p.E8,rt tB p.E9,rt tLq p.D1,s.cd0⟩);(sl (decide (s.cd0<p.xe4)) (sl ((cnE tLq p.D0)&&((cnE tI p.E7)&&((cnE tB p.E8)&&((cnE tB p.E9)&&((cnE tLq p.D1)&&true))))) (sl (Nat.beq t1.alt 1) (sl t1.bs0 (e 3) (k ⟨1,W (s.cd0+1)⟩)) z) z) (e 4))
def ea8{α:Type}(k:w6->α)(e:Nat->α)(z:α)(p:E1)(s:w6):α:=let t1:=(La7 ⟨p.aa1,rt tLq p.D0,rt tI p.E7,rt tB p.E8,rt tB p.E9,rt tLq p.D1,s.cd0⟩);(sl (decide (s.cd0<p.xe4)) (sl ((cnE tLq p.D0)&&((cnE tI p.E7)&&((cnE tB p.E8)&&((cnE tB p.E9)&&((cnE tLq p.D1)&&true))))) (sl (Nat.beq t1.alt 1) (sl t1.bs0 (e 5) (k ⟨2,W (s.cd0+1)⟩)) z) z) (e 6))
def K2(p:E1)(s:w6):Stp w6:=(sel (Nat.beq s.ph 2) (ea8 .next .exit .fail p s) (sel (Nat.beq s.ph 1) (ea7 .next .exit .fail p s) (ea6 .next .exit .fail p s)))
abbrev aa8:List Kc:=[.o .val,.c 1 (nL tLq),.c 1 (nL tI),.c 1 (nL tB),.c 1 (nL tB),.c 1 (nL tLq)]
abbrev Ya8:B2:=⟨0,3,true,some [[.o .val,.c 1 (nL tLq),.c 1 (nL tI)]]⟩
abbrev Ya9:B2:=⟨91,2,true,some [[.fn 100056 aa8,.o (.lit .i64 35)],[.fn 100057 aa8,.o (.lit .i64 30)],[.fn 100058 aa8,.o (.lit .i64 34)]]⟩
def Za0(a:List b7)(H:List c7):E1:=⟨aIq a 36,Sa1 (slT (rwT (elT H 0) 0) 0),hLq tLq H 0 0 1,hLq tI H 0 0 2,Sa1 (slT (cellsOf (slT (rwT (elT H 1) 0) 0)) 0),wLq tLq H 1 0 0 1,wLq tI H 1 0 0 2,wLq tB H 1 0 0 3,wLq tB H 1 0 0 4,wLq tLq H 1 0 0 5,Sa1 (slT (cellsOf (slT (rwT (elT H 2) 0) 0)) 0),wLq tLq H 2 0 0 1,wLq tI H 2 0 0 2,wLq tB H 2 0 0 3,wLq tB H 2 0 0 4,wLq tLq H 2 0 0 5,Sa1 (slT (cellsOf (slT (rwT (elT H 2) 1) 0)) 0),wLq tLq H 2 1 0 1,wLq tI H 2 1 0 2,wLq tB H 2 1 0 3,wLq tB H 2 1 0 4,wLq tLq H 2 1 0 5,Sa1 (slT (cellsOf (slT (rwT (elT H 2) 2) 0)) 0),wLq tLq H 2 2 0 1,wLq tI H 2 2 0 2,wLq tB H 2 2 0 3,wLq tB H 2 2 0 4,wLq tLq H 2 2 0 5⟩
def ub4:Lo E1 w6:=⟨En Ab8,0,Pf1,[1,1,1,0,1,4,4,1,1,0,4,1,1,4,4],[2,8,28,29,30,36,37],.p,[⟨sUq::sUq::sPq 0::ru2 5 (sPq 1::ru2 19 (.s (.o (.sl 2 0 (some 0) (some 3)))::.s (.o (.lit .i64 3))::.s (.o (.lit .i64 0))::ru2 5 (sIq::sIq::ru2 10 []))),[Ya8,⟨0,2,true,some [[.fn 100056 aa8,.o (.lit .i64 35)]]⟩,Ya9],λa H=>(Za0 a H,⟨0,aIq a 37⟩)⟩,⟨sUq::sUq::sPq 0::ru2 5 (sPq 1::ru2 19 (.s (.o (.sl 2 0 (some 0) (some 3)))::.s (.o (.lit .i64 3))::.s (.o (.lit .i64 1))::ru2 5 (sIq::sIq::ru2 10 []))),[Ya8,⟨0,2,true,some [[.fn 100057 aa8,.o (.lit .i64 30)]]⟩,Ya9],λa H=>(Za0 a H,⟨1,aIq a 37⟩)⟩,⟨sUq::sUq::sPq 0::ru2 5 (sPq 1::ru2 19 (.s (.o (.sl 2 0 (some 0) (some 3)))::.s (.o (.lit .i64 3))::.s (.o (.lit .i64 2))::ru2 5 (sIq::sIq::ru2 10 []))),[Ya8,⟨0,2,true,some [[.fn 100058 aa8,.o (.lit .i64 34)]]⟩,Ya9],λa H=>(Za0 a H,⟨2,aIq a 37⟩)⟩],K2,[(none,λp s=>⟨[i 35],[]⟩),(some 2,λp s=>upq (Mb0 p s) [(38,b (decide (s.cd0<p.xe4)))]),(none,λp s=>⟨[i 30],[]⟩),(some 2,λp s=>upq (Mb1 p s) [(38,b (decide (s.cd0<p.xe4)))]),(none,λp s=>⟨[i 34],[]⟩),(some 2,λp s=>upq (Mb2 p s) [(38,b (decide (s.cd0<p.xe4)))])],ad6⟩
theorem ad7:ub4.Ok:=Qjt [] .nil λp s=>(.sel (Nat.beq s.ph 2) (.ofq @ea8) (.sel (Nat.beq s.ph 1) (.ofq @ea7) (.ofq @ea6)))
structure G0 where
 (D4 aa1 Za4 Za5:ByteArray)
structure A6 where
 ph:Nat
 b8:LPq
 o6:List Int
 D0:LPq
 E7:List Int
 (E8 E9:List Bool)
 (D1 Y0:LPq)
 da8:List Int
 (da9 ea0:List Bool)
 (Y1 Y2:LPq)
 ea1:List Int
 (ea2 ea3:List Bool)
 Y3:LPq
def Tc1(p:G0)(s:A6):St:=⟨.unk::.unk::.ptr 0 0 0 0::ra 25 (.sl 1 0 3 0::i 3::i 0::ra 17 []),[bq 0 3 [[.v (.string p.D4),eL tLq s.b8,eL tI s.o6]],bq 91 2 [[.fn 100056 [.v (.string p.aa1),eL tLq s.D0,eL tI s.E7,eL tB s.E8,eL tB s.E9,eL tLq s.D1],i 35],[.fn 100057 [.v (.string p.Za4),eL tLq s.Y0,eL tI s.da8,eL tB s.da9,eL tB s.ea0,eL tLq s.Y1],i 30],[.fn 100058 [.v (.string p.Za5),eL tLq s.Y2,eL tI s.ea1,eL tB s.ea2,eL tB s.ea3,eL tLq s.Y3],i 34]]]⟩
def Tc2(p:G0)(s:A6):St:=⟨.unk::.unk::.ptr 0 0 0 0::ra 25 (.sl 1 0 3 0::i 3::i 1::ra 17 []),[bq 0 3 [[.v (.string p.D4),eL tLq s.b8,eL tI s.o6]],bq 91 2 [[.fn 100056 [.v (.string p.aa1),eL tLq s.D0,eL tI s.E7,eL tB s.E8,eL tB s.E9,eL tLq s.D1],i 35],[.fn 100057 [.v (.string p.Za4),eL tLq s.Y0,eL tI s.da8,eL tB s.da9,eL tB s.ea0,eL tLq s.Y1],i 30],[.fn 100058 [.v (.string p.Za5),eL tLq s.Y2,eL tI s.ea1,eL tB s.ea2,eL tB s.ea3,eL tLq s.Y3],i 34]]]⟩
def Tc3(p:G0)(s:A6):St:=⟨.unk::.unk::.ptr 0 0 0 0::ra 25 (.sl 1 0 3 0::i 3::i 2::ra 17 []),[bq 0 3 [[.v (.string p.D4),eL tLq s.b8,eL tI s.o6]],bq 91 2 [[.fn 100056 [.v (.string p.aa1),eL tLq s.D0,eL tI s.E7,eL tB s.E8,eL tB s.E9,eL tLq s.D1],i 35],[.fn 100057 [.v (.string p.Za4),eL tLq s.Y0,eL tI s.da8,eL tB s.da9,eL tB s.ea0,eL tLq s.Y1],i 30],[.fn 100058 [.v (.string p.Za5),eL tLq s.Y2,eL tI s.ea1,eL tB s.ea2,eL tB s.ea3,eL tLq s.Y3],i 34]]]⟩
def Mb3(p:G0)(s:A6):St:=⟨.unk::.unk::.ptr 0 0 0 0::ra 25 (.sl 1 0 3 0::i 3::i 3::ra 17 []),[bq 0 3 [[.v (.string p.D4),eL tLq s.b8,eL tI s.o6]],bq 91 2 [[.fn 100056 [.v (.string p.aa1),eL tLq s.D0,eL tI s.E7,eL tB s.E8,eL tB s.E9,eL tLq s.D1],i 35],[.fn 100057 [.v (.string p.Za4),eL tLq s.Y0,eL tI s.da8,eL tB s.da9,eL tB s.ea0,eL tLq s.Y1],i 30],[.fn 100058 [.v (.string p.Za5),eL tLq s.Y2,eL tI s.ea1,eL tB s.ea2,eL tB s.ea3,eL tLq s.Y3],i 34]]]⟩
def ad8(p:G0)(s:A6):St:=(sel (Nat.beq s.ph 3) (Mb3 p s) (sel (Nat.beq s.ph 2) (Tc3 p s) (sel (Nat.beq s.ph 1) (Tc2 p s) (Tc1 p s))))
def Ea2{α:Type}(k:A6->α)(e:Nat->α)(z:α)(p:G0)(s:A6):α:=let y16:=(rt tI s.o6);let y15:=(rt tLq s.b8);let y14:=(rt tB s.ea3);let y13:=(rt tB s.ea2);let y12:=(rt tI s.ea1);let y11:=(rt tB s.ea0);let y10:=(rt tB s.da9);let y9:=(rt tI s.da8);let y8:=(rt tLq s.Y3);let y7:=(rt tLq s.Y2);let y6:=(rt tLq s.Y1);let y5:=(rt tLq s.Y0);let y4:=(rt tB s.E9);let y3:=(rt tB s.E8);let y2:=(rt tI s.E7);let y1:=(rt tLq s.D1);let y0:=(rt tLq s.D0);let t1:=(lp (K2 (⟨(↑(List.length s.b8):Int),p.D4,y15,y16,p.aa1,y0,y2,y3,y4,y1,p.aa1,y0,y2,y3,y4,y1,p.Za4,y5,y9,y10,y11,y6,p.Za5,y7,y12,y13,y14,y8⟩:E1)) (⟨0,0⟩:w6));(sl ((cnE tLq s.b8)&&((cnE tI s.o6)&&((cnE tLq s.D0)&&((cnE tI s.E7)&&((cnE tB s.E8)&&((cnE tB s.E9)&&((cnE tLq s.D1)&&((cnE tLq s.D0)&&((cnE tI s.E7)&&((cnE tB s.E8)&&((cnE tB s.E9)&&((cnE tLq s.D1)&&((cnE tLq s.Y0)&&((cnE tI s.da8)&&((cnE tB s.da9)&&((cnE tB s.ea0)&&((cnE tLq s.Y1)&&((cnE tLq s.Y2)&&((cnE tI s.ea1)&&((cnE tB s.ea2)&&((cnE tB s.ea3)&&((cnE tLq s.Y3)&&true)))))))))))))))))))))) (sl (Nat.beq t1.1 1) (e 1) (sl (Nat.beq t1.1 2) (k ⟨1,y15,y16,y0,y2,y3,y4,y1,y5,y9,y10,y11,y6,y7,y12,y13,y14,y8⟩) (sl (Nat.beq t1.1 3) (e 2) (sl (Nat.beq t1.1 4) (k ⟨2,y15,y16,y0,y2,y3,y4,y1,y5,y9,y10,y11,y6,y7,y12,y13,y14,y8⟩) (sl (Nat.beq t1.1 5) (e 3) (sl (Nat.beq t1.1 6) (k ⟨3,y15,y16,y0,y2,y3,y4,y1,y5,y9,y10,y11,y6,y7,y12,y13,y14,y8⟩) z)))))) z)
def Ea3{α:Type}(k:A6->α)(e:Nat->α)(z:α)(p:G0)(s:A6):α:=let y16:=(rt tI s.o6);let y15:=(rt tLq s.b8);let y14:=(rt tB s.ea3);let y13:=(rt tB s.ea2);let y12:=(rt tI s.ea1);let y11:=(rt tB s.E9);let y10:=(rt tB s.E8);let y9:=(rt tI s.E7);let y8:=(rt tLq s.Y3);let y7:=(rt tLq s.Y2);let y6:=(rt tLq s.D1);let y5:=(rt tLq s.D0);let y4:=(rt tB s.ea0);let y3:=(rt tB s.da9);let y2:=(rt tI s.da8);let y1:=(rt tLq s.Y1);let y0:=(rt tLq s.Y0);let t1:=(lp (K2 (⟨(↑(List.length s.b8):Int),p.D4,y15,y16,p.Za4,y0,y2,y3,y4,y1,p.aa1,y5,y9,y10,y11,y6,p.Za4,y0,y2,y3,y4,y1,p.Za5,y7,y12,y13,y14,y8⟩:E1)) (⟨1,0⟩:w6));(sl ((cnE tLq s.b8)&&((cnE tI s.o6)&&((cnE tLq s.Y0)&&((cnE tI s.da8)&&((cnE tB s.da9)&&((cnE tB s.ea0)&&((cnE tLq s.Y1)&&((cnE tLq s.D0)&&((cnE tI s.E7)&&((cnE tB s.E8)&&((cnE tB s.E9)&&((cnE tLq s.D1)&&((cnE tLq s.Y0)&&((cnE tI s.da8)&&((cnE tB s.da9)&&((cnE tB s.ea0)&&((cnE tLq s.Y1)&&((cnE tLq s.Y2)&&((cnE tI s.ea1)&&((cnE tB s.ea2)&&((cnE tB s.ea3)&&((cnE tLq s.Y3)&&true)))))))))))))))))))))) (sl (Nat.beq t1.1 1) (e 1) (sl (Nat.beq t1.1 2) (k ⟨1,y15,y16,y5,y9,y10,y11,y6,y0,y2,y3,y4,y1,y7,y12,y13,y14,y8⟩) (sl (Nat.beq t1.1 3) (e 2) (sl (Nat.beq t1.1 4) (k ⟨2,y15,y16,y5,y9,y10,y11,y6,y0,y2,y3,y4,y1,y7,y12,y13,y14,y8⟩) (sl (Nat.beq t1.1 5) (e 3) (sl (Nat.beq t1.1 6) (k ⟨3,y15,y16,y5,y9,y10,y11,y6,y0,y2,y3,y4,y1,y7,y12,y13,y14,y8⟩) z)))))) z)
def Ea4{α:Type}(k:A6->α)(e:Nat->α)(z:α)(p:G0)(s:A6):α:=let y16:=(rt tI s.o6);let y15:=(rt tLq s.b8);let y14:=(rt tB s.ea0);let y13:=(rt tB s.da9);let y12:=(rt tI s.da8);let y11:=(rt tB s.E9);let y10:=(rt tB s.E8);let y9:=(rt tI s.E7);let y8:=(rt tLq s.Y1);let y7:=(rt tLq s.Y0);let y6:=(rt tLq s.D1);let y5:=(rt tLq s.D0);let y4:=(rt tB s.ea3);let y3:=(rt tB s.ea2);let y2:=(rt tI s.ea1);let y1:=(rt tLq s.Y3);let y0:=(rt tLq s.Y2);let t1:=(lp (K2 (⟨(↑(List.length s.b8):Int),p.D4,y15,y16,p.Za5,y0,y2,y3,y4,y1,p.aa1,y5,y9,y10,y11,y6,p.Za4,y7,y12,y13,y14,y8,p.Za5,y0,y2,y3,y4,y1⟩:E1)) (⟨2,0⟩:w6));(sl ((cnE tLq s.b8)&&((cnE tI s.o6)&&((cnE tLq s.Y2)&&((cnE tI s.ea1)&&((cnE tB s.ea2)&&((cnE tB s.ea3)&&((cnE tLq s.Y3)&&((cnE tLq s.D0)&&((cnE tI s.E7)&&((cnE tB s.E8)&&((cnE tB s.E9)&&((cnE tLq s.D1)&&((cnE tLq s.Y0)&&((cnE tI s.da8)&&((cnE tB s.da9)&&((cnE tB s.ea0)&&((cnE tLq s.Y1)&&((cnE tLq s.Y2)&&((cnE tI s.ea1)&&((cnE tB s.ea2)&&((cnE tB s.ea3)&&((cnE tLq s.Y3)&&true)))))))))))))))))))))) (sl (Nat.beq t1.1 1) (e 1) (sl (Nat.beq t1.1 2) (k ⟨1,y15,y16,y5,y9,y10,y11,y6,y7,y12,y13,y14,y8,y0,y2,y3,y4,y1⟩) (sl (Nat.beq t1.1 3) (e 2) (sl (Nat.beq t1.1 4) (k ⟨2,y15,y16,y5,y9,y10,y11,y6,y7,y12,y13,y14,y8,y0,y2,y3,y4,y1⟩) (sl (Nat.beq t1.1 5) (e 3) (sl (Nat.beq t1.1 6) (k ⟨3,y15,y16,y5,y9,y10,y11,y6,y7,y12,y13,y14,y8,y0,y2,y3,y4,y1⟩) z)))))) z)
def Mb4{α:Type}(k:A6->α)(e:Nat->α)(z:α)(p:G0)(s:A6):α:=(e 4)
def aa0(p:G0)(s:A6):Stp A6:=(sel (Nat.beq s.ph 3) (Mb4 .next .exit .fail p s) (sel (Nat.beq s.ph 2) (Ea4 .next .exit .fail p s) (sel (Nat.beq s.ph 1) (Ea3 .next .exit .fail p s) (Ea2 .next .exit .fail p s))))
abbrev Za1:List Kc:=[.o .val,.c 1 (nL tLq),.c 1 (nL tI),.c 1 (nL tB),.c 1 (nL tB),.c 1 (nL tLq)]
abbrev Aa3:B2:=⟨0,3,true,some [[.o .val,.c 1 (nL tLq),.c 1 (nL tI)]]⟩
abbrev Aa4:B2:=⟨91,2,true,some [[.fn 100056 Za1,.o (.lit .i64 35)],[.fn 100057 Za1,.o (.lit .i64 30)],[.fn 100058 Za1,.o (.lit .i64 34)]]⟩
def Aa5(a:List b7)(H:List c7):G0:=⟨Sa1 (slT (rwT (elT H 0) 0) 0),Sa1 (slT (cellsOf (slT (rwT (elT H 1) 0) 0)) 0),Sa1 (slT (cellsOf (slT (rwT (elT H 1) 1) 0)) 0),Sa1 (slT (cellsOf (slT (rwT (elT H 1) 2) 0)) 0)⟩
def Aa6(n:Nat)(a:List b7)(H:List c7):A6:=⟨n,hLq tLq H 0 0 1,hLq tI H 0 0 2,wLq tLq H 1 0 0 1,wLq tI H 1 0 0 2,wLq tB H 1 0 0 3,wLq tB H 1 0 0 4,wLq tLq H 1 0 0 5,wLq tLq H 1 1 0 1,wLq tI H 1 1 0 2,wLq tB H 1 1 0 3,wLq tB H 1 1 0 4,wLq tLq H 1 1 0 5,wLq tLq H 1 2 0 1,wLq tI H 1 2 0 2,wLq tB H 1 2 0 3,wLq tB H 1 2 0 4,wLq tLq H 1 2 0 5⟩
def ub5:Lo G0 A6:=⟨En Ab8,0,Pf1,[1,1,1,0,1,4,4],[2,28,29,30],.s .p (.s .p (.s (.b (.s .p (.s .p (.b (.u ub4.ls))))) .p)),[⟨sUq::sUq::sPq 0::ru2 25 (.s (.o (.sl 1 0 (some 0) (some 3)))::.s (.o (.lit .i64 3))::.s (.o (.lit .i64 0))::ru2 17 []),[Aa3,Aa4],λa H=>(Aa5 a H,Aa6 0 a H)⟩,⟨sUq::sUq::sPq 0::ru2 25 (.s (.o (.sl 1 0 (some 0) (some 3)))::.s (.o (.lit .i64 3))::.s (.o (.lit .i64 1))::ru2 17 []),[Aa3,Aa4],λa H=>(Aa5 a H,Aa6 1 a H)⟩,⟨sUq::sUq::sPq 0::ru2 25 (.s (.o (.sl 1 0 (some 0) (some 3)))::.s (.o (.lit .i64 3))::.s (.o (.lit .i64 2))::ru2 17 []),[Aa3,Aa4],λa H=>(Aa5 a H,Aa6 2 a H)⟩,⟨sUq::sUq::sPq 0::ru2 25 (.s (.o (.sl 1 0 (some 0) (some 3)))::.s (.o (.lit .i64 3))::.s (.o (.lit .i64 3))::ru2 17 []),[Aa3,Aa4],λa H=>(Aa5 a H,Aa6 3 a H)⟩],aa0,[(none,λp s=>⟨[i 35],[]⟩),(none,λp s=>⟨[i 30],[]⟩),(none,λp s=>⟨[i 34],[]⟩),(some 0,λp s=>upq (Mb3 p s) [(31,b false)])],ad8⟩
theorem ad9:ub5.Ok:=Qjt [ub4.pr] (.cons ad7 .nil) λp s=>(.sel (Nat.beq s.ph 3) (.ofq @Mb4) (.sel (Nat.beq s.ph 2) (.ofq @Ea4) (.sel (Nat.beq s.ph 1) (.ofq @Ea3) (.ofq @Ea2))))
def Oa7(x:Prt)(y:Pce):ROq:=let y1:=(⟨x.nm,rt tLq x.cl,rt tI x.wt⟩:Prt);let y0:=(⟨rt tB y.su,rt tB y.to,rt tLq y.cu⟩:Pce);let t1:=(Wa8 y1 y0);let t2:=(lp (aa0 (⟨x.nm,x.nm,x.nm,x.nm⟩:G0)) (⟨0,rt tLq x.cl,rt tI x.wt,rt tLq x.cl,rt tI x.wt,rt tB y.su,rt tB y.to,rt tLq y.cu,rt tLq x.cl,rt tI x.wt,rt tB y.su,rt tB y.to,rt tLq y.cu,rt tLq x.cl,rt tI x.wt,rt tB y.su,rt tB y.to,rt tLq y.cu⟩:A6));(sl ((okE tLq x.cl)&&((okE tI x.wt)&&true)) (sl ((okE tB y.su)&&((okE tB y.to)&&((okE tLq y.cu)&&true))) (sl (Wa9 y1 y0) (sl (t1 != 0) (some (i t1,[])) (sl ((cnE tLq x.cl)&&((cnE tI x.wt)&&((cnE tLq x.cl)&&((cnE tI x.wt)&&((cnE tB y.su)&&((cnE tB y.to)&&((cnE tLq y.cu)&&((cnE tLq x.cl)&&((cnE tI x.wt)&&((cnE tB y.su)&&((cnE tB y.to)&&((cnE tLq y.cu)&&((cnE tLq x.cl)&&((cnE tI x.wt)&&((cnE tB y.su)&&((cnE tB y.to)&&((cnE tLq y.cu)&&true))))))))))))))))) (sl (Nat.beq t2.1 1) (some (i 35,[])) (sl (Nat.beq t2.1 2) (some (i 30,[])) (sl (Nat.beq t2.1 3) (some (i 34,[])) (sl (Nat.beq t2.1 4) (some (i 0,[])) none)))) none)) none) none) none)
def U1(x:Prt)(y:Pce):Int:=L9 (one r1I) (Oa7 x y)
def U2(x:Prt)(y:Pce):Bool:=okO (one r1I) (Oa7 x y)
def zc8:Sum:=Z7 cJ cO (λx y=>.guard (U2 x y) (.ret ((one r1I).enc (U1 x y),[])))
theorem ud2:l8 prog G 22 zc8:=dc7 (bd b22 md5) (one r1I) (o:=Oa7) λx y=>Q3 (.s .p (.s .p (.s .p (.s (.s .p (.b (.u ub5.ls))) .p)))) [ub5.pr] (.cons ad9 .nil)
def P9(cl:LPq)(su:List Bool)(j:Nat):LPq:=((List.range j).filter λk=>!gL tB su k).map (gL tLq cl)
theorem Ud4(cl:LPq)(su:List Bool)(j:Nat):P9 cl su (j+1)=P9 cl su j++(if gL tB su j=true then [] else [gL tLq cl j]):=by
 unfold P9;rw[List.range_succ,Qiw,List.map_append];congr 1;have e:List.filter (λk=>!gL tB su k) [j]=if gL tB su j=true then [] else [j]:=by
  show (match !gL tB su j with | true=>j::[] | false=>[])=_
  cases gL tB su j<;>rfl
 rw[e];cases gL tB su j<;>rfl
theorem Rc7(cl:LPq)(su:List Bool)(j:Nat):(P9 cl su j).length<=j:=by
 unfold P9;rw[List.length_map];exact Qai (Qjp _ _) (by simp)
theorem nc7{cl:LPq}{su:List Bool}{j:Nat}(hj:j<=cl.length){q:PLq}(h:q∈P9 cl su j):q∈cl:=by
 unfold P9 at h;obtain⟨k,hk,rfl⟩:=Qbq.1 h
 have:=Qca.1 (Qfc.1 hk).1
 exact M1 tLq (by omega)
theorem Le3{n:Nat}{q:PLq}{su to:List Bool}{cu:LPq}(h:n<su.length):Ya1 ⟨(n:Int),q,su,to,cu⟩=⟨1,!gL tB su n⟩:=by
 unfold Ya1 Wb6;simp only[Int.toNat_natCast];rw[bt (l0 h)]
structure RLf(l:LPq)(su to:List Bool)(cu:LPq)(j:Nat)(s:B5):Prop where
 le:j<=l.length
 ix:s.ka0=(j:Int)
 ph:s.ph=phL (P9 l su j)
 c1:s.N8=su
 c2:s.S6=to
 c3:s.L5=cu
 n:s.ns5=(P9 l su j).length
 e:s.eh1=bL tLq (P9 l su j)
theorem Xe1(l:LPq)(su to:List Bool)(cu:LPq)(hl:l.length<=1000000)(hs:su.length=l.length) :
  ∃t s,lp (da6 ⟨l,(l.length:Int)⟩) ⟨0,0,su,to,cu,0,[]⟩=(t,s)/\RLf l su to cu l.length s/\t=phL (P9 l su l.length)+1:=by
 refine da0 (step:=da6 ⟨l,(l.length:Int)⟩) (mk:=λ_ (s:B5)=>s) l.length (RLf l su to cu) (λt s=>RLf l su to cu l.length s/\t=phL (P9 l su l.length)+1) (by omega)
  (λj s hj hi=>?_) (λj s hj hi=>?_) 0 _ ⟨Qbv _,rfl,rfl,rfl,rfl,rfl,rfl,rfl⟩
 ·obtain⟨_,h2,h3,h6,h7,h8,h4,h5⟩:=hi;obtain⟨ph,is6,c1,c2,c3,ns5,eh0⟩:=s
  simp only at h2 h3 h4 h5 h6 h7 h8
  subst h2 h3 h4 h5 h6 h7 h8;have hw1:W ((j:Int)+1)=((j+1:Nat):Int):=A5 hj (by omega)
  have hgx:inB (j:Int) l.length=true:=l0 hj;have hlen:=Rc7 l c1 j;have hjs:j<c1.length:=by rw[hs];exact hj
  have hnx:∃s,da6 ⟨l,(l.length:Int)⟩ ⟨phL (P9 l c1 j),(j:Int),c1,c2,c3,(P9 l c1 j).length,bL tLq (P9 l c1 j)⟩=.next s/\RLf l c1 c2 c3 (j+1) s:=by
   have hm:=Ud4 l c1 j
   rcases I6 (P9 l c1 j) with⟨h0,hn⟩|h1
   ·rw[h0];refine⟨⟨phL (P9 l c1 (j+1)),((j+1:Nat):Int),c1,c2,c3,(P9 l c1 (j+1)).length,bL tLq (P9 l c1 (j+1))⟩,?_,⟨hj,rfl,rfl,rfl,rfl,rfl,rfl,rfl⟩⟩;show S4 Stp.next Stp.exit Stp.fail _ _=_;simp only[S4,Int.toNat_natCast,l9,s7,Qka,Le3 hjs,hw1,hgx,g7];rw[btD (n8 hj),hm,hn,bt (show Nat.beq 1 1=true from rfl)]
    cases gL tB c1 j<;>rfl
   ·rw[h1];refine⟨⟨phL (P9 l c1 (j+1)),((j+1:Nat):Int),c1,c2,c3,(P9 l c1 (j+1)).length,bL tLq (P9 l c1 (j+1))⟩,?_,⟨hj,rfl,rfl,rfl,rfl,rfl,rfl,rfl⟩⟩;show S5 Stp.next Stp.exit Stp.fail _ _=_;simp only[S5,Int.toNat_natCast,l9,s7,Qka,Le3 hjs,hw1,hgx,g7];rw[btD (n8 hj),hm,bt (show Nat.beq 1 1=true from rfl),bt (ue0 _ (by omega)),ff1]
    cases gL tB c1 j with
    |true =>
     simp only[Qkf,A7,if_true,Qbu,h1]
    |false =>
     simp only[Qit,g7,Qiu,if_false,tb9,Qdc,List.length_singleton]
  obtain⟨s,e1,e2⟩:=hnx;rw[e1];exact .nx ⟨s,rfl,e2⟩
 ·have hje:j=l.length:=by have:=hi.le;omega
  subst hje;have hi':=hi;obtain⟨_,h2,h3,h6,h7,h8,h4,h5⟩:=hi;obtain⟨ph,is6,c1,c2,c3,ns5,eh0⟩:=s
  simp only at h2 h3 h4 h5 h6 h7 h8
  subst h2 h3 h4 h5 h6 h7 h8
  rcases I6 (P9 l c1 l.length) with⟨h0,hn⟩|h1
  ·refine⟨1,?_,hi',by rw[h0]⟩
   rw[h0];show S4 Stp.next Stp.exit Stp.fail _ _=_;simp only[S4];rw[bfD (w8 (Qie _))]
  ·refine⟨2,?_,hi',by rw[h1]⟩
   rw[h1];show S5 Stp.next Stp.exit Stp.fail _ _=_;simp only[S5];rw[bfD (w8 (Qie _))]
theorem Hf6(l:LPq)(su to:List Bool)(cu:LPq)(hl:l.length<=1000000)(hs:su.length=l.length) :
  (P9 l su l.length=[]/\na9 ⟨l,su,to,cu⟩=⟨1,su,to,cu,0,[]⟩)\/(P9 l su l.length≠[]/\na9 ⟨l,su,to,cu⟩=⟨2,su,to,cu,(P9 l su l.length).length,bL tLq (P9 l su l.length)⟩):=by
 obtain⟨t,s,h1,h2,h3⟩:=Xe1 l su to cu hl hs;unfold na9 eb3;simp only[l9,s7,Qka,g7,h1,h2.c1,h2.c2,h2.c3]
 rcases I6 (P9 l su l.length) with⟨hz,hnl⟩|hp1
 ·rw[h3,hz];exact .inl ⟨hnl,rfl⟩
 ·rw[h3,hp1,h2.n,h2.e];exact .inr ⟨λe=>(by rw[e] at hp1;cases hp1),rfl⟩
def db7(x:Prt)(y:Pce):LPq:=if (Pb2 x y != 0)=true then [] else P9 x.cl y.su x.cl.length
theorem gf4{x:Prt}{y:Pce}(hx:Jok x)(hy:Pok y)(hxn:∀q∈x.cl,q≠[]):Rd (one (r1L tLq)) (La6 x y) (λr=>r=db7 x y):=by
 have n11:Nat.beq 1 1=true:=rfl;have n21:Nat.beq 2 1=false:=rfl;have n22:Nat.beq 2 2=true:=rfl;have hj:Jok ⟨x.nm,x.cl,x.wt⟩:=⟨hx.cl,hx.wt,hx.pl⟩;have hp:Pok ⟨y.su,y.to,y.cu⟩:=⟨hy.su,hy.to,hy.cu,hy.cl⟩;have f1:=Td9 hj hp;have f2:=Ud0 hj hp;unfold La6 db7;simp only[l9,A3,s7,Qka,g7,f1,f2];rw[show Pb2 ⟨x.nm,x.cl,x.wt⟩ ⟨y.su,y.to,y.cu⟩=Pb2 x y from rfl]
 cases hf:(Pb2 x y != 0) with
 |true=>rw[g7,if_pos rfl];exact⟨_,[],rfl,zd3 _,rfl⟩
 |false =>
  rw[A7,if_neg (show ¬ false=true by decide)]
  obtain⟨_,hs,_⟩:=Lc5 (by simpa using hf)
  have k4:Xa9 []=[]:=Le1 (l:=[]) (by simp) (by simp) (by simp)
  have k5:Ya0 []=true:=Le2 (l:=[]) (by simp) (by simp) (by simp)
  rcases Hf6 x.cl y.su y.to y.cu hx.cl hs with⟨h0,h1⟩|⟨h0,h1⟩
  ·rw[h1,h0];simp only[n11,g7,k4,k5];exact⟨_,[],rfl,ie3 tLq [],rfl⟩
  ·have hl:=Rc7 x.cl y.su x.cl.length;have hlc:=hx.cl;have k6:=Le1 (l:=P9 x.cl y.su x.cl.length) (by omega) (λq hq=>hx.pl q (nc7 (Qaf _) hq)) (λq hq=>hxn q (nc7 (Qaf _) hq))
   have k7:=Le2 (l:=P9 x.cl y.su x.cl.length) (by omega) (λq hq=>hx.pl q (nc7 (Qaf _) hq)) (λq hq=>hxn q (nc7 (Qaf _) hq))
   rw[h1];simp only[n21,n22,g7,A7,Ag6 tLq (P9 x.cl y.su x.cl.length) rfl,Ag5 tLq (P9 x.cl y.su x.cl.length) rfl,k6,k7];exact⟨_,_,rfl,ie3 tLq _,rfl⟩
theorem mg8{x:Prt}{y:Pce}(hx:Jok x)(hy:Pok y)(hxn:∀q∈x.cl,q≠[]):ia2 x y=db7 x y:=(gf4 hx hy hxn).p
theorem mg9{x:Prt}{y:Pce}(hx:Jok x)(hy:Pok y)(hxn:∀q∈x.cl,q≠[]):ia3 x y=true:=(gf4 hx hy hxn).g
def Lc8(x:Prt)(y:Pce)(k:Nat):Bool:=gL tI x.wt k==1&&!La2 (gL tLq x.cl k) y.cu
def Tc4(x:Prt)(y:Pce)(k:Nat):Bool:=gL tI x.wt k==1&&gL tB y.to k
def bd0(x:Prt)(y:Pce)(k:Nat):Bool:=gL tI x.wt k==2&&!gL tB y.su k
def Le4(x:Prt)(y:Pce):Int:=if (Pb2 x y != 0)=true then Pb2 x y else if (List.range x.cl.length).any (Lc8 x y)=true then 35
 else if (List.range x.cl.length).any (Tc4 x y)=true then 30 else if (List.range x.cl.length).any (bd0 x y)=true then 34 else 0
theorem qf9{x:Prt}{y:Pce}(hx:Jok x)(hy:Pok y){k:Nat}(hk:k<x.cl.length)(hw:x.wt.length=x.cl.length):Aa1 ⟨x.nm,x.cl,x.wt,y.su,y.to,y.cu,(k:Int)⟩=⟨1,Lc8 x y k⟩:=by
 have hc:=hx.pl _ (M1 tLq hk);unfold Aa1 Ya4 Lc8;simp only[Int.toNat_natCast,l9,A3,Rd2 hc hy.cu hy.cl,Rd3 hc hy.cu hy.cl,g7];rw[bt (l0 (show k<x.wt.length by omega)),bt (l0 hk)]
 cases gL tI x.wt k==1<;>rfl
theorem rf0{x:Prt}{y:Pce}{k:Nat}(hk:k<x.cl.length)(hw:x.wt.length=x.cl.length)(ht:y.to.length=x.cl.length):Aa2 ⟨x.nm,x.cl,x.wt,y.su,y.to,y.cu,(k:Int)⟩=⟨1,Tc4 x y k⟩:=by
 unfold Aa2 Ya7 Tc4;simp only[Int.toNat_natCast];rw[bt (l0 (show k<x.wt.length by omega)),bt (l0 (show k<y.to.length by omega))]
 cases gL tI x.wt k==1<;>rfl
theorem Hf7{x:Prt}{y:Pce}{k:Nat}(hk:k<x.cl.length)(hw:x.wt.length=x.cl.length)(ht:y.su.length=x.cl.length):La7 ⟨x.nm,x.cl,x.wt,y.su,y.to,y.cu,(k:Int)⟩=⟨1,bd0 x y k⟩:=by
 unfold La7 mb3 bd0;simp only[Int.toNat_natCast];rw[bt (l0 (show k<x.wt.length by omega)),bt (l0 (show k<y.su.length by omega))]
 cases gL tI x.wt k==2<;>rfl
def VP(x:Prt)(y:Pce):E1:=⟨(x.cl.length:Int),x.nm,x.cl,x.wt,x.nm,x.cl,x.wt,y.su,y.to,y.cu,x.nm,x.cl,x.wt,y.su,y.to,y.cu,x.nm,x.cl,x.wt,y.su,y.to,y.cu,x.nm,x.cl,x.wt,y.su,y.to,y.cu⟩
theorem Tf7{x:Prt}{y:Pce}(hx:Jok x)(hy:Pok y)(hw:x.wt.length=x.cl.length):∃k,lp (K2 (VP x y)) ⟨0,0⟩=(if (List.range x.cl.length).any (Lc8 x y)=true then 1 else 2,(⟨0,((k:Nat):Int)⟩:w6)):=by
 have hxc:=hx.cl;exact tc3 (step:=K2 (VP x y)) (mk:=λk=>(⟨0,(k:Int)⟩:w6)) x.cl.length (Lc8 x y) 1 2 (by omega)
  (λj hj=>by
   unfold VP;show ea6 Stp.next Stp.exit Stp.fail _ _=_;simp only[ea6,l9,s7,Qka,qf9 hx hy hj hw,A5 hj (show x.cl.length<=4611686018427387904 by omega),g7]
   rw[btD (n8 hj),bt (show Nat.beq 1 1=true from rfl)])
  (by
   unfold VP;show ea6 Stp.next Stp.exit Stp.fail _ _=_;simp only[ea6];rw[bfD (w8 (Qie _))])
theorem Tf8{x:Prt}{y:Pce}(hx:Jok x)(hw:x.wt.length=x.cl.length)(ht:y.to.length=x.cl.length):∃k,lp (K2 (VP x y)) ⟨1,0⟩=(if (List.range x.cl.length).any (Tc4 x y)=true then 3 else 4,(⟨1,((k:Nat):Int)⟩:w6)):=by
 have hxc:=hx.cl;exact tc3 (step:=K2 (VP x y)) (mk:=λk=>(⟨1,(k:Int)⟩:w6)) x.cl.length (Tc4 x y) 3 4 (by omega)
  (λj hj=>by
   unfold VP;show ea7 Stp.next Stp.exit Stp.fail _ _=_;simp only[ea7,l9,s7,Qka,rf0 hj hw ht,A5 hj (show x.cl.length<=4611686018427387904 by omega),g7]
   rw[btD (n8 hj),bt (show Nat.beq 1 1=true from rfl)])
  (by
   unfold VP;show ea7 Stp.next Stp.exit Stp.fail _ _=_;simp only[ea7];rw[bfD (w8 (Qie _))])
theorem Tf9{x:Prt}{y:Pce}(hx:Jok x)(hw:x.wt.length=x.cl.length)(ht:y.su.length=x.cl.length):∃k,lp (K2 (VP x y)) ⟨2,0⟩=(if (List.range x.cl.length).any (bd0 x y)=true then 5 else 6,(⟨2,((k:Nat):Int)⟩:w6)):=by
 have hxc:=hx.cl;exact tc3 (step:=K2 (VP x y)) (mk:=λk=>(⟨2,(k:Int)⟩:w6)) x.cl.length (bd0 x y) 5 6 (by omega)
  (λj hj=>by
   unfold VP;show ea8 Stp.next Stp.exit Stp.fail _ _=_;simp only[ea8,l9,s7,Qka,Hf7 hj hw ht,A5 hj (show x.cl.length<=4611686018427387904 by omega),g7]
   rw[btD (n8 hj),bt (show Nat.beq 1 1=true from rfl)])
  (by
   unfold VP;show ea8 Stp.next Stp.exit Stp.fail _ _=_;simp only[ea8];rw[bfD (w8 (Qie _))])
def VS(x:Prt)(y:Pce)(n:Nat):A6:=⟨n,x.cl,x.wt,x.cl,x.wt,y.su,y.to,y.cu,x.cl,x.wt,y.su,y.to,y.cu,x.cl,x.wt,y.su,y.to,y.cu⟩
theorem ng0{x:Prt}{y:Pce}(hx:Jok x)(hy:Pok y)(hw:x.wt.length=x.cl.length)(hs:y.su.length=x.cl.length)(ht:y.to.length=x.cl.length) :
  (lp (aa0 ⟨x.nm,x.nm,x.nm,x.nm⟩) (VS x y 0)).1=if (List.range x.cl.length).any (Lc8 x y)=true then 1
   else if (List.range x.cl.length).any (Tc4 x y)=true then 2 else if (List.range x.cl.length).any (bd0 x y)=true then 3 else 4:=by
 obtain⟨k0,h0⟩:=Tf7 hx hy hw;obtain⟨k1,h1⟩:=Tf8 (y:=y) hx hw ht;obtain⟨k2,h2⟩:=Tf9 (y:=y) hx hw hs;unfold VP at h0 h1 h2;have q:∀n:Nat,Nat.beq n n=true:=λn=>Qim n
 refine sc3 (step := aa0 ⟨x.nm, x.nm, x.nm, x.nm⟩) (I := fun m s => (m = 3 ∧ s = VS x y 0) ∨ (m = 2 ∧ s = VS x y 1 ∧ (List.range x.cl.length).any (Lc8 x y) = false) ∨ (m = 1 ∧ s = VS x y 2 ∧ (List.range x.cl.length).any (Lc8 x y) = false ∧ (List.range x.cl.length).any (Tc4 x y) = false) ∨
   (m=0/\s=VS x y 3/\(List.range x.cl.length).any (Lc8 x y)=false/\(List.range x.cl.length).any (Tc4 x y)=false/\(List.range x.cl.length).any (bd0 x y)=false))
  (Q:=λt _=>t=if (List.range x.cl.length).any (Lc8 x y)=true then 1 else if (List.range x.cl.length).any (Tc4 x y)=true then 2 else if (List.range x.cl.length).any (bd0 x y)=true then 3 else 4)
  (λm s hi=>?_) 3 (VS x y 0) (by decide) (.inl ⟨rfl,rfl⟩)
 rcases hi with⟨rfl,rfl⟩|⟨rfl,rfl,e0⟩|⟨rfl,rfl,e0,e1⟩|⟨rfl,rfl,e0,e1,e2⟩
 ·have hst : aa0 ⟨x.nm, x.nm, x.nm, x.nm⟩ (VS x y 0) = sl ((List.range x.cl.length).any (Lc8 x y)) (.exit 1) (.next (VS x y 1)) := by
   unfold VS;show Ea2 Stp.next Stp.exit Stp.fail _ _=_;simp only[Ea2,l9,s7,Qka,g7,h0];cases (List.range x.cl.length).any (Lc8 x y)<;>rfl
  rw[hst];cases e0:(List.range x.cl.length).any (Lc8 x y) with
  |true=>exact .inl ⟨1,rfl,by rw[if_pos rfl]⟩
  |false=>exact .inr ⟨_,2,rfl,rfl,.inr (.inl ⟨rfl,rfl,rfl⟩)⟩
 ·have hst : aa0 ⟨x.nm, x.nm, x.nm, x.nm⟩ (VS x y 1) = sl ((List.range x.cl.length).any (Tc4 x y)) (.exit 2) (.next (VS x y 2)) := by
   unfold VS;show Ea3 Stp.next Stp.exit Stp.fail _ _=_;simp only[Ea3,l9,s7,Qka,g7,h1];cases (List.range x.cl.length).any (Tc4 x y)<;>rfl
  rw[hst,e0];cases e1:(List.range x.cl.length).any (Tc4 x y) with
  |true=>exact .inl ⟨2,rfl,by rw[if_neg (by decide),if_pos rfl]⟩
  |false=>exact .inr ⟨_,1,rfl,rfl,.inr (.inr (.inl ⟨rfl,rfl,rfl,rfl⟩))⟩
 ·have hst : aa0 ⟨x.nm, x.nm, x.nm, x.nm⟩ (VS x y 2) = sl ((List.range x.cl.length).any (bd0 x y)) (.exit 3) (.next (VS x y 3)) := by
   unfold VS;show Ea4 Stp.next Stp.exit Stp.fail _ _=_;simp only[Ea4,l9,s7,Qka,g7,h2];cases (List.range x.cl.length).any (bd0 x y)<;>rfl
  rw[hst,e0,e1];cases e2:(List.range x.cl.length).any (bd0 x y) with
  |true=>exact .inl ⟨3,rfl,by rw[if_neg (by decide),if_neg (by decide),if_pos rfl]⟩
  |false=>exact .inr ⟨_,0,rfl,rfl,.inr (.inr (.inr ⟨rfl,rfl,rfl,rfl,rfl⟩))⟩
 ·refine .inl ⟨4,rfl,?_⟩;rw[e0,e1,e2];rfl
theorem Ud5{x:Prt}{y:Pce}(hx:Jok x)(hy:Pok y):Oa7 x y=some (i (Le4 x y),[]):=by
 have hj:Jok ⟨x.nm,x.cl,x.wt⟩:=⟨hx.cl,hx.wt,hx.pl⟩;have hp:Pok ⟨y.su,y.to,y.cu⟩:=⟨hy.su,hy.to,hy.cu,hy.cl⟩;have f1:=Td9 hj hp;have f2:=Ud0 hj hp;unfold Oa7 Le4;simp only[l9,A3,s7,Qka,g7,f1,f2];rw[show Pb2 ⟨x.nm,x.cl,x.wt⟩ ⟨y.su,y.to,y.cu⟩=Pb2 x y from rfl]
 cases hf:(Pb2 x y != 0) with
 |true=>rfl
 |false =>
  rw[A7,if_neg (show ¬ false=true by decide)]
  obtain⟨hx0,hs,ht,_⟩:=Lc5 (by simpa using hf)
  obtain⟨_,_,hw,_⟩:=ud1 hx0;have h:=ng0 hx hy hw hs ht;unfold VS at h;rw[h];cases (List.range x.cl.length).any (Lc8 x y)<;>cases (List.range x.cl.length).any (Tc4 x y)<;>cases (List.range x.cl.length).any (bd0 x y)<;>rfl
theorem rf1{x:Prt}{y:Pce}(hx:Jok x)(hy:Pok y):U1 x y=Le4 x y:=by unfold U1;rw[Ud5 hx hy];rfl
theorem rf2{x:Prt}{y:Pce}(hx:Jok x)(hy:Pok y):U2 x y=true:=by unfold U2;rw[Ud5 hx hy];rfl
theorem nc8{x:Prt}{y:Pce}:Pb2 x y=if (vb7 x != 0)=true then vb7 x else if cc4 x y=true then 0 else 4:=rfl
theorem zd4{x:Prt}{y:Pce}(hx:Jok x)(hy:Pok y):ib9 x y=some (i (Le4 x y),[]):=by
 have hxc:=hx.cl;have hj:Jok ⟨x.nm,x.cl,x.wt⟩:=⟨hx.cl,hx.wt,hx.pl⟩;have hp:Pok ⟨y.su,y.to,y.cu⟩:=⟨hy.su,hy.to,hy.cu,hy.cl⟩;have f1:=Gf9 hj;have f2:=We5 hj;have f3:=Gf8 (x:=⟨x.nm,x.cl,x.wt⟩) hp;have f4:=We3 (x:=⟨x.nm,x.cl,x.wt⟩) hp;unfold ib9 Le4;simp only[l9,A3,s7,Qka,g7,f1,f2,f3,f4];rw[show vb7 ⟨x.nm,x.cl,x.wt⟩=vb7 x from rfl,show cc4 ⟨x.nm,x.cl,x.wt⟩ ⟨y.su,y.to,y.cu⟩=cc4 x y from rfl]
 cases hc:(vb7 x != 0) with
 |true =>
  have e:Pb2 x y=vb7 x:=by rw[nc8,hc];rfl
  rw[g7,e,hc];rfl
 |false =>
  rw[A7];cases hf:cc4 x y with
  |false =>
   have e:Pb2 x y=4:=by rw[nc8,hc,hf];rfl
   rw[e];rfl
  |true =>
   have e:Pb2 x y=0:=by rw[nc8,hc,hf];rfl
   obtain⟨hx0,hs,ht,_⟩:=Lc5 e;obtain⟨_,_,hw,_⟩:=ud1 hx0;obtain⟨k0,h0⟩:=tc3 (step:=bb0 ⟨x.nm,x.cl,x.wt,y.su,y.to,y.cu⟩) (mk:=λk=>(⟨(k:Int)⟩:Eb7)) x.cl.length (Lc8 x y) 1 2 (by omega)
    (λj hj=>by
     have hq:=hx.pl _ (M1 tLq hj);show za8 Stp.next Stp.exit Stp.fail _ _=_;simp only[za8,Int.toNat_natCast,l9,A3,qf5 hq hy.cu hy.cl,nc5 hq hy.cu hy.cl,A5 hj (show x.cl.length<=4611686018427387904 by omega),g7,Lc8]
     rw[btD (n8 hj),bt (l0 (show j<x.wt.length by omega)),bt (l0 hj)]
     cases gL tI x.wt j==1<;>rfl)
    (by simp only[bb0,za8];rw[bfD (w8 (Qie _))])
   obtain⟨k1,h1⟩:=tc3 (step:=bb1 ⟨x.nm,x.cl,x.wt,y.su,y.to,y.cu⟩) (mk:=λk=>(⟨(k:Int)⟩:qb8)) x.cl.length (Tc4 x y) 1 2 (by omega)
    (λj hj=>by
     show za9 Stp.next Stp.exit Stp.fail _ _=_;simp only[za9,Int.toNat_natCast,A5 hj (show x.cl.length<=4611686018427387904 by omega),Tc4]
     rw[btD (n8 hj),bt (l0 (show j<x.wt.length by omega)),bt (l0 (show j<y.to.length by omega))]
     cases gL tI x.wt j==1<;>rfl)
    (by simp only[bb1,za9];rw[bfD (w8 (Qie _))])
   obtain⟨k2,h2⟩:=tc3 (step:=bb2 ⟨x.nm,x.cl,x.wt,y.su,y.to,y.cu⟩) (mk:=λk=>(⟨(k:Int)⟩:B8)) x.cl.length (bd0 x y) 1 2 (by omega)
    (λj hj=>by
     show Aa0 Stp.next Stp.exit Stp.fail _ _=_;simp only[Aa0,Int.toNat_natCast,A5 hj (show x.cl.length<=4611686018427387904 by omega),bd0]
     rw[btD (n8 hj),bt (l0 (show j<x.wt.length by omega)),bt (l0 (show j<y.su.length by omega))]
     cases gL tI x.wt j==2<;>rfl)
    (by simp only[bb2,Aa0];rw[bfD (w8 (Qie _))])
   rw[show (⟨0⟩:Eb7)=⟨((0:Nat):Int)⟩ from rfl,show (⟨0⟩:qb8)=⟨((0:Nat):Int)⟩ from rfl,show (⟨0⟩:B8)=⟨((0:Nat):Int)⟩ from rfl,h0,h1,h2,e]
   cases (List.range x.cl.length).any (Lc8 x y)<;>cases (List.range x.cl.length).any (Tc4 x y)<;>cases (List.range x.cl.length).any (bd0 x y)<;>rfl
theorem Xe2{x:Prt}{y:Pce}(hx:Jok x)(hy:Pok y):ba6 x y=Le4 x y:=by unfold ba6;rw[zd4 hx hy];rfl
theorem Xe3{x:Prt}{y:Pce}(hx:Jok x)(hy:Pok y):ba7 x y=true:=by unfold ba7;rw[zd4 hx hy];rfl
structure RLq(cl:LPq)(su:List Bool)(j:Nat)(s:V2):Prop where
 le:j<=cl.length
 ix:s.is6=(j:Int)
 ph:s.ph=phL (P9 cl su j)
 n:s.ns5=(P9 cl su j).length
 e:s.eh2=cpR (P9 cl su j)
theorem Xe4{nm:ByteArray}{wt:List Int}{cl:LPq}{su to:List Bool}{cu:LPq}(hl:cl.length<=1000000)(hp:∀q∈cl,q.length<=1000000)(hs:su.length=cl.length) :
  ∃t s,lp (Pa5 ⟨nm,cl,wt,su,to,cu⟩) ⟨0,0,0,[]⟩=(t,s)/\RLq cl su cl.length s/\t=phL (P9 cl su cl.length)+1:=by
 refine da0 (step:=Pa5 ⟨nm,cl,wt,su,to,cu⟩) (mk:=λ_ (s:V2)=>s) cl.length (RLq cl su) (λt s=>RLq cl su cl.length s/\t=phL (P9 cl su cl.length)+1) (by omega)
  (λj s hj hi=>?_) (λj s hj hi=>?_) 0 _ ⟨Qbv _,rfl,rfl,rfl,rfl⟩
 ·obtain⟨_,h2,h3,h4,h5⟩:=hi;obtain⟨ph,is6,ns5,eh2⟩:=s
  simp only at h2 h3 h4 h5
  subst h2 h3 h4 h5;have hq:=hp _ (M1 tLq hj);have hw1:W ((j:Int)+1)=((j+1:Nat):Int):=A5 hj (by omega)
  have hgx:inB (j:Int) cl.length=true:=l0 hj;have hgs:inB (j:Int) su.length=true:=l0 (by omega)
  have hlen:=Rc7 cl su j;have hm:=Ud4 cl su j;have hnx:Pa5 ⟨nm,cl,wt,su,to,cu⟩ ⟨phL (P9 cl su j),(j:Int),(P9 cl su j).length,cpR (P9 cl su j)⟩=.next ⟨phL (P9 cl su (j+1)),((j+1:Nat):Int),(P9 cl su (j+1)).length,cpR (P9 cl su (j+1))⟩:=by
   rw[hm]
   rcases I6 (P9 cl su j) with⟨h0,hn⟩|h1
   ·rw[h0];show Ha6 Stp.next Stp.exit Stp.fail _ _=_;simp only[Ha6,Int.toNat_natCast,hw1,hgx,hgs,g7,ve0 _ hq,gf1];rw[btD (n8 hj),hn];cases gL tB su j<;>rfl
   ·rw[h1];show Ha7 Stp.next Stp.exit Stp.fail _ _=_;simp only[Ha7,Int.toNat_natCast,hw1,hgx,hgs,g7,ve0 _ hq,gf1];rw[btD (n8 hj),bt (Wb1 _ (by omega))]
    cases gL tB su j with
    |true=>rw[if_pos rfl,Qbu,h1];rfl
    |false=>rw[if_neg (by decide),tb9,Qdc,List.length_singleton,<- bb4];rfl
  show Nx (Pa5 ⟨nm,cl,wt,su,to,cu⟩ ⟨phL (P9 cl su j),(j:Int),(P9 cl su j).length,cpR (P9 cl su j)⟩) _ _;rw[hnx];exact .nx ⟨_,rfl,hj,rfl,rfl,rfl,rfl⟩
 ·have hje:j=cl.length:=by have:=hi.le;omega
  subst hje;have hi':=hi;obtain⟨_,h2,h3,h4,h5⟩:=hi;obtain⟨ph,is6,ns5,eh2⟩:=s
  simp only at h2 h3 h4 h5
  subst h2 h3 h4 h5
  rcases I6 (P9 cl su cl.length) with⟨h0,hn⟩|h1
  ·refine⟨1,?_,hi',by rw[h0]⟩
   rw[h0];show Ha6 Stp.next Stp.exit Stp.fail _ _=_;simp only[Ha6];rw[bfD (w8 (Qie _))]
  ·refine⟨2,?_,hi',by rw[h1]⟩
   rw[h1];show Ha7 Stp.next Stp.exit Stp.fail _ _=_;simp only[Ha7];rw[bfD (w8 (Qie _))]
theorem Le5{x:Prt}{y:Pce}(hx:Jok x)(hy:Pok y):Rd (one (r1L tLq)) (Vb9 x y) (λr=>r=db7 x y):=by
 have hj:Jok ⟨x.nm,x.cl,x.wt⟩:=⟨hx.cl,hx.wt,hx.pl⟩;have hp:Pok ⟨y.su,y.to,y.cu⟩:=⟨hy.su,hy.to,hy.cu,hy.cl⟩;have f1:=Gf9 hj;have f2:=We5 hj;have f3:=Gf8 (x:=⟨x.nm,x.cl,x.wt⟩) hp;have f4:=We3 (x:=⟨x.nm,x.cl,x.wt⟩) hp;unfold Vb9 db7;simp only[l9,A3,s7,Qka,g7,f1,f2,f3,f4];rw[show vb7 ⟨x.nm,x.cl,x.wt⟩=vb7 x from rfl,show cc4 ⟨x.nm,x.cl,x.wt⟩ ⟨y.su,y.to,y.cu⟩=cc4 x y from rfl]
 cases hc:(vb7 x != 0) with
 |true =>
  have e:Pb2 x y=vb7 x:=by rw[nc8,hc];rfl
  rw[g7,e,hc,if_pos rfl];exact⟨_,[],rfl,zd3 _,rfl⟩
 |false =>
  rw[A7];cases hf:cc4 x y with
  |false =>
   have e:Pb2 x y=4:=by rw[nc8,hc,hf];rfl
   rw[e];exact⟨_,[],rfl,zd3 _,rfl⟩
  |true =>
   have e:Pb2 x y=0:=by rw[nc8,hc,hf];rfl
   obtain⟨_,hs,_⟩:=Lc5 e;obtain⟨t,s,q1,q2,q3⟩:=Xe4 (nm:=x.nm) (wt:=x.wt) (to:=y.to) (cu:=y.cu) hx.cl hx.pl hs;rw[q1,e];simp only[Qkf,A7];rw[if_neg (show ¬ ((0:Int) != 0)=true by decide)]
   rcases I6 (P9 x.cl y.su x.cl.length) with⟨h0,hn⟩|h1
   ·rw[q3,h0,hn];exact⟨_,[],rfl,zd3 _,rfl⟩
   ·rw[q3,h1,q2.n,q2.e];exact⟨_,_,rfl,Hf1 _,rfl⟩
theorem Uf0{x:Prt}{y:Pce}(hx:Jok x)(hy:Pok y):La4 x y=db7 x y:=(Le5 hx hy).p
theorem Uf1{x:Prt}{y:Pce}(hx:Jok x)(hy:Pok y):La5 x y=true:=(Le5 hx hy).g
theorem Uf2{x:Prt}(h0:vb7 x=0)(h2:2<=x.cl.length):∀q∈x.cl,q≠[]:=λq hq e=>by
 obtain⟨j,hj,hq⟩:=Qlc hq;rw[<- gb5 tLq hj,e] at hq;have hb:∀k,k<x.cl.length->ful (gL tLq x.cl k)=true/\∀i,i<k->apart (gL tLq x.cl i) (gL tLq x.cl k)=true:=λk hk=>by
  have hb:=Qbk.1 (ud1 h0).2.2.2.2 k (Qca.2 hk);unfold td9 at hb;simp only[Qci,not_or,Qiac,Bool.not_eq_false'] at hb;exact⟨hb.1,λi hi=>by simpa using Qbk.1 hb.2 i (Qca.2 hi)⟩
 have hf:∀c:PLq,ful c=true->apart [] c=false/\apart c []=false:=λc hc=>by
  have h1:=(hb j hj).1;rw[hq] at h1;unfold ful at h1 hc;obtain⟨a1,_⟩:=Qld.1 h1;obtain⟨c1,c2⟩:=Qld.1 hc;unfold apart;rw[a1,c1,List.nil_append,Qbu,c2];exact⟨rfl,rfl⟩
 rcases Qav j with h|h
 ·subst h;have h3:=(hb 1 h2).2 0 (by omega)
  rw[hq,(hf _ (hb 1 h2).1).1] at h3;cases h3
 ·have h3:=(hb j hj).2 0 h;rw[hq,(hf _ (hb 0 (by omega)).1).2] at h3
  cases h3
theorem Le6{x:Prt}{y:Pce}(hx:Jok x)(hy:Pok y)(hne:(∀q∈x.cl,q≠[])\/2<=x.cl.length):ia2 x y=db7 x y/\ia3 x y=true:=by
 cases hf:(Pb2 x y != 0) with
 |false =>
  obtain⟨hx0,_⟩:=Lc5 (by simpa using hf)
  have hn:∀q∈x.cl,q≠[]:=hne.elim (λh=>h) (Uf2 hx0)
  exact⟨mg8 hx hy hn,mg9 hx hy hn⟩
 |true =>
  have hj:Jok ⟨x.nm,x.cl,x.wt⟩:=⟨hx.cl,hx.wt,hx.pl⟩;have hp:Pok ⟨y.su,y.to,y.cu⟩:=⟨hy.su,hy.to,hy.cu,hy.cl⟩;have f1:=Td9 hj hp;have f2:=Ud0 hj hp;have h:Rd (one (r1L tLq)) (La6 x y) (λr=>r=db7 x y):=by
   unfold La6 db7;simp only[l9,A3,s7,Qka,g7,f1,f2];rw[show Pb2 ⟨x.nm,x.cl,x.wt⟩ ⟨y.su,y.to,y.cu⟩=Pb2 x y from rfl,hf,g7,if_pos rfl]
   exact⟨_,[],rfl,zd3 _,rfl⟩
  exact⟨h.p,h.g⟩
def Lc9:List (Nat×Sum):=[(43,Jb6),(36,zb5),(67,rc8),(40,yb6)]
theorem ve3:A4 prog G Lc9:=⟨lc1,Eb6,Hc4,Db0,trivial⟩
structure ia4 where
 is7:Int
 bs8:Bool
 ka0:Int
 D4:ByteArray
 (ke6 ke7:List Int)
 xe5:ByteArray
structure O0 where
 ph:Nat
 (is9 na5:Int)
 I0:List Int
 X4:Int
 B3:Nat
 eh4:List (List b7)
def Mc0(p:ia4)(s:O0):St:=⟨.unk::.unk::.ptr 0 0 0 0::.ptr 1 0 0 0::.unk::.ptr 2 0 0 0::.ptr 3 0 0 0::i p.is7::b p.bs8::i s.is9::i p.ka0::i s.na5::ra 161 [],[bq 0 3 [[.v (.string p.D4),nlq,nlq]],bq 0 2 [[eL tI p.ke6,eL tI p.ke7]],bq 0 2 [[eL tI s.I0,i s.X4]],bq 0 0 [[.v (.string p.xe5),nlq,nlq]]]⟩
def Mc1(p:ia4)(s:O0):St:=⟨.unk::.unk::.ptr 0 0 0 0::.ptr 1 0 0 0::.unk::.ptr 2 0 0 0::.ptr 3 0 0 0::i p.is7::b p.bs8::i s.is9::i p.ka0::i s.na5::ra 161 [],[bq 0 3 [[.v (.string p.D4),nlq,nlq]],bq 0 2 [[eL tI p.ke6,eL tI p.ke7]],bq 0 2 [[eL tI s.I0,i s.X4]],bq 0 0 [[.v (.string p.xe5),.sl 4 0 s.B3 0,nlq]],bq 35 1 s.eh4]⟩
def ae8(p:ia4)(s:O0):St:=(sel (Nat.beq s.ph 1) (Mc1 p s) (Mc0 p s))
def ja6{α:Type}(k:O0->α)(e:Nat->α)(z:α)(p:ia4)(s:O0):α:=let y1:=(rt tI s.I0);let t1:=(g8 ⟨4,y1,s.X4⟩);let y0:=(W (s.is9+(W (1+t1.is0))));let t2:=(Z8 (⟨s.is9,0,0⟩:V3) (⟨y0,3,p.ka0⟩:V3));let t3:=(Z8 (⟨s.is9,3,0⟩:V3) (⟨y0,6,p.ka0⟩:V3));(sl (decide (s.na5<p.is7)) (sl ((cnE tI s.I0)&&true) (sl (Nat.beq t1.alt 1) (sl p.bs8 (k ⟨1,y0,W (s.na5+1),y1,t1.l5,2,[[(.tree 4 6 (λk=>c8 [[i 1,i 0,i 0,i t2.w9],[i (-1),i 0,i 0,i t2.Ba4],[i 0,i 1,i 0,i t2.Ba5],[i 0,i (-1),i 0,i t2.Ba6],[i 0,i 0,i 1,i t2.Ba7],[i 0,i 0,i (-1),i t2.Ba8]] (0+k)))],[(.tree 4 6 (λk=>c8 [[i 1,i 0,i 0,i t3.w9],[i (-1),i 0,i 0,i t3.Ba4],[i 0,i 1,i 0,i t3.Ba5],[i 0,i (-1),i 0,i t3.Ba6],[i 0,i 0,i 1,i t3.Ba7],[i 0,i 0,i (-1),i t3.Ba8]] (0+k)))]]⟩) (k ⟨1,y0,W (s.na5+1),y1,t1.l5,1,[[(.tree 4 6 (λk=>c8 [[i 1,i 0,i 0,i t2.w9],[i (-1),i 0,i 0,i t2.Ba4],[i 0,i 1,i 0,i t2.Ba5],[i 0,i (-1),i 0,i t2.Ba6],[i 0,i 0,i 1,i t2.Ba7],[i 0,i 0,i (-1),i t2.Ba8]] (0+k)))]]⟩)) z) z) (e 1))
def ja7{α:Type}(k:O0->α)(e:Nat->α)(z:α)(p:ia4)(s:O0):α:=let y1:=(rt tI s.I0);let t1:=(g8 ⟨4,y1,s.X4⟩);let y0:=(W (s.is9+(W (1+t1.is0))));let t2:=(Z8 (⟨s.is9,0,0⟩:V3) (⟨y0,3,p.ka0⟩:V3));let t3:=(Z8 (⟨s.is9,3,0⟩:V3) (⟨y0,6,p.ka0⟩:V3));(sl (decide (s.na5<p.is7)) (sl ((cnE tI s.I0)&&true) (sl (Nat.beq t1.alt 1) (sl (Nat.beq s.B3 (len s.eh4)&&Nat.ble ((s.B3+1)*24) room) (sl p.bs8 (sl (Nat.beq (s.B3+1) (len (app s.eh4 [[(.tree 4 6 (λk=>c8 [[i 1,i 0,i 0,i t2.w9],[i (-1),i 0,i 0,i t2.Ba4],[i 0,i 1,i 0,i t2.Ba5],[i 0,i (-1),i 0,i t2.Ba6],[i 0,i 0,i 1,i t2.Ba7],[i 0,i 0,i (-1),i t2.Ba8]] (0+k)))]]))&&Nat.ble (((s.B3+1)+1)*24) room) (k ⟨1,y0,W (s.na5+1),y1,t1.l5,(s.B3+1)+1,(app (app s.eh4 [[(.tree 4 6 (λk=>c8 [[i 1,i 0,i 0,i t2.w9],[i (-1),i 0,i 0,i t2.Ba4],[i 0,i 1,i 0,i t2.Ba5],[i 0,i (-1),i 0,i t2.Ba6],[i 0,i 0,i 1,i t2.Ba7],[i 0,i 0,i (-1),i t2.Ba8]] (0+k)))]]) [[(.tree 4 6 (λk=>c8 [[i 1,i 0,i 0,i t3.w9],[i (-1),i 0,i 0,i t3.Ba4],[i 0,i 1,i 0,i t3.Ba5],[i 0,i (-1),i 0,i t3.Ba6],[i 0,i 0,i 1,i t3.Ba7],[i 0,i 0,i (-1),i t3.Ba8]] (0+k)))]])⟩) z) (k ⟨1,y0,W (s.na5+1),y1,t1.l5,s.B3+1,(app s.eh4 [[(.tree 4 6 (λk=>c8 [[i 1,i 0,i 0,i t2.w9],[i (-1),i 0,i 0,i t2.Ba4],[i 0,i 1,i 0,i t2.Ba5],[i 0,i (-1),i 0,i t2.Ba6],[i 0,i 0,i 1,i t2.Ba7],[i 0,i 0,i (-1),i t2.Ba8]] (0+k)))]])⟩)) z) z) z) (e 2))
def ba8(p:ia4)(s:O0):Stp O0:=(sel (Nat.beq s.ph 1) (ja7 .next .exit .fail p s) (ja6 .next .exit .fail p s))
def zc9(a:List b7)(H:List c7):ia4:=⟨aIq a 7,aBq a 8,aIq a 10,Sa1 (slT (rwT (elT H 0) 0) 0),hLq tI H 1 0 0,hLq tI H 1 0 1,Sa1 (slT (rwT (elT H 3) 0) 0)⟩
def uc5:Lo ia4 O0:=⟨En Lc9,0,hg7,[1,1,1,1,1,1,1,1,1,0,1,4,4],[2,3,5,6,7,8,9,10,11],.p,[⟨sUq::sUq::sPq 0::sPq 1::sUq::sPq 2::sPq 3::sIq::sBq::sIq::sIq::sIq::ru2 161 [],[⟨0,3,true,some [[.o .val,.o .nil,.o .nil]]⟩,⟨0,2,true,some [[.c 1 (nL tI),.c 1 (nL tI)]]⟩,⟨0,2,true,some [[.c 1 (nL tI),.o (.int .i64)]]⟩,⟨0,0,true,some [[.o .val,.o .nil,.o .nil]]⟩],λa H=>(zc9 a H,⟨0,aIq a 9,aIq a 11,hLq tI H 2 0 0,hIq H 2 0 1,0,[]⟩)⟩,⟨sUq::sUq::sPq 0::sPq 1::sUq::sPq 2::sPq 3::sIq::sBq::sIq::sIq::sIq::ru2 161 [],[⟨0,3,true,some [[.o .val,.o .nil,.o .nil]]⟩,⟨0,2,true,some [[.c 1 (nL tI),.c 1 (nL tI)]]⟩,⟨0,2,true,some [[.c 1 (nL tI),.o (.int .i64)]]⟩,⟨0,0,true,some [[.o .val,.o (.sl 4 0 (some 0) none),.o .nil]]⟩,⟨35,1,true,none⟩],λa H=>(zc9 a H,⟨1,aIq a 9,aIq a 11,hLq tI H 2 0 0,hIq H 2 0 1,slN (slT (rwT (elT H 3) 0) 1),elT H 4⟩)⟩],ba8,[(some 2,λp s=>upq (Mc0 p s) [(56,i s.na5),(57,i p.is7),(58,b (decide (s.na5<p.is7)))]),(some 2,λp s=>upq (Mc1 p s) [(56,i s.na5),(57,i p.is7),(58,b (decide (s.na5<p.is7)))])],ae8⟩
theorem ae9:uc5.OkM:=Lo.okMq [] .nil λp s=>(.sel (Nat.beq s.ph 1) (.ofq @ja7) (.ofq @ja6))
structure R6 where
 (D4 Pb5:ByteArray)
 vb2:Nat
structure D9 where
 ph:Nat
 Yb2:Int
 I0:List Int
 X4:Int
 eh3:List (List b7)
 Ea5:Nat
 eh4:List (List b7)
def Mc2(p:R6)(s:D9):St:=⟨.unk::.unk::.ptr 0 0 0 0::ra 3 (.ptr 1 0 0 0::ra 10 (.ptr 2 0 0 0::i s.Yb2::ra 154 [])),[bq 0 3 [[.v (.string p.D4),nlq,nlq]],bq 0 0 [[.v (.string p.Pb5),nlq,nlq]],bq 0 2 [[eL tI s.I0,i s.X4]]]⟩
def Mc3(p:R6)(s:D9):St:=⟨.unk::.unk::.ptr 0 0 0 0::ra 3 (.ptr 1 0 0 0::ra 10 (.ptr 2 0 0 0::i s.Yb2::ra 154 [])),[bq 0 3 [[.v (.string p.D4),nlq,nlq]],bq 0 0 [[.v (.string p.Pb5),.sl 3 0 p.vb2 0,nlq]],bq 0 2 [[eL tI s.I0,i s.X4]],bq 35 1 s.eh3]⟩
def Mc4(p:R6)(s:D9):St:=⟨.unk::.unk::.ptr 0 0 0 0::ra 3 (.ptr 1 0 0 0::ra 10 (.ptr 2 0 0 0::i s.Yb2::ra 154 [])),[bq 0 3 [[.v (.string p.D4),nlq,nlq]],bq 0 0 [[.v (.string p.Pb5),.sl 3 0 p.vb2 0,.sl 4 0 s.Ea5 0]],bq 0 2 [[eL tI s.I0,i s.X4]],bq 35 1 s.eh3,bq 3 1 s.eh4]⟩
def Mc5(p:R6)(s:D9):St:=⟨.unk::.unk::.ptr 0 0 0 0::ra 3 (.ptr 1 0 0 0::ra 10 (.ptr 2 0 0 0::i s.Yb2::ra 154 [])),[bq 0 3 [[.v (.string p.D4),nlq,nlq]],bq 0 0 [[.v (.string p.Pb5),nlq,.sl 3 0 s.Ea5 0]],bq 0 2 [[eL tI s.I0,i s.X4]],bq 3 1 s.eh3]⟩
def be0(p:R6)(s:D9):St:=(sel (Nat.beq s.ph 3) (Mc5 p s) (sel (Nat.beq s.ph 2) (Mc4 p s) (sel (Nat.beq s.ph 1) (Mc3 p s) (Mc2 p s))))
def Mc6{α:Type}(k:D9->α)(e:Nat->α)(z:α)(p:R6)(s:D9):α:=let t1:=(g8 ⟨4,rt tI s.I0,s.X4⟩);let y0:=(c8 [[i 2],[i 1],[i 3],[i 2]] (0+t1.is0.toNat));(sl (decide (s.Yb2<0)) (sl ((cnE tI s.I0)&&true) (sl (Nat.beq t1.alt 1) (sl (inB t1.is0 4) (sl ((Nat.ble 1 (len y0))&&(ka1 [CK.int .i64] y0)) (k ⟨3,W (s.Yb2+1),rt tI s.I0,t1.l5,[[i (toI (hdA y0))]],1,[]⟩) z) z) z) z) (e 1))
def ub6{α:Type}(k:D9->α)(e:Nat->α)(z:α)(p:R6)(s:D9):α:=let t1:=(g8 ⟨4,rt tI s.I0,s.X4⟩);let y0:=(c8 [[i 2],[i 1],[i 3],[i 2]] (0+t1.is0.toNat));(sl (decide (s.Yb2<(↑p.vb2:Int))) (sl ((cnE tI s.I0)&&true) (sl (Nat.beq t1.alt 1) (sl (inB t1.is0 4) (sl ((Nat.ble 1 (len y0))&&(ka1 [CK.int .i64] y0)) (k ⟨2,W (s.Yb2+1),rt tI s.I0,t1.l5,s.eh3,1,[[i (toI (hdA y0))]]⟩) z) z) z) z) (e 2))
def Ia2{α:Type}(k:D9->α)(e:Nat->α)(z:α)(p:R6)(s:D9):α:=let t1:=(g8 ⟨4,rt tI s.I0,s.X4⟩);let y0:=(c8 [[i 2],[i 1],[i 3],[i 2]] (0+t1.is0.toNat));(sl (decide (s.Yb2<(↑p.vb2:Int))) (sl ((cnE tI s.I0)&&true) (sl (Nat.beq t1.alt 1) (sl (inB t1.is0 4) (sl ((Nat.ble 1 (len y0))&&(ka1 [CK.int .i64] y0)) (sl (Nat.beq s.Ea5 (len s.eh4)&&Nat.ble ((s.Ea5+1)*8) room) (k ⟨2,W (s.Yb2+1),rt tI s.I0,t1.l5,s.eh3,s.Ea5+1,app s.eh4 [[i (toI (hdA y0))]]⟩) z) z) z) z) z) (e 3))
def Mc7{α:Type}(k:D9->α)(e:Nat->α)(z:α)(p:R6)(s:D9):α:=let t1:=(g8 ⟨4,rt tI s.I0,s.X4⟩);let y0:=(c8 [[i 2],[i 1],[i 3],[i 2]] (0+t1.is0.toNat));(sl (decide (s.Yb2<0)) (sl ((cnE tI s.I0)&&true) (sl (Nat.beq t1.alt 1) (sl (inB t1.is0 4) (sl ((Nat.ble 1 (len y0))&&(ka1 [CK.int .i64] y0)) (sl (Nat.beq s.Ea5 (len s.eh3)&&Nat.ble ((s.Ea5+1)*8) room) (k ⟨3,W (s.Yb2+1),rt tI s.I0,t1.l5,app s.eh3 [[i (toI (hdA y0))]],s.Ea5+1,[]⟩) z) z) z) z) z) (e 4))
def ia5(p:R6)(s:D9):Stp D9:=(sel (Nat.beq s.ph 3) (Mc7 .next .exit .fail p s) (sel (Nat.beq s.ph 2) (Ia2 .next .exit .fail p s) (sel (Nat.beq s.ph 1) (ub6 .next .exit .fail p s) (Mc6 .next .exit .fail p s))))
abbrev kb9:B2:=⟨0,3,true,some [[.o .val,.o .nil,.o .nil]]⟩
abbrev lb0:B2:=⟨0,2,true,some [[.c 1 (nL tI),.o (.int .i64)]]⟩
def uc6:Lo R6 D9:=⟨En Lc9,0,hg7,[1,1,1,1,1,1,1,1,1,1,1,1,0,1,4,4],[2,6,17,18],.p,[⟨sUq::sUq::sPq 0::ru2 3 (sPq 1::ru2 10 (sPq 2::sIq::ru2 154 [])),[kb9,⟨0,0,true,some [[.o .val,.o .nil,.o .nil]]⟩,lb0],λa H=>(⟨Sa1 (slT (rwT (elT H 0) 0) 0),Sa1 (slT (rwT (elT H 1) 0) 0),0⟩,⟨0,aIq a 18,hLq tI H 2 0 0,hIq H 2 0 1,[],0,[]⟩)⟩,⟨sUq::sUq::sPq 0::ru2 3 (sPq 1::ru2 10 (sPq 2::sIq::ru2 154 [])),[kb9,⟨0,0,true,some [[.o .val,.o (.sl 3 0 (some 0) none),.o .nil]]⟩,lb0,⟨35,1,true,none⟩],λa H=>(⟨Sa1 (slT (rwT (elT H 0) 0) 0),Sa1 (slT (rwT (elT H 1) 0) 0),slN (slT (rwT (elT H 1) 0) 1)⟩,⟨1,aIq a 18,hLq tI H 2 0 0,hIq H 2 0 1,elT H 3,0,[]⟩)⟩,⟨sUq::sUq::sPq 0::ru2 3 (sPq 1::ru2 10 (sPq 2::sIq::ru2 154 [])),[kb9,⟨0,0,true,some [[.o .val,.o (.sl 3 0 (some 0) none),.o (.sl 4 0 (some 0) none)]]⟩,lb0,⟨35,1,true,none⟩,⟨3,1,true,none⟩],λa H=>(⟨Sa1 (slT (rwT (elT H 0) 0) 0),Sa1 (slT (rwT (elT H 1) 0) 0),slN (slT (rwT (elT H 1) 0) 1)⟩,⟨2,aIq a 18,hLq tI H 2 0 0,hIq H 2 0 1,elT H 3,slN (slT (rwT (elT H 1) 0) 2),elT H 4⟩)⟩,⟨sUq::sUq::sPq 0::ru2 3 (sPq 1::ru2 10 (sPq 2::sIq::ru2 154 [])),[kb9,⟨0,0,true,some [[.o .val,.o .nil,.o (.sl 3 0 (some 0) none)]]⟩,lb0,⟨3,1,true,none⟩],λa H=>(⟨Sa1 (slT (rwT (elT H 0) 0) 0),Sa1 (slT (rwT (elT H 1) 0) 0),0⟩,⟨3,aIq a 18,hLq tI H 2 0 0,hIq H 2 0 1,elT H 3,slN (slT (rwT (elT H 1) 0) 2),[]⟩)⟩],ia5,[(some 4,λp s=>upq (Mc2 p s) [(155,i s.Yb2),(156,.ptr 1 0 1 0),(157,nlq),(158,i 0),(159,b (decide (s.Yb2<0)))]),(some 4,λp s=>upq (Mc3 p s) [(155,i s.Yb2),(156,.ptr 1 0 1 0),(157,.sl 3 0 p.vb2 0),(158,i (↑p.vb2:Int)),(159,b (decide (s.Yb2<(↑p.vb2:Int))))]),(some 4,λp s=>upq (Mc4 p s) [(155,i s.Yb2),(156,.ptr 1 0 1 0),(157,.sl 3 0 p.vb2 0),(158,i (↑p.vb2:Int)),(159,b (decide (s.Yb2<(↑p.vb2:Int))))]),(some 4,λp s=>upq (Mc5 p s) [(155,i s.Yb2),(156,.ptr 1 0 1 0),(157,nlq),(158,i 0),(159,b (decide (s.Yb2<0)))])],be0⟩
theorem be1:uc6.OkM:=Lo.okMq [] .nil λp s=>(.sel (Nat.beq s.ph 3) (.ofq @Mc7) (.sel (Nat.beq s.ph 2) (.ofq @Ia2) (.sel (Nat.beq s.ph 1) (.ofq @ub6) (.ofq @Mc6))))
def gf5(x:L2)(t17:Nat×O0):ROq:=let y11:=((cnE tI t17.2.I0)&&true);let y10:=(rt tI (rt tI x.v));let y6:=(t17.2.B3+1);let y5:=(rt tI t17.2.I0);let y3:=((.agg [(.v (.string ⟨#[112]⟩)),nlq,nlq]),[]);let t9:=(lp (ia5 (⟨⟨#[]⟩,⟨#[112]⟩,0⟩:R6)) (⟨0,0,y10,0,[],0,[]⟩:D9));let a4:=((cnE tI (rt tI x.v))&&true);let t18:=(g8 ⟨4,y5,t17.2.X4⟩);let t27:=(lp (ia5 (⟨⟨#[]⟩,⟨#[112]⟩,t17.2.B3⟩:R6)) (⟨1,0,y10,0,t17.2.eh4,0,[]⟩:D9));let a3:=(λk=>c8 t27.2.eh3 (0+k));let a8:=(λk=>c8 t9.2.eh3 (0+k));let a11:=(rt tI y5);let t19:=(g8 ⟨0,a11,t18.l5⟩);let t20:=(g8 ⟨4,rt tI a11,t19.l5⟩);let t21:=(g8 ⟨(↑t17.2.B3:Int),a11,t18.l5⟩);let y7:=(inB t21.is0 t17.2.B3);let t22:=(g8 ⟨4,rt tI a11,t21.l5⟩);let t23:=(Va8 (⟨(⟨0,1,1⟩:V3),W (2+t22.is0)⟩:Pln));let a5:=(c8 t17.2.eh4 (0+t21.is0.toNat));let a0:=(s5 (toG (hdA (s9 a5 0))) (List.range (toN (hdA (s9 a5 0)))));let y8:=(Nat.beq 0 0&&Nat.ble ((0+(len a0))*32) room);let y2:=((0+(len a0))+1);let y4:=(Nat.beq (0+(len a0)) (len (app [] a0))&&Nat.ble (y2*32) room);let y1:=(app (app [] a0) [[i t23.n.x,i t23.n.y,i t23.n.z,i t23.b]]);let y0:=(app (app [] a0) [[i 0,i 1,i 1,i (W (2+t22.is0))]]);let t24:=(Ka0 (slR tP y0 0 y2));let t25:=(Ka0 (slR tP y1 0 y2));let t26:=(lp (ia5 (⟨⟨#[]⟩,⟨#[112]⟩,y6⟩:R6)) (⟨1,0,y10,0,(app (setAt t17.2.eh4 (0+t21.is0.toNat) (Q0 a5 0 [(.tree 4 y2 (λk=>c8 y0 (0+k)))])) [[(.tree 4 y2 (λk=>c8 y1 (0+k)))]]),0,[]⟩:D9));let a9:=((Nat.blt (0+t21.is0.toNat) (len t17.2.eh4))&&(Nat.ble (0+1) (len a5)));let y9:=(a9&&(ka1 [CK.sl 4] (s9 a5 0)));let a14:=(λk=>c8 t27.2.eh4 (0+k));let w0:ROq:=(sl a4 (sl (Nat.beq t27.1 1) (some y3) (sl (Nat.beq t27.1 2) (some ((.agg [(.v (.string ⟨#[112]⟩)),.tree 1 t17.2.B3 a3,nlq]),[])) (sl (Nat.beq t27.1 3) (some ((.agg [(.v (.string ⟨#[112]⟩)),.tree 1 t17.2.B3 a3,.tree 1 t27.2.Ea5 a14]),[])) (sl (Nat.beq t27.1 4) (some ((.agg [(.v (.string ⟨#[112]⟩)),nlq,.tree 1 t27.2.Ea5 a3]),[])) none)))) none);(sl (Nat.beq t17.1 1) (sl y11 (sl (Nat.beq t18.alt 1) (sl (t18.is0==3) (sl ((cnE tI y5)&&true) (sl (Nat.beq t19.alt 1) (sl ((cnE tI a11)&&true) (sl (Nat.beq t20.alt 1) none none) none) none) none) (sl a4 (sl (Nat.beq t9.1 1) (some y3) (sl (Nat.beq t9.1 2) (some ((.agg [(.v (.string ⟨#[112]⟩)),.tree 1 0 a8,nlq]),[])) (sl (Nat.beq t9.1 3) (some ((.agg [(.v (.string ⟨#[112]⟩)),.tree 1 0 a8,(.tree 1 t9.2.Ea5 (λk=>c8 t9.2.eh4 (0+k)))]),[])) (sl (Nat.beq t9.1 4) (some ((.agg [(.v (.string ⟨#[112]⟩)),nlq,.tree 1 t9.2.Ea5 a8]),[])) none)))) none)) none) none) (sl (Nat.beq t17.1 2) (sl y11 (sl (Nat.beq t18.alt 1) (sl (t18.is0==3) (sl (decide ((↑t17.2.B3:Int)<6)) (sl ((cnE tI y5)&&true) (sl (Nat.beq t21.alt 1) (sl ((cnE tI a11)&&true) (sl (Nat.beq t22.alt 1) (sl y7 (sl y9 (sl y8 (sl y4 (sl y7 (sl y9 (sl y8 (sl y4 (sl (okS tP y0 0 y2) (sl (Ka1 (slR tP y0 0 y2)) (sl t24 (sl (okS tP y1 0 y2) (sl (Ka1 (slR tP y1 0 y2)) (sl t25 (sl y7 (sl a9 (sl (Nat.beq t17.2.B3 (len (setAt t17.2.eh4 (0+t21.is0.toNat) (Q0 a5 0 [(.tree 4 y2 (λk=>c8 y0 (0+k)))])))&&Nat.ble (y6*24) room) (sl a4 (sl (Nat.beq t26.1 1) (some y3) (sl (Nat.beq t26.1 2) (some ((.agg [(.v (.string ⟨#[112]⟩)),(.tree 1 y6 (λk=>c8 t26.2.eh3 (0+k))),nlq]),[])) (sl (Nat.beq t26.1 3) (some ((.agg [(.v (.string ⟨#[112]⟩)),(.tree 1 y6 (λk=>c8 t26.2.eh3 (0+k))),(.tree 1 t26.2.Ea5 (λk=>c8 t26.2.eh4 (0+k)))]),[])) (sl (Nat.beq t26.1 4) (some ((.agg [(.v (.string ⟨#[112]⟩)),nlq,(.tree 1 t26.2.Ea5 (λk=>c8 t26.2.eh3 (0+k)))]),[])) none)))) none) none) none) none) w0) none) none) w0) none) none) none) none) none) none) none) none) none) none) none) none) none) none) w0) w0) none) none) none))
def Wb8(x:L2):ROq:=let y2:=(rt tI (rt tI x.u));let t1:=(g8 ⟨3,rt tI x.u,0⟩);let t2:=(g8 ⟨3,y2,t1.l5⟩);let a7:=(rt tI y2);let y1:=((cnE tI x.u)&&((cnE tI x.v)&&((cnE tI (rt tI a7))&&true)));let t3:=(g8 ⟨3,a7,t2.l5⟩);let t4:=(g8 ⟨3,rt tI a7,t3.l5⟩);let y0:=(⟨0,W ((-6)+t3.is0),0,rt tI (rt tI a7),t4.l5,0,[]⟩:O0);let t5:=(lp (ba8 (⟨W (2+t1.is0),decide ((W (2+t1.is0))<4),W (2+t4.is0),⟨#[]⟩,rt tI x.u,rt tI x.v,⟨#[112]⟩⟩:ia4)) y0);let t17:=(lp (ba8 (⟨W (2+t1.is0),false,W (2+t4.is0),⟨#[]⟩,rt tI x.u,rt tI x.v,⟨#[112]⟩⟩:ia4)) y0);(sl ((cnE tI x.u)&&true) (sl (Nat.beq t1.alt 1) (sl ((cnE tI (rt tI x.u))&&true) (sl (Nat.beq t2.alt 1) (sl (t2.is0==2) (sl ((cnE tI y2)&&true) (sl (Nat.beq t3.alt 1) (sl ((cnE tI a7)&&true) (sl (Nat.beq t4.alt 1) (sl y1 (gf5 x t5) none) none) none) none) none) (sl ((cnE tI y2)&&true) (sl (Nat.beq t3.alt 1) (sl ((cnE tI a7)&&true) (sl (Nat.beq t4.alt 1) (sl y1 (gf5 x t17) none) none) none) none) none)) none) none) none) none)
def Ab9(x:L2):Prt:=L9 (one r1J) (Wb8 x)
def bd1(x:L2):Bool:=okO (one r1J) (Wb8 x)
def Ud6:Sum:=S7 c2L (λx=>.guard (bd1 x) (.ret ((one r1J).enc (Ab9 x),[])))
theorem Le7:l8 prog G 31 Ud6:=Sc3 (bd b31 ve3) (one r1J) (o:=Wb8) λx=>pd9 (.s .p (.s .p (.s .p (.s .p (.s .p (.s .p (.s .p (.s .p (.s .p (.s (.s .p (.b (.u uc5.lsM))) (.s .p (.s .p (.s (.s .p (.b (.u uc6.lsM))) .p))))))))))))) [uc5.prM,uc6.prM] (.cons ae9 (.cons be1 .nil))
def zd5:List (Nat×Sum):=[(43,Jb6),(36,zb5)]
theorem ve4:A4 prog G zd5:=⟨lc1,Eb6,trivial⟩
structure qa0 where
 Ia3:List (List Int)
 D4:ByteArray
 b8:LPq
 o6:List Int
structure O1 where
 ph:Nat
 is6:Int
 ns5:Nat
 eh1:List (List b7)
def Wb9(p:qa0)(s:O1):St:=⟨eL (tLs tI) p.Ia3::.unk::.unk::.ptr 0 0 0 0::.unk::nlq::i s.is6::ra 90 [],[bq 0 3 [[.v (.string p.D4),eL tLq p.b8,eL tI p.o6]]]⟩
def Xb0(p:qa0)(s:O1):St:=⟨eL (tLs tI) p.Ia3::.unk::.unk::.ptr 0 0 0 0::.unk::.sl 1 0 s.ns5 0::i s.is6::ra 90 [],[bq 0 3 [[.v (.string p.D4),eL tLq p.b8,eL tI p.o6]],bq 35 1 s.eh1]⟩
def be2(p:qa0)(s:O1):St:=(sel (Nat.beq s.ph 1) (Xb0 p s) (Wb9 p s))
def ja8{α:Type}(k:O1->α)(e:Nat->α)(z:α)(p:qa0)(s:O1):α:=let y2:=(gL (tLs tI) p.Ia3 s.is6.toNat);let a3:=(rt tI y2);let t1:=(g8 ⟨4,a3,0⟩);let t2:=(g8 ⟨(↑(List.length p.b8):Int),rt tI a3,t1.l5⟩);let y3:=(gL tLq p.b8 t2.is0.toNat);let a0:=(rt tI (rt tI a3));let y1:=(rt tI (rt tI a0));let t3:=(g8 ⟨2,a0,t2.l5⟩);let t4:=(g8 ⟨2,rt tI a0,t3.l5⟩);let t5:=(g8 ⟨14,y1,t4.l5⟩);let t12:=(g8 ⟨14,a0,t2.l5⟩);let t13:=(g8 ⟨3,rt tI a0,t12.l5⟩);let t14:=(g8 ⟨2,y1,t13.l5⟩);let a1:=(s5 (λk=>(tP).row (gL tP y3 k)) (List.range (List.length y3)));let a2:=(rt tI y1);let y0:=(rt tI (rt tI a2));let t6:=(g8 ⟨3,a2,t5.l5⟩);let t7:=(g8 ⟨2,rt tI a2,t6.l5⟩);let t8:=(g8 ⟨6,y0,t7.l5⟩);let t9:=(g8 ⟨6,rt tI y0,t8.l5⟩);let t10:=(g8 ⟨6,rt tI (rt tI y0),t9.l5⟩);let t11:=(Z8 (⟨W (t5.is0-7),W (t6.is0-1),W (t7.is0-1)⟩:V3) (⟨W ((W ((W (t5.is0-7))+1))+t8.is0),W ((W ((W (t6.is0-1))+2))+t9.is0),W ((W ((W (t7.is0-1))+2))+t10.is0)⟩:V3));let t15:=(g8 ⟨6,a2,t14.l5⟩);let t16:=(g8 ⟨6,rt tI a2,t15.l5⟩);let t17:=(g8 ⟨6,y0,t16.l5⟩);let t18:=(Z8 (⟨W (t12.is0-7),W (t13.is0-1),W (t14.is0-1)⟩:V3) (⟨W ((W ((W (t12.is0-7))+1))+t15.is0),W ((W ((W (t13.is0-1))+2))+t16.is0),W ((W ((W (t14.is0-1))+2))+t17.is0)⟩:V3));(sl (decide (s.is6<(↑(List.length p.Ia3):Int))) (sl (decide (s.is6<4)) (sl (inB s.is6 (List.length p.Ia3)) (sl ((cnE tI y2)&&true) (sl (Nat.beq t1.alt 1) (sl ((cnE tI a3)&&true) (sl (Nat.beq t2.alt 1) (sl (inB t2.is0 (List.length p.b8)) (sl (Nat.beq 0 0&&Nat.ble ((0+(len a1))*32) room) (sl (t1.is0==1) (sl ((cnE tI (rt tI a3))&&true) (sl (Nat.beq t3.alt 1) (sl ((cnE tI a0)&&true) (sl (Nat.beq t4.alt 1) (sl (Nat.beq (0+(len a1)) (len (app [] a1))&&Nat.ble (((0+(len a1))+1)*32) room) (sl (t1.is0==2) (sl ((cnE tI (rt tI a0))&&true) (sl (Nat.beq t5.alt 1) (sl ((cnE tI y1)&&true) (sl (Nat.beq t6.alt 1) (sl ((cnE tI a2)&&true) (sl (Nat.beq t7.alt 1) (sl ((cnE tI (rt tI a2))&&true) (sl (Nat.beq t8.alt 1) (sl ((cnE tI y0)&&true) (sl (Nat.beq t9.alt 1) (sl ((cnE tI (rt tI y0))&&true) (sl (Nat.beq t10.alt 1) (k ⟨1,W (s.is6+1),1,[[(.tree 4 6 (λk=>c8 [[i 1,i 0,i 0,i t11.w9],[i (-1),i 0,i 0,i t11.Ba4],[i 0,i 1,i 0,i t11.Ba5],[i 0,i (-1),i 0,i t11.Ba6],[i 0,i 0,i 1,i t11.Ba7],[i 0,i 0,i (-1),i t11.Ba8]] (0+k)))]]⟩) z) z) z) z) z) z) z) z) z) z) z) z) (k ⟨1,W (s.is6+1),1,[[(.tree 4 ((0+(len a1))+1) (λk=>c8 (app (app [] a1) [[i 0,i 0,i (W (1-(W (2*t3.is0)))),i (W ((W (1-(W (2*t3.is0))))*(W (1+t4.is0))))]]) (0+k)))]]⟩)) z) z) z) z) z) (sl (t1.is0==2) (sl ((cnE tI (rt tI a3))&&true) (sl (Nat.beq t12.alt 1) (sl ((cnE tI a0)&&true) (sl (Nat.beq t13.alt 1) (sl ((cnE tI (rt tI a0))&&true) (sl (Nat.beq t14.alt 1) (sl ((cnE tI y1)&&true) (sl (Nat.beq t15.alt 1) (sl ((cnE tI a2)&&true) (sl (Nat.beq t16.alt 1) (sl ((cnE tI (rt tI a2))&&true) (sl (Nat.beq t17.alt 1) (k ⟨1,W (s.is6+1),1,[[(.tree 4 6 (λk=>c8 [[i 1,i 0,i 0,i t18.w9],[i (-1),i 0,i 0,i t18.Ba4],[i 0,i 1,i 0,i t18.Ba5],[i 0,i (-1),i 0,i t18.Ba6],[i 0,i 0,i 1,i t18.Ba7],[i 0,i 0,i (-1),i t18.Ba8]] (0+k)))]]⟩) z) z) z) z) z) z) z) z) z) z) z) z) (k ⟨1,W (s.is6+1),1,[[(.tree 4 (0+(len a1)) (λk=>c8 (app [] a1) (0+k)))]]⟩))) z) z) z) z) z) z) z) (e 1)) (e 2))
def ja9{α:Type}(k:O1->α)(e:Nat->α)(z:α)(p:qa0)(s:O1):α:=let y2:=(gL (tLs tI) p.Ia3 s.is6.toNat);let a3:=(rt tI y2);let t1:=(g8 ⟨4,a3,0⟩);let t2:=(g8 ⟨(↑(List.length p.b8):Int),rt tI a3,t1.l5⟩);let y3:=(gL tLq p.b8 t2.is0.toNat);let a0:=(rt tI (rt tI a3));let y1:=(rt tI (rt tI a0));let t3:=(g8 ⟨2,a0,t2.l5⟩);let t4:=(g8 ⟨2,rt tI a0,t3.l5⟩);let t5:=(g8 ⟨14,y1,t4.l5⟩);let t12:=(g8 ⟨14,a0,t2.l5⟩);let t13:=(g8 ⟨3,rt tI a0,t12.l5⟩);let t14:=(g8 ⟨2,y1,t13.l5⟩);let a1:=(s5 (λk=>(tP).row (gL tP y3 k)) (List.range (List.length y3)));let a2:=(rt tI y1);let y0:=(rt tI (rt tI a2));let t6:=(g8 ⟨3,a2,t5.l5⟩);let t7:=(g8 ⟨2,rt tI a2,t6.l5⟩);let t8:=(g8 ⟨6,y0,t7.l5⟩);let t9:=(g8 ⟨6,rt tI y0,t8.l5⟩);let t10:=(g8 ⟨6,rt tI (rt tI y0),t9.l5⟩);let t11:=(Z8 (⟨W (t5.is0-7),W (t6.is0-1),W (t7.is0-1)⟩:V3) (⟨W ((W ((W (t5.is0-7))+1))+t8.is0),W ((W ((W (t6.is0-1))+2))+t9.is0),W ((W ((W (t7.is0-1))+2))+t10.is0)⟩:V3));let t15:=(g8 ⟨6,a2,t14.l5⟩);let t16:=(g8 ⟨6,rt tI a2,t15.l5⟩);let t17:=(g8 ⟨6,y0,t16.l5⟩);let t18:=(Z8 (⟨W (t12.is0-7),W (t13.is0-1),W (t14.is0-1)⟩:V3) (⟨W ((W ((W (t12.is0-7))+1))+t15.is0),W ((W ((W (t13.is0-1))+2))+t16.is0),W ((W ((W (t14.is0-1))+2))+t17.is0)⟩:V3));let a4:=(Nat.beq s.ns5 (len s.eh1)&&Nat.ble ((s.ns5+1)*24) room);(sl (decide (s.is6<(↑(List.length p.Ia3):Int))) (sl (decide (s.is6<4)) (sl (inB s.is6 (List.length p.Ia3)) (sl ((cnE tI y2)&&true) (sl (Nat.beq t1.alt 1) (sl ((cnE tI a3)&&true) (sl (Nat.beq t2.alt 1) (sl (inB t2.is0 (List.length p.b8)) (sl (Nat.beq 0 0&&Nat.ble ((0+(len a1))*32) room) (sl (t1.is0==1) (sl ((cnE tI (rt tI a3))&&true) (sl (Nat.beq t3.alt 1) (sl ((cnE tI a0)&&true) (sl (Nat.beq t4.alt 1) (sl (Nat.beq (0+(len a1)) (len (app [] a1))&&Nat.ble (((0+(len a1))+1)*32) room) (sl (t1.is0==2) (sl ((cnE tI (rt tI a0))&&true) (sl (Nat.beq t5.alt 1) (sl ((cnE tI y1)&&true) (sl (Nat.beq t6.alt 1) (sl ((cnE tI a2)&&true) (sl (Nat.beq t7.alt 1) (sl ((cnE tI (rt tI a2))&&true) (sl (Nat.beq t8.alt 1) (sl ((cnE tI y0)&&true) (sl (Nat.beq t9.alt 1) (sl ((cnE tI (rt tI y0))&&true) (sl (Nat.beq t10.alt 1) (sl a4 (k ⟨1,W (s.is6+1),s.ns5+1,(app s.eh1 [[(.tree 4 6 (λk=>c8 [[i 1,i 0,i 0,i t11.w9],[i (-1),i 0,i 0,i t11.Ba4],[i 0,i 1,i 0,i t11.Ba5],[i 0,i (-1),i 0,i t11.Ba6],[i 0,i 0,i 1,i t11.Ba7],[i 0,i 0,i (-1),i t11.Ba8]] (0+k)))]])⟩) z) z) z) z) z) z) z) z) z) z) z) z) z) (sl a4 (k ⟨1,W (s.is6+1),s.ns5+1,(app s.eh1 [[(.tree 4 ((0+(len a1))+1) (λk=>c8 (app (app [] a1) [[i 0,i 0,i (W (1-(W (2*t3.is0)))),i (W ((W (1-(W (2*t3.is0))))*(W (1+t4.is0))))]]) (0+k)))]])⟩) z)) z) z) z) z) z) (sl (t1.is0==2) (sl ((cnE tI (rt tI a3))&&true) (sl (Nat.beq t12.alt 1) (sl ((cnE tI a0)&&true) (sl (Nat.beq t13.alt 1) (sl ((cnE tI (rt tI a0))&&true) (sl (Nat.beq t14.alt 1) (sl ((cnE tI y1)&&true) (sl (Nat.beq t15.alt 1) (sl ((cnE tI a2)&&true) (sl (Nat.beq t16.alt 1) (sl ((cnE tI (rt tI a2))&&true) (sl (Nat.beq t17.alt 1) (sl a4 (k ⟨1,W (s.is6+1),s.ns5+1,(app s.eh1 [[(.tree 4 6 (λk=>c8 [[i 1,i 0,i 0,i t18.w9],[i (-1),i 0,i 0,i t18.Ba4],[i 0,i 1,i 0,i t18.Ba5],[i 0,i (-1),i 0,i t18.Ba6],[i 0,i 0,i 1,i t18.Ba7],[i 0,i 0,i (-1),i t18.Ba8]] (0+k)))]])⟩) z) z) z) z) z) z) z) z) z) z) z) z) z) (sl a4 (k ⟨1,W (s.is6+1),s.ns5+1,(app s.eh1 [[(.tree 4 (0+(len a1)) (λk=>c8 (app [] a1) (0+k)))]])⟩) z))) z) z) z) z) z) z) z) (e 3)) (e 4))
def jb0(p:qa0)(s:O1):Stp O1:=(sel (Nat.beq s.ph 1) (ja9 .next .exit .fail p s) (ja8 .next .exit .fail p s))
def Ac0(a:List b7)(H:List c7):qa0:=⟨aLq (tLs tI) a 0,Sa1 (slT (rwT (elT H 0) 0) 0),hLq tLq H 0 0 1,hLq tI H 0 0 2⟩
def uc7:Lo qa0 O1:=⟨En zd5,0,sg7,[1,1,0,1,4,4],[0,3,5,6],.p,[⟨.s (.c 1 (nL (tLs tI)))::sUq::sUq::sPq 0::sUq::.s (.o .nil)::sIq::ru2 90 [],[⟨0,3,true,some [[.o .val,.c 1 (nL tLq),.c 1 (nL tI)]]⟩],λa H=>(Ac0 a H,⟨0,aIq a 6,0,[]⟩)⟩,⟨.s (.c 1 (nL (tLs tI)))::sUq::sUq::sPq 0::sUq::.s (.o (.sl 1 0 (some 0) none))::sIq::ru2 90 [],[⟨0,3,true,some [[.o .val,.c 1 (nL tLq),.c 1 (nL tI)]]⟩,⟨35,1,true,none⟩],λa H=>(Ac0 a H,⟨1,aIq a 6,slN (slT a 5),elT H 1⟩)⟩],jb0,[(some 0,λp s=>upq (Wb9 p s) [(12,i s.is6),(13,eL (tLs tI) p.Ia3),(14,i (↑(List.length p.Ia3):Int)),(15,b (decide (s.is6<(↑(List.length p.Ia3):Int)))),(16,b true),(17,i s.is6),(18,b (decide (s.is6<4))),(19,b (decide (s.is6<4)))]),(some 0,λp s=>upq (Wb9 p s) [(12,i s.is6),(13,eL (tLs tI) p.Ia3),(14,i (↑(List.length p.Ia3):Int)),(15,b (decide (s.is6<(↑(List.length p.Ia3):Int)))),(16,b false),(17,u),(18,u),(19,b false)]),(some 0,λp s=>upq (Xb0 p s) [(12,i s.is6),(13,eL (tLs tI) p.Ia3),(14,i (↑(List.length p.Ia3):Int)),(15,b (decide (s.is6<(↑(List.length p.Ia3):Int)))),(16,b true),(17,i s.is6),(18,b (decide (s.is6<4))),(19,b (decide (s.is6<4)))]),(some 0,λp s=>upq (Xb0 p s) [(12,i s.is6),(13,eL (tLs tI) p.Ia3),(14,i (↑(List.length p.Ia3):Int)),(15,b (decide (s.is6<(↑(List.length p.Ia3):Int)))),(16,b false),(17,u),(18,u),(19,b false)])],be2⟩
theorem be3:uc7.Ok:=Qjt [] .nil λp s=>(.sel (Nat.beq s.ph 1) (.ofq @ja9) (.ofq @ja8))
def Xb1(x:List (List Int))(y:Prt):ROq:=let t1:=(lp (jb0 (⟨rt (tLs tI) x,y.nm,rt tLq y.cl,rt tI y.wt⟩:qa0)) (⟨0,0,0,[]⟩:O1));let y0:=(.sl 0 0 t1.2.ns5 0,[bq 35 1 t1.2.eh1]);(sl ((cnE (tLs tI) x)&&((cnE tLq y.cl)&&((cnE tI y.wt)&&true))) (sl (Nat.beq t1.1 1) (some (nlq,[])) (sl (Nat.beq t1.1 2) (some (nlq,[])) (sl (Nat.beq t1.1 3) (some y0) (sl (Nat.beq t1.1 4) (some y0) none)))) none)
def La8(x:List (List Int))(y:Prt):LPq:=L9 (one (r1L tLq)) (Xb1 x y)
def uc8(x:List (List Int))(y:Prt):Bool:=okO (one (r1L tLq)) (Xb1 x y)
def Ud7:Sum:=Z7 (M3 (tLs tI)) cJ (λx y=>.guard (uc8 x y) (.ret ((one (r1L tLq)).enc (La8 x y),[])))
theorem Le8:l8 prog G 17 Ud7:=dc7 (bd b17 ve4) (one (r1L tLq)) (o:=Xb1) λx y=>Q3 (.s .p (.s .p (.s (.s .p (.b (.u uc7.ls))) .p))) [uc7.pr] (.cons be3 .nil)
def Ud8:List (Nat×Sum):=[(30,bc9),(34,Qb2),(36,zb5),(35,ge9)]
theorem Le9:A4 prog G Ud8:=⟨tc7,Tb3,Eb6,Ue3,trivial⟩
structure ra1 where
 (B1 l5 A1:Int)
 (Pb5 nd1:ByteArray)
structure T6 where
 ph:Nat
 is7:Int
 P1:Nat
 eh3:List (List b7)
 Ra9:Nat
 eh4:List (List b7)
def be4(p:ra1)(s:T6):St:=⟨ra 3 (.ptr 0 0 0 0::.ptr 1 0 0 0::.ptr 2 0 0 0::.unk::i s.is7::ra 151 []),[bq 0 3 [[i p.B1,i p.l5,i p.A1]],bq 0 3 [[.v (.string p.Pb5),nlq,nlq]],bq 0 0 [[.v (.string p.nd1),nlq,.sl 3 0 s.P1 0]],bq 3 1 s.eh3]⟩
def be5(p:ra1)(s:T6):St:=⟨ra 3 (.ptr 0 0 0 0::.ptr 1 0 0 0::.ptr 2 0 0 0::.unk::i s.is7::ra 151 []),[bq 0 3 [[i p.B1,i p.l5,i p.A1]],bq 0 3 [[.v (.string p.Pb5),nlq,nlq]],bq 0 0 [[.v (.string p.nd1),.sl 3 0 s.Ra9 0,.sl 4 0 s.P1 0]],bq 35 1 s.eh3,bq 3 1 s.eh4]⟩
def ve5(p:ra1)(s:T6):St:=(sel (Nat.beq s.ph 1) (be5 p s) (be4 p s))
def Wc6{α:Type}(k:T6->α)(e:Nat->α)(z:α)(p:ra1)(s:T6):α:=let t1:=(B4 p.A1 2);let t2:=(Z8 (⟨s.is7,10,0⟩:V3) (⟨W (s.is7+1),11,1⟩:V3));(sl (F4 p.A1 2) (sl (decide (s.is7<(W (16+t1)))) (sl (Nat.beq s.P1 (len s.eh3)&&Nat.ble ((s.P1+1)*8) room) (k ⟨1,W (s.is7+1),s.P1+1,[[(.tree 4 6 (λk=>c8 [[i 1,i 0,i 0,i t2.w9],[i (-1),i 0,i 0,i t2.Ba4],[i 0,i 1,i 0,i t2.Ba5],[i 0,i (-1),i 0,i t2.Ba6],[i 0,i 0,i 1,i t2.Ba7],[i 0,i 0,i (-1),i t2.Ba8]] (0+k)))]],1,app s.eh3 [[i (W (1+(Int.tmod s.is7 3)))]]⟩) z) (e 1)) z)
def Pa6{α:Type}(k:T6->α)(e:Nat->α)(z:α)(p:ra1)(s:T6):α:=let t1:=(B4 p.A1 2);let t2:=(Z8 (⟨s.is7,10,0⟩:V3) (⟨W (s.is7+1),11,1⟩:V3));(sl (F4 p.A1 2) (sl (decide (s.is7<(W (16+t1)))) (sl (Nat.beq s.Ra9 (len s.eh3)&&Nat.ble ((s.Ra9+1)*24) room) (sl (Nat.beq s.P1 (len s.eh4)&&Nat.ble ((s.P1+1)*8) room) (k ⟨1,W (s.is7+1),s.P1+1,(app s.eh3 [[(.tree 4 6 (λk=>c8 [[i 1,i 0,i 0,i t2.w9],[i (-1),i 0,i 0,i t2.Ba4],[i 0,i 1,i 0,i t2.Ba5],[i 0,i (-1),i 0,i t2.Ba6],[i 0,i 0,i 1,i t2.Ba7],[i 0,i 0,i (-1),i t2.Ba8]] (0+k)))]]),s.Ra9+1,app s.eh4 [[i (W (1+(Int.tmod s.is7 3)))]]⟩) z) z) (e 2)) z)
def Aa7(p:ra1)(s:T6):Stp T6:=(sel (Nat.beq s.ph 1) (Pa6 .next .exit .fail p s) (Wc6 .next .exit .fail p s))
def Mc8(p:ra1)(s:T6):St:=let t1:=(B4 p.A1 2);⟨ra 3 (.ptr 0 0 0 0::.ptr 1 0 0 0::.ptr 2 0 0 0::.unk::i s.is7::ra 101 (i s.is7::.ptr 0 0 2 0::i p.A1::i t1::i (W (16+t1))::b (decide (s.is7<(W (16+t1))))::ra 44 [])),[bq 0 3 [[i p.B1,i p.l5,i p.A1]],bq 0 3 [[.v (.string p.Pb5),nlq,nlq]],bq 0 0 [[.v (.string p.nd1),nlq,.sl 3 0 s.P1 0]],bq 3 1 s.eh3]⟩
def Mc9(a:List b7)(H:List c7):ra1:=⟨hIq H 0 0 0,hIq H 0 0 1,hIq H 0 0 2,Sa1 (slT (rwT (elT H 1) 0) 0),Sa1 (slT (rwT (elT H 2) 0) 0)⟩
def Nc0:Lo ra1 T6:=⟨En Ud8,0,sg5,[1,1,1,0,1,4,1,3,1,3,1,3,1,3,1,2,1,4,4],[3,4,5,7],.p,[⟨ru2 3 (sPq 0::sPq 1::sPq 2::sUq::sIq::ru2 151 []),[⟨0,3,true,some [kLq 3]⟩,⟨0,3,true,some [[.o .val,.o .nil,.o .nil]]⟩,⟨0,0,true,some [[.o .val,.o .nil,.o (.sl 3 0 (some 0) none)]]⟩,⟨3,1,true,none⟩],λa H=>(Mc9 a H,⟨0,aIq a 7,slN (slT (rwT (elT H 2) 0) 2),elT H 3,0,[]⟩)⟩,⟨ru2 3 (sPq 0::sPq 1::sPq 2::sUq::sIq::ru2 151 []),[⟨0,3,true,some [kLq 3]⟩,⟨0,3,true,some [[.o .val,.o .nil,.o .nil]]⟩,⟨0,0,true,some [[.o .val,.o (.sl 3 0 (some 0) none),.o (.sl 4 0 (some 0) none)]]⟩,⟨35,1,true,none⟩,⟨3,1,true,none⟩],λa H=>(Mc9 a H,⟨1,aIq a 7,slN (slT (rwT (elT H 2) 0) 2),elT H 3,slN (slT (rwT (elT H 2) 0) 1),elT H 4⟩)⟩],Aa7,[(some 1,λp s=>Mc8 p s),(some 1,λp s=>Ee5 (Mc8 p s) [] 2 [bq 0 0 [[.v (.string p.nd1),.sl 3 0 s.Ra9 0,.sl 4 0 s.P1 0]],bq 35 1 s.eh3,bq 3 1 s.eh4])],ve5⟩
theorem ve6:Nc0.OkM:=Lo.okMq [] .nil λp s=>(.sel (Nat.beq s.ph 1) (.ofq @Pa6) (.ofq @Wc6))
def nc9(x:Prt)(y:V3):ROq:=let y12:=(.agg [.v (.string x.nm),nlq,nlq],[]);let y11:=(⟨y.x,y.y,y.z,⟨#[]⟩,x.nm⟩:ra1);let t1:=(Xa6 (rt tLq x.cl));let t3:=(B4 y.x 7);let t5:=(B4 y.z 5);let y0:=(c8 [[i y.z],[i 0],[i 4],[i 1],[i 3]] (0+t5.toNat));let y8:=((Nat.ble 1 (len y0))&&(ka1 [CK.int .i64] y0));let t8:=(B4 y.y (if (↑t1.ns0:Int)>1 then (↑t1.ns0:Int) else 1));let y7:=(c8 t1.eh0 (0+t8.toNat));let a0:=(s5 (λk=>(tI).row (gL tI x.wt k)) (List.range (List.length x.wt)));let y10:=(Nat.beq 0 0&&Nat.ble ((0+(len a0))*8) room);let y9:=(app (app [] a0) [[i 1]]);let y4:=((0+(len a0))+1);let y3:=(↑(0+(len a0)):Int);let t4:=(B4 y.y y3);let t6:=(lp (Aa7 y11) (⟨0,0,0+(len a0),app [] a0,0,[]⟩:T6));let t10:=(lp (Aa7 y11) (⟨1,(↑t1.ns0:Int),0+(len a0),t1.eh0,t1.ns0,app [] a0⟩:T6));let a1:=(s9 y7 0);let y13:=(lsL tP (toN (hdA a1)) (toG (hdA a1)));let t9:=(Qc6 y13 (⟨y.z,y.y,y.x⟩:V3));let a2:=(λk=>c8 (app [] a0) (0+k));let y2:=(.agg [.v (.string x.nm),nlq,.tree 1 (0+(len a0)) a2],[]);let a3:=((Nat.blt (0+t8.toNat) (len t1.eh0))&&(Nat.ble (0+1) (len y7)));let a4:=(λk=>c8 t1.eh0 (0+k));let y1:=(.agg [.v (.string x.nm),.tree 1 t1.ns0 a4,.tree 1 (0+(len a0)) a2],[]);let a5:=(Nat.beq (0+(len a0)) (len (app [] a0))&&Nat.ble (y4*8) room);let a6:=(W (Int.tdiv y3 2));let a7:=(c8 (app [] a0) (0+t4.toNat));let y6:=(setAt (app [] a0) (0+t4.toNat) (Q0 a7 0 [i (toI (hdA y0))]));let y5:=((Nat.blt (0+t4.toNat) (len (app [] a0)))&&(Nat.ble (0+1) (len a7)));let a8:=(s5 (toG (hdA a1)) (List.range (toN (hdA a1))));(sl (okE tLq x.cl) (sl (Nat.beq t1.alt 1) (sl y10 (sl (F4 y.y 1) (sl (F4 y.x 7) (sl (t3==0) (sl (decide (y3>0)) (sl (F4 y.y y3) (sl (F4 y.z 5) (sl (inB t5 5) (sl y8 (sl (inB t4 (0+(len a0))) (sl y5 (some ((.agg [.v (.string x.nm),nlq,(.tree 1 (0+(len a0)) (λk=>c8 y6 (0+k)))]),[])) none) none) none) none) none) none) (some y2)) (sl (t3==1) (sl a5 (some ((.agg [.v (.string x.nm),nlq,(.tree 1 y4 (λk=>c8 y9 (0+k)))]),[])) none) (sl (t3==2) (some y2) (sl (t3==3) (some y2) (sl (t3==4) (sl (Nat.beq t6.1 1) (some ((.agg [.v (.string x.nm),nlq,(.tree 1 t6.2.P1 (λk=>c8 t6.2.eh3 (0+k)))]),[])) (sl (Nat.beq t6.1 2) (some ((.agg [.v (.string x.nm),(.tree 1 t6.2.Ra9 (λk=>c8 t6.2.eh3 (0+k))),(.tree 1 t6.2.P1 (λk=>c8 t6.2.eh4 (0+k)))]),[])) none)) (sl (t3==5) (sl (inB a6 y4) (some (.agg [.v (.string x.nm),nlq,.tree 1 (a6.toNat-0) a2],[])) none) (sl (t3==6) (some y12) (some y2)))))))) none) none) none) (sl (Nat.beq t1.alt 2) (sl y10 (sl (F4 y.y (if (↑t1.ns0:Int)>1 then (↑t1.ns0:Int) else 1)) (sl (F4 y.x 7) (sl (t3==0) (sl (decide (y3>0)) (sl (F4 y.y y3) (sl (F4 y.z 5) (sl (inB t5 5) (sl y8 (sl (inB t4 (0+(len a0))) (sl y5 (some ((.agg [.v (.string x.nm),.tree 1 t1.ns0 a4,(.tree 1 (0+(len a0)) (λk=>c8 y6 (0+k)))]),[])) none) none) none) none) none) none) (some y1)) (sl (t3==1) (sl a5 (some ((.agg [.v (.string x.nm),.tree 1 t1.ns0 a4,(.tree 1 y4 (λk=>c8 y9 (0+k)))]),[])) none) (sl (t3==2) (sl (decide ((↑t1.ns0:Int)>0)) (sl (inB t8 t1.ns0) (sl (a3&&(ka1 [CK.sl 4] a1)) (sl (okL tP (toN (hdA a1)) (toG (hdA a1))) (sl (rd8 y13 (⟨y.z,y.y,y.x⟩:V3)) (sl (inB t8 t1.ns0) (sl a3 (some ((.agg [.v (.string x.nm),(.tree 1 t1.ns0 (λk=>c8 (setAt t1.eh0 (0+t8.toNat) (Q0 y7 0 [eL tP t9])) (0+k))),.tree 1 (0+(len a0)) a2]),[])) none) none) none) none) none) none) (some y1)) (sl (t3==3) (sl (decide ((↑t1.ns0:Int)>0)) (sl (inB t8 t1.ns0) (sl (a3&&(ka1 [CK.sl 4] a1)) (sl (Nat.beq 0 0&&Nat.ble ((0+(len a8))*32) room) (sl (Nat.beq t1.ns0 (len t1.eh0)&&Nat.ble ((t1.ns0+1)*24) room) (sl a5 (some ((.agg [.v (.string x.nm),(.tree 1 (t1.ns0+1) (λk=>c8 (app t1.eh0 [[(.tree 4 (0+(len a8)) (λk=>c8 (app [] a8) (0+k)))]]) (0+k))),(.tree 1 y4 (λk=>c8 y9 (0+k)))]),[])) none) none) none) none) none) (some y1)) (sl (t3==4) (sl (Nat.beq t10.1 1) (some ((.agg [.v (.string x.nm),nlq,(.tree 1 t10.2.P1 (λk=>c8 t10.2.eh3 (0+k)))]),[])) (sl (Nat.beq t10.1 2) (some ((.agg [.v (.string x.nm),(.tree 1 t10.2.Ra9 (λk=>c8 t10.2.eh3 (0+k))),(.tree 1 t10.2.P1 (λk=>c8 t10.2.eh4 (0+k)))]),[])) none)) (sl (t3==5) (sl (inB (W (Int.tdiv (↑t1.ns0:Int) 2)) (t1.ns0+1)) (sl (inB a6 y4) (some (.agg [.v (.string x.nm),.tree 1 ((W (Int.tdiv (↑t1.ns0:Int) 2)).toNat-0) a4,.tree 1 (a6.toNat-0) a2],[])) none) none) (sl (t3==6) (some y12) (some y1)))))))) none) none) none) none)) none)
def Rc8(x:Prt)(y:V3):Prt:=L9 (one r1J) (nc9 x y)
def ud3(x:Prt)(y:V3):Bool:=okO (one r1J) (nc9 x y)
def ke2:Sum:=Z7 cJ (na7 tV) (λx y=>.guard (ud3 x y) (.ret ((one r1J).enc (Rc8 x y),[])))
theorem Xe5:l8 prog G 11 ke2:=dc7 (bd b11 Le9) (one r1J) (o:=nc9) λx y=>pd9 (.s .p (.s .p (.s .p (.s (.s .p (.b (.s .p (.c .p (.s .p (.c .p (.s .p (.c .p (.s .p (.c .p (.s .p (.c (.s .p (.b (.u Nc0.lsM))) .p)))))))))))) .p)))) [Nc0.prM] (.cons ve6 .nil)
def Ac1:List (Nat×Sum):=[(30,bc9),(34,Qb2),(36,zb5)]
theorem ud4:A4 prog G Ac1:=⟨tc7,Tb3,Eb6,trivial⟩
structure P8 where
 (B1 l5 A1:Int)
 (vb1 Ra9:Nat)
 (eh3 eh4:List (List b7))
structure E3 where
 (ph P1:Nat)
 eh5:List (List b7)
def bd2(p:P8)(s:E3):St:=⟨ra 3 (.ptr 0 0 0 0::.ptr 1 0 0 0::.ptr 2 0 0 0::ra 103 []),[bq 0 3 [[i p.B1,i p.l5,i p.A1]],bq 0 3 [[nlq,nlq,nlq]],bq 0 0 [[.sl 3 0 p.vb1 0,.sl 4 0 p.Ra9 0,nlq]],bq 4 1 p.eh3,bq 4 1 p.eh4]⟩
def bd3(p:P8)(s:E3):St:=⟨ra 3 (.ptr 0 0 0 0::.ptr 1 0 0 0::.ptr 2 0 0 0::ra 103 []),[bq 0 3 [[i p.B1,i p.l5,i p.A1]],bq 0 3 [[nlq,nlq,nlq]],bq 0 0 [[.sl 3 0 p.vb1 0,.sl 4 0 p.Ra9 0,.sl 5 0 s.P1 0]],bq 4 1 p.eh3,bq 4 1 p.eh4,bq 35 1 s.eh5]⟩
def md6(p:P8)(s:E3):St:=(sel (Nat.beq s.ph 1) (bd3 p s) (bd2 p s))
def La9{α:Type}(k:E3->α)(e:Nat->α)(z:α)(p:P8)(s:E3):α:=let t1:=(B4 p.l5 3);let t2:=(Z8 (⟨20,20,0⟩:V3) (⟨21,21,1⟩:V3));(sl (F4 p.l5 3) (sl (decide (0<(W (23+t1)))) (k ⟨1,1,[[(.tree 4 6 (λk=>c8 [[i 1,i 0,i 0,i t2.w9],[i (-1),i 0,i 0,i t2.Ba4],[i 0,i 1,i 0,i t2.Ba5],[i 0,i (-1),i 0,i t2.Ba6],[i 0,i 0,i 1,i t2.Ba7],[i 0,i 0,i (-1),i t2.Ba8]] (0+k)))]]⟩) (e 1)) z)
def ha2{α:Type}(k:E3->α)(e:Nat->α)(z:α)(p:P8)(s:E3):α:=let t1:=(B4 p.l5 3);let t2:=(Z8 (⟨20,20,0⟩:V3) (⟨21,21,1⟩:V3));(sl (F4 p.l5 3) (sl (decide ((↑s.P1:Int)<(W (23+t1)))) (sl (Nat.beq s.P1 (len s.eh5)&&Nat.ble ((s.P1+1)*24) room) (k ⟨1,s.P1+1,(app s.eh5 [[(.tree 4 6 (λk=>c8 [[i 1,i 0,i 0,i t2.w9],[i (-1),i 0,i 0,i t2.Ba4],[i 0,i 1,i 0,i t2.Ba5],[i 0,i (-1),i 0,i t2.Ba6],[i 0,i 0,i 1,i t2.Ba7],[i 0,i 0,i (-1),i t2.Ba8]] (0+k)))]])⟩) z) (e 2)) z)
def R7(p:P8)(s:E3):Stp E3:=(sel (Nat.beq s.ph 1) (ha2 .next .exit .fail p s) (La9 .next .exit .fail p s))
def Mb5(p:P8)(s:E3):St:=let t1:=(B4 p.l5 3);⟨ra 3 (.ptr 0 0 0 0::.ptr 1 0 0 0::.ptr 2 0 0 0::ra 72 (.ptr 2 0 2 0::nlq::i 0::.ptr 0 0 1 0::i p.l5::i t1::i (W (23+t1))::b (decide (0<(W (23+t1))))::ra 23 [])),[bq 0 3 [[i p.B1,i p.l5,i p.A1]],bq 0 3 [[nlq,nlq,nlq]],bq 0 0 [[.sl 3 0 p.vb1 0,.sl 4 0 p.Ra9 0,nlq]],bq 4 1 p.eh3,bq 4 1 p.eh4]⟩
def Mb6(a:List b7)(H:List c7):P8:=⟨hIq H 0 0 0,hIq H 0 0 1,hIq H 0 0 2,slN (slT (rwT (elT H 2) 0) 0),slN (slT (rwT (elT H 2) 0) 1),elT H 3,elT H 4⟩
def Bb0:Lo P8 E3:=⟨En Ac1,0,tg0,[1,1,0,1,4,1,3,1,3,1,3,1,3,1,2,4,4],[3,4,5],.p,[⟨ru2 3 (sPq 0::sPq 1::sPq 2::ru2 103 []),[⟨0,3,true,some [kLq 3]⟩,⟨0,3,true,some [[.o .nil,.o .nil,.o .nil]]⟩,⟨0,0,true,some [[.o (.sl 3 0 (some 0) none),.o (.sl 4 0 (some 0) none),.o .nil]]⟩,⟨4,1,true,none⟩,⟨4,1,true,none⟩],λa H=>(Mb6 a H,⟨0,0,[]⟩)⟩,⟨ru2 3 (sPq 0::sPq 1::sPq 2::ru2 103 []),[⟨0,3,true,some [kLq 3]⟩,⟨0,3,true,some [[.o .nil,.o .nil,.o .nil]]⟩,⟨0,0,true,some [[.o (.sl 3 0 (some 0) none),.o (.sl 4 0 (some 0) none),.o (.sl 5 0 (some 0) none)]]⟩,⟨4,1,true,none⟩,⟨4,1,true,none⟩,⟨35,1,true,none⟩],λa H=>(Mb6 a H,⟨1,slN (slT (rwT (elT H 2) 0) 2),elT H 5⟩)⟩],R7,[(some 1,λp s=>Mb5 p s),(some 1,λp s=>let t1:=(B4 p.l5 3);Ee5 (Mb5 p s) [(79,.sl 5 0 s.P1 0),(80,i (↑s.P1:Int)),(85,b (decide ((↑s.P1:Int)<(W (23+t1)))))] 2 [bq 0 0 [[.sl 3 0 p.vb1 0,.sl 4 0 p.Ra9 0,.sl 5 0 s.P1 0]],bq 4 1 p.eh3,bq 4 1 p.eh4,bq 35 1 s.eh5])],md6⟩
theorem md7:Bb0.OkM:=Lo.okMq [] .nil λp s=>(.sel (Nat.beq s.ph 1) (.ofq @ha2) (.ofq @La9))
def Za2(x:Pce)(y:V3):ROq:=let t1:=(Xa6 (rt tLq x.cu));let t2:=(B4 y.x 6);let a0:=(s5 (λk=>(tB).row (gL tB x.su k)) (List.range (List.length x.su)));let y10:=((0+(len a0))+1);let y5:=(↑(0+(len a0)):Int);let y4:=(Nat.beq (0+(len a0)) (len (app [] a0))&&Nat.ble (y10*1) room);let t3:=(B4 y.y y5);let a1:=(s5 (λk=>(tB).row (gL tB x.to k)) (List.range (List.length x.to)));let y3:=(⟨y.x,y.y,y.z,0+(len a0),0+(len a1),app [] a0,app [] a1⟩:P8);let y2:=(↑(0+(len a1)):Int);let t4:=(B4 y.y y2);let t5:=(lp (R7 y3) (⟨0,0,[]⟩:E3));let t7:=(lp (R7 y3) (⟨1,t1.ns0,t1.eh0⟩:E3));let a2:=(λk=>c8 (app [] a1) (0+k));let a3:=(λk=>c8 (app [] a0) (0+k));let y0:=(.agg [.tree 1 (0+(len a0)) a3,.tree 1 (0+(len a1)) a2,nlq],[]);let a4:=(λk=>c8 t1.eh0 (0+k));let y1:=(.agg [.tree 1 (0+(len a0)) a3,.tree 1 (0+(len a1)) a2,.tree 1 t1.ns0 a4],[]);let a5:=(W (Int.tdiv y2 2));let a6:=(c8 (app [] a0) (0+t3.toNat));let y8:=((Nat.blt (0+t3.toNat) (len (app [] a0)))&&(Nat.ble (0+1) (len a6)));let y6:=(setAt (app [] a0) (0+t3.toNat) (Q0 a6 0 [b ((Int.tmod y.z 2)==0)]));let a7:=(c8 (app [] a1) (0+t4.toNat));let y9:=((Nat.blt (0+t4.toNat) (len (app [] a1)))&&(Nat.ble (0+1) (len a7)));let y7:=(setAt (app [] a1) (0+t4.toNat) (Q0 a7 0 [b ((Int.tmod y.z 2)==0)]));(sl (Nat.beq 0 0&&Nat.ble ((0+(len a0))*1) room) (sl (Nat.beq 0 0&&Nat.ble ((0+(len a1))*1) room) (sl (okE tLq x.cu) (sl (Nat.beq t1.alt 1) (sl (F4 y.x 6) (sl (t2==0) (sl (decide (y5>0)) (sl (F4 y.y y5) (sl (inB t3 (0+(len a0))) (sl y8 (some ((.agg [(.tree 1 (0+(len a0)) (λk=>c8 y6 (0+k))),.tree 1 (0+(len a1)) a2,nlq]),[])) none) none) none) (some y0)) (sl (t2==1) (sl (decide (y2>0)) (sl (F4 y.y y2) (sl (inB t4 (0+(len a1))) (sl y9 (some ((.agg [.tree 1 (0+(len a0)) a3,(.tree 1 (0+(len a1)) (λk=>c8 y7 (0+k))),nlq]),[])) none) none) none) (some y0)) (sl (t2==2) (sl y4 (some ((.agg [(.tree 1 y10 (λk=>c8 (app (app [] a0) [[b true]]) (0+k))),.tree 1 (0+(len a1)) a2,nlq]),[])) none) (sl (t2==3) (sl (inB a5 ((0+(len a1))+1)) (some (.agg [.tree 1 (0+(len a0)) a3,.tree 1 (a5.toNat-0) a2,nlq],[])) none) (sl (t2==4) (sl (Nat.beq t5.1 1) (some y0) (sl (Nat.beq t5.1 2) (some ((.agg [.tree 1 (0+(len a0)) a3,.tree 1 (0+(len a1)) a2,(.tree 1 t5.2.P1 (λk=>c8 t5.2.eh5 (0+k)))]),[])) none)) (sl (t2==5) (some ((.agg [.tree 1 (0+(len a0)) a3,.tree 1 (0+(len a1)) a2,(.tree 1 1 (λk=>c8 [[(.tree 4 1 (λk=>c8 [[i y.y,i 1,i 0,i y.z]] (0+k)))]] (0+k)))]),[])) (some y0))))))) none) (sl (Nat.beq t1.alt 2) (sl (F4 y.x 6) (sl (t2==0) (sl (decide (y5>0)) (sl (F4 y.y y5) (sl (inB t3 (0+(len a0))) (sl y8 (some ((.agg [(.tree 1 (0+(len a0)) (λk=>c8 y6 (0+k))),.tree 1 (0+(len a1)) a2,.tree 1 t1.ns0 a4]),[])) none) none) none) (some y1)) (sl (t2==1) (sl (decide (y2>0)) (sl (F4 y.y y2) (sl (inB t4 (0+(len a1))) (sl y9 (some ((.agg [.tree 1 (0+(len a0)) a3,(.tree 1 (0+(len a1)) (λk=>c8 y7 (0+k))),.tree 1 t1.ns0 a4]),[])) none) none) none) (some y1)) (sl (t2==2) (sl y4 (some ((.agg [(.tree 1 y10 (λk=>c8 (app (app [] a0) [[b true]]) (0+k))),.tree 1 (0+(len a1)) a2,.tree 1 t1.ns0 a4]),[])) none) (sl (t2==3) (sl (inB a5 ((0+(len a1))+1)) (some (.agg [.tree 1 (0+(len a0)) a3,.tree 1 (a5.toNat-0) a2,.tree 1 t1.ns0 a4],[])) none) (sl (t2==4) (sl (Nat.beq t7.1 1) (some y0) (sl (Nat.beq t7.1 2) (some ((.agg [.tree 1 (0+(len a0)) a3,.tree 1 (0+(len a1)) a2,(.tree 1 t7.2.P1 (λk=>c8 t7.2.eh5 (0+k)))]),[])) none)) (sl (t2==5) (sl (Nat.beq t1.ns0 (len t1.eh0)&&Nat.ble ((t1.ns0+1)*24) room) (some ((.agg [.tree 1 (0+(len a0)) a3,.tree 1 (0+(len a1)) a2,(.tree 1 (t1.ns0+1) (λk=>c8 (app t1.eh0 [[(.tree 4 1 (λk=>c8 [[i y.y,i 1,i 0,i y.z]] (0+k)))]]) (0+k)))]),[])) none) (some y1))))))) none) none)) none) none) none)
def ub7(x:Pce)(y:V3):Pce:=L9 (one r1O) (Za2 x y)
def ub8(x:Pce)(y:V3):Bool:=okO (one r1O) (Za2 x y)
def Nc1:Sum:=Z7 cO (na7 tV) (λx y=>.guard (ub8 x y) (.ret ((one r1O).enc (ub7 x y),[])))
theorem Dd5:l8 prog G 21 Nc1:=dc7 (bd b21 ud4) (one r1O) (o:=Za2) λx y=>pd9 (.s .p (.s .p (.s (.s .p (.b (.s .p (.c .p (.s .p (.c .p (.s .p (.c .p (.s .p (.c .p (.s .p (.c (.b (.u Bb0.lsM)) .p)))))))))))) .p))) [Bb0.prM] (.cons md7 .nil)
def ve7:List (Nat×Sum):=[(36,zb5)]
theorem be6:A4 prog G ve7:=⟨Eb6,trivial⟩
def cc5(x:Int)(y:Int):ROq:=let t1:=(Z8 (⟨x,0,0⟩:V3) (⟨y,2,2⟩:V3));(some (.sl 0 0 6 0,[bq 66 4 [[i 1,i 0,i 0,i t1.w9],[i (-1),i 0,i 0,i t1.Ba4],[i 0,i 1,i 0,i t1.Ba5],[i 0,i (-1),i 0,i t1.Ba6],[i 0,i 0,i 1,i t1.Ba7],[i 0,i 0,i (-1),i t1.Ba8]]]))
def Me0(x:Int)(y:Int):PLq:=L9 (one (r1L tP)) (cc5 x y)
def Me1(x:Int)(y:Int):Bool:=okO (one (r1L tP)) (cc5 x y)
def Me2:Sum:=Z7 cI cI (λx y=>.guard (Me1 x y) (.ret ((one (r1L tP)).enc (Me0 x y),[])))
theorem ve8:l8 prog G 32 Me2:=Sb2 (bd b32 be6) (one (r1L tP)) (o:=cc5)
structure Uf3 where
 vs2:ByteArray
 Pg2:Int
 (N8 S6:List Bool)
 L5:LPq
structure Uf4 where
 Og0:Int
def bd4:List (Nat×Sum):=[(31,Ud6)]
theorem Tc5:A4 prog G bd4:=⟨Le7,trivial⟩
def Aa8(x:Cse):ROq:=let y0:=(⟨rt tI x.p0,rt tI x.p1⟩:L2);let t1:=(Ab9 y0);(sl ((okE tI x.p0)&&((okE tI x.p1)&&true)) (sl (bd1 y0) (some (.agg [.v (.string t1.nm),eL tLq t1.cl,eL tI t1.wt],[])) none) none)
def ub9(x:Cse):Prt:=L9 (one r1J) (Aa8 x)
def vb0(x:Cse):Bool:=okO (one r1J) (Aa8 x)
def cc6:Sum:=S7 cF (λx=>.guard (vb0 x) (.ret ((one r1J).enc (ub9 x),[])))
theorem bd5:l8 prog G 10 cc6:=Sa7 (bd b10 Tc5) (one r1J) (o:=Aa8)
def Gb8(x:List (List Int)):ROq:=let y0:=(↑(List.length x):Int);(sl (inB (if 3<y0 then 3 else y0) ((List.length x)+1)) (some ((.tree 1 ((if 3<y0 then 3 else y0).toNat-0) (λk=>(λk=>(tLs tI).row (gL (tLs tI) x k)) (0+k))),[])) none)
def cc7(x:List (List Int)):List (List Int):=L9 (one (r1L (tLs tI))) (Gb8 x)
def cc8(x:List (List Int)):Bool:=okO (one (r1L (tLs tI))) (Gb8 x)
def zd6:Sum:=S7 (M3 (tLs tI)) (λx=>.guard (cc8 x) (.ret ((one (r1L (tLs tI))).enc (cc7 x),[])))
theorem ve9:l8 prog G 18 zd6:=Sa7 (bd b18 ya0) (one (r1L (tLs tI))) (o:=Gb8)
def bk(a c:Int):PLq:=bx a 0 0 c 2 2
def ps(a c d e f g:Bool)(l:LPq):Pce:=⟨[a,c,d],[e,f,g],l⟩
theorem we0{c:PLq}{p:Pln}{q:Pln}:q∈c++[p]++ws↔q∈c++ws\/q=p:=by
 simp only[Qis,Qla];constructor
 ·rintro ((h|h)|h)
  ·exact .inl (.inl h)
  ·exact .inr h
  ·exact .inl (.inr h)
 ·rintro ((h|h)|h)
  ·exact .inl (.inl h)
  ·exact .inr h
  ·exact .inl (.inr h)
theorem gf6{c:PLq}{p:Pln}{z:Pt}:Ins (c++[p]++ws) z↔Ins (c++ws) z/\0<rmZ p z:=by
 constructor
 ·intro h;exact⟨h.mono λq hq=>we0.2 (.inl hq),h.h p (we0.2 (.inr rfl))⟩
 ·rintro⟨h1,h2⟩;refine⟨h1.w,λq hq=>?_⟩
  rcases we0.1 hq with h|rfl
  ·exact h1.h q h
  ·exact h2
structure HvF(c:PLq)(p q:Pln):Prop where
 a:Gf0 [c] [c++[p],c++[Oa2 p]]=(true,0)
 a':Gf0 [c++[p],c++[Oa2 p]] [c]=(true,0)
 h:ab9 [c++[p]] c=(!ful (c++[Oa2 p]),0)
 h':ab9 [c++[Oa2 p]] c=(!ful (c++[p]),0)
 s:Gf0 [c++[Oa2 p],c++[p]++[q],c++[p]++[Oa2 q]] [c++[p],c++[Oa2 p]]=(true,0)
 v:ab9 [c++[Oa2 p],c++[p]++[q],c++[p]++[Oa2 q]] c=(true,0)
 d:apart (c++[p]) (c++[Oa2 p])=true
theorem we1{n:V3}{d:Int}(hn:[n.x,n.y,n.z].all (smb 4608)=true)(hg:g3 n=1)(h1:-2097152<=d)(h2:d<=2097152):okp ⟨n,d⟩=true:=by
 unfold okp;rw[hn,hg];simp only[List.all_cons,List.all_nil,Qii,Qke,Qas,beq_self_eq_true,true_and,se1];exact⟨h1,h2⟩
theorem ud5{x y z u v w:Int}{p:Pln}:p∈bx x y z u v w↔p=⟨⟨1,0,0⟩,u⟩\/p=⟨⟨-1,0,0⟩,-x⟩\/p=⟨⟨0,1,0⟩,v⟩\/p=⟨⟨0,-1,0⟩,-y⟩\/p=⟨⟨0,0,1⟩,w⟩\/p=⟨⟨0,0,-1⟩,-z⟩:=by
 simp only[bx,Qbh,Qiab,or_false]
theorem zf3{x y z u v w:Int}(h1:-2000<=x/\x<=2000)(h2:-2000<=y/\y<=2000)(h3:-2000<=z/\z<=2000)(h4:-2000<=u/\u<=2000)(h5:-2000<=v/\v<=2000)(h6:-2000<=w/\w<=2000):∀p∈bx x y z u v w,okp p=true:=λp hp=>by
 rcases ud5.1 hp with rfl|rfl|rfl|rfl|rfl|rfl<;>exact we1 (by decide) (by decide) (by omega) (by omega)
theorem ud6{x y z u v w:Int}(h1:-2000<=x/\x<=2000)(h2:-2000<=y/\y<=2000)(h3:-2000<=z/\z<=2000)(h4:-2000<=u/\u<=2000)(h5:-2000<=v/\v<=2000)(h6:-2000<=w/\w<=2000):(chk (bx x y z u v w)==0)=true:=by
 rw[beq_iff_eq,Fb3];exact⟨by rw[gc3];decide,zf3 h1 h2 h3 h4 h5 h6⟩
theorem ng1{p:Pln}:p∈ws↔p=⟨⟨1,0,0⟩,24⟩\/p=⟨⟨-1,0,0⟩,24⟩\/p=⟨⟨0,1,0⟩,24⟩\/p=⟨⟨0,-1,0⟩,24⟩\/p=⟨⟨0,0,1⟩,24⟩\/p=⟨⟨0,0,-1⟩,24⟩:=by
 simp only[ws,Qbh,Qiab,or_false]
theorem ng2{x y z u v w:Int}(h1:-24<=x/\x<u/\u<=24)(h2:-24<=y/\y<v/\v<=24)(h3:-24<=z/\z<w/\w<=24):ful (bx x y z u v w)=true:=by
 refine Rc5.2 ⟨ud6 (by omega) (by omega) (by omega) (by omega) (by omega) (by omega),⟨x+u,y+v,z+w,2⟩,by show (0:Int)<2;decide,λp hp=>?_⟩
 rcases Qis.1 hp with hp|hp
 ·rcases ud5.1 hp with rfl|rfl|rfl|rfl|rfl|rfl<;>(unfold rmZ;simp only;omega)
 ·rcases ng1.1 hp with rfl|rfl|rfl|rfl|rfl|rfl<;>(unfold rmZ;simp only;omega)
theorem Me3{a c:PLq}(ha:(chk a==0)=true)(hc:(chk c==0)=true){p q:Pln}(hp:p∈a)(hq:q∈c)(h:∀z:Pt,0<z.pw->0<rmZ p z->0<rmZ q z->False):apart a c=true :=
 (Qb5 ha hc).2 λz h1 h2=>h z h1.w (h1.h p (Qbj _ hp)) (h2.h q (Qbj _ hq))
theorem Hf8{a a' c c':PLq}(ha:(chk a==0)=true)(hc:(chk c==0)=true)(ha':(chk a'==0)=true)(hc':(chk c'==0)=true)(h1:∀p∈a,p∈a')(h2:∀p∈c,p∈c')(h:apart a c=true):apart a' c'=true :=
 (Qb5 ha' hc').2 λz k1 k2=>(Qb5 ha hc).1 h z (k1.mono λp hp=>(Qis.1 hp).elim (λe=>Qbj _ (h1 p e)) λe=>Qcg _ e)
  (k2.mono λp hp=>(Qis.1 hp).elim (λe=>Qbj _ (h2 p e)) λe=>Qcg _ e)
def Prw(l:LPq):Prop:=∀j k,j<k->k<l.length->apart (gL tLq l j) (gL tLq l k)=true
theorem md8{α:Type}(t:Ty α)(l:List α)(c:α){k:Nat}(h:k<l.length):gL t (l++[c]) k=gL t l k:=by
 simp only[gL,Qda];rw[Qbb h]
theorem we2{α:Type}(t:Ty α)(l:List α)(c:α):gL t (l++[c]) l.length=c:=by
 simp[gL,Qda]
theorem Prw.app{l:LPq}(h:Prw l){c:PLq}(hc:∀q∈l,apart q c=true):Prw (l++[c]):=by
 intro j k hjk hk;rw[Qdc,List.length_singleton] at hk;by_cases e:k<l.length
 ·rw[md8 _ _ _ e,md8 _ _ _ (by omega)]
  exact h j k hjk e
 ·have:k=l.length:=by omega
  subst this;rw[we2,md8 _ _ _ hjk];exact hc _ (M1 _ hjk)
theorem Prw.nil:Prw []:=λj k _ hk=>absurd hk (Nat.not_lt_zero _)
structure Rw(h X:Int)(l:LPq):Prop where
 p:Prw l
 c:∀q∈l,∃a c y,q=bx a y 0 c (y+3) h/\-6<=a/\a<c/\c<=X/\(y=0\/y=3)
theorem Rw.nil(h X:Int):Rw h X []:=⟨.nil,λq hq=>by cases hq⟩
theorem Rw.add{h X a c y:Int}{l:LPq}(r:Rw h X l)(hh:2<=h/\h<=4)(hX:-6<=X/\X<=20)(hc:X<c/\c<=24)(ha:a=X)(hy:y=0\/y=3):Prw (l++[bx a y 0 c (y+3) h]):=by
 refine r.p.app λq hq=>?_
 obtain⟨a',c',y',rfl,h1,h2,h3,h4⟩:=r.c q hq;refine Me3 (p:=⟨⟨1,0,0⟩,c'⟩) (q:=⟨⟨-1,0,0⟩,-a⟩) (ud6 (by omega) (by omega) (by omega) (by omega) (by omega) (by omega)) (ud6 (by omega) (by omega) (by omega) (by omega) (by omega) (by omega)) (ud5.2 (by simp)) (ud5.2 (by simp)) λz h0 k1 k2=>?_
 have:(a-c')*z.pw<0:=by
  unfold rmZ at k1 k2
  simp only at k1 k2
  have e:(a-c')*z.pw=a*z.pw-c'*z.pw:=Int.sub_mul _ _ _;have e2:-a*z.pw=-(a*z.pw):=Int.neg_mul _ _;rw[e2] at k2;rw[e];omega
 have:0<=(a-c')*z.pw:=Qjc (by omega) (by omega)
 omega
theorem Rw.one{h X c:Int}{l:LPq}(r:Rw h X l)(hh:2<=h/\h<=4)(hX:-6<=X/\X<=20)(hc:X<c/\c<=24):Rw h c (l++[bx X 0 0 c 3 h]) :=
 ⟨r.add (y:=0) hh hX hc rfl (.inl rfl),λq hq=>by
  rcases Qis.1 hq with hq|hq
  ·obtain⟨a',c',y',h0,h1,h2,h3,h4⟩:=r.c q hq;exact⟨a',c',y',h0,h1,h2,by omega,h4⟩
  ·rw[Qla.1 hq];exact⟨X,c,0,rfl,by omega,by omega,by omega,.inl rfl⟩⟩
theorem Rw.two{h X c:Int}{l:LPq}(r:Rw h X l)(hh:2<=h/\h<=4)(hX:-6<=X/\X<=20)(hc:X<c/\c<=24):Rw h c ((l++[bx X 0 0 c 3 h])++[bx X 3 0 c 6 h]):=by
 have r1:=r.one hh hX hc;refine⟨r1.p.app λq hq=>?_,λq hq=>?_⟩
 ·rcases Qis.1 hq with hq|hq
  ·have h2:=r.add (y:=3) hh hX hc rfl (.inr rfl);obtain⟨k,hk,rfl⟩:=Qlc hq
   have:=h2 k l.length hk (by simp)
   rw[we2,md8 _ _ _ hk,gb5 tLq hk] at this;exact this
  ·rw[Qla.1 hq];refine Me3 (p:=⟨⟨0,1,0⟩,3⟩) (q:=⟨⟨0,-1,0⟩,-3⟩) (ud6 (by omega) (by omega) (by omega) (by omega) (by omega) (by omega)) (ud6 (by omega) (by omega) (by omega) (by omega) (by omega) (by omega)) (ud5.2 (by simp)) (ud5.2 (by simp)) λz h0 k1 k2=>?_
   unfold rmZ at k1 k2
   simp only at k1 k2
   omega
 ·rcases Qis.1 hq with hq|hq
  ·exact r1.c q hq
  ·rw[Qla.1 hq];exact⟨X,c,3,rfl,by omega,by omega,by omega,.inr rfl⟩
structure Mcl(l:LPq):Prop where
 n1:2<=l.length
 n2:l.length<=6
 p:Prw l
 f:∀q∈l,ful q=true
 k:∀q∈l,6<=q.length/\q.length<=7
theorem Rw.mcl{h X:Int}{l:LPq}(r:Rw h X l)(hh:2<=h/\h<=4)(hX:X<=24)(h1:2<=l.length)(h2:l.length<=6):Mcl l :=
 ⟨h1,h2,r.p,λq hq=>by
  obtain⟨a',c',y',rfl,h1,h2,h3,h4⟩:=r.c q hq;exact ng2 (by omega) (by omega) (by omega),λq hq=>by
  obtain⟨a',c',y',rfl,h1,h2,h3,h4⟩:=r.c q hq;rw[gc3]
  omega⟩
theorem Xe6{α:Type}(t:Ty α)(l:List α)(c:α){j k:Nat}(h:j<l.length):gL t (l.set j c) k=if k=j then c else gL t l k:=by
 simp only[gL,Qda,List.getElem?_set];by_cases e:j=k
 ·subst e;simp[h]
 ·rw[if_neg e,if_neg (λe'=>e e'.symm)]
theorem Mcl.cut{l:LPq}(m:Mcl l)(h6:l.length<6)(hk:∀q∈l,q.length=6){p:Pln}(hp:okp p=true){j:Nat}(hj:j<l.length)
  (f1:ful (gL tLq l j++[p])=true) (f2:ful (gL tLq l j++[Oa2 p])=true):Mcl (l.set j (gL tLq l j++[p])++[gL tLq l j++[Oa2 p]]):=by
 have hc:=λk (h:k<l.length)=>(Rc5.1 (m.f _ (M1 tLq h))).1
 have hl:=hk _ (M1 tLq hj);have k1:=(Rc5.1 f1).1;have k2:=(Rc5.1 f2).1;have ap:∀k,k<l.length->k≠j->∀q:Pln,(chk (gL tLq l j++[q])==0)=true->apart (gL tLq l k) (gL tLq l j++[q])=true/\apart (gL tLq l j++[q]) (gL tLq l k)=true:=by
  intro k hk' hkj q hq;have h0:apart (gL tLq l k) (gL tLq l j)=true:=by
   rcases Nat.lt_or_gt_of_ne hkj with h|h
   ·exact m.p k j h hj
   ·rw[tc9];exact m.p j k h hk'
  have h1:apart (gL tLq l k) (gL tLq l j++[q])=true:=Hf8 (hc k hk') (hc j hj) (hc k hk') hq (λ_ h=>h) (λ_ h=>Qbj _ h) h0
  exact⟨h1,by rw[tc9];exact h1⟩
 refine⟨by rw[Qdc,Qig];have:=m.n1;simp;omega,by rw[Qdc,Qig];simp;omega,?_,?_,?_⟩
 ·refine Prw.app (λi k hik hkl=>?_) λq hq=>?_
  ·rw[Qig] at hkl;rw[Xe6 tLq l _ hj,Xe6 tLq l _ hj];by_cases e1:i=j
   ·rw[if_pos e1,if_neg (by omega)]
    exact (ap k hkl (by omega) p k1).2
   ·by_cases e2:k=j
    ·rw[if_neg e1,if_pos e2];exact (ap i (by omega) e1 p k1).1
    ·rw[if_neg e1,if_neg e2];exact m.p i k hik hkl
  ·obtain⟨i,hi,rfl⟩:=Qlc hq;rw[Qig] at hi;rw[List.getElem_set];by_cases e:j=i
   ·rw[if_pos e];refine (Qb5 k1 k2).2 λz z1 z2=>?_
    have a1:=(gf6.1 z1).2;have a2:=(gf6.1 z2).2;rw[Qd4] at a2;omega
   ·rw[if_neg e]
    have:=(ap i hi (λe'=>e e'.symm) (Oa2 p) k2).1
    rw[gb5 tLq hi] at this;exact this
 ·intro q hq
  rcases Qis.1 hq with hq|hq
  ·rcases Qlb hq with h|rfl
   ·exact m.f q h
   ·exact f1
  ·rw[Qla.1 hq];exact f2
 ·intro q hq
  rcases Qis.1 hq with hq|hq
  ·rcases Qlb hq with h|rfl
   ·exact m.k q h
   ·rw[Qdc,hl,List.length_singleton];decide
  ·rw[Qla.1 hq,Qdc,hl,List.length_singleton];decide
structure Mp(x:Prt):Prop where
 c:Mcl x.cl
 w:x.wt.length=x.cl.length
 o:∀n∈x.wt,n=1\/n=2\/n=3
theorem Mp.jok{x:Prt}(m:Mp x):Jok x:=⟨by have:=m.c.n2;omega,by have:=m.c.n2;have:=m.w;omega,λc hc=>by have:=(m.c.k c hc).2;omega⟩
theorem Mp.ne{x:Prt}(m:Mp x):∀q∈x.cl,q≠[]:=λq hq e=>by
 have:=(m.c.k q hq).1
 rw[e] at this
 simp at this
theorem Mp.chk{x:Prt}(m:Mp x):vb7 x=0:=by
 have h1:=m.c.n1;have h2:=m.c.n2;unfold vb7;rw[if_neg (by omega),if_neg (by omega),if_neg (by rw[m.w];simp),if_neg,if_neg]
 ·intro h;obtain⟨j,hj,hb⟩:=Qiad.1 h;have hj:=Qca.1 hj;unfold td9 at hb;rw[m.c.f _ (M1 tLq hj)] at hb;simp only[Qkf,Bool.false_or] at hb;obtain⟨k,hk,hb⟩:=Qiad.1 hb;rw[m.c.p k j (Qca.1 hk) hj] at hb;cases hb
 ·intro h;obtain⟨n,hn,hb⟩:=Qiad.1 h
  rcases m.o n hn with rfl|rfl|rfl<;>revert hb<;>decide
theorem Pb3(lo hi:V3):Z8 lo hi=⟨hi.x,W (0-lo.x),hi.y,W (0-lo.y),hi.z,W (0-lo.z)⟩:=rfl
theorem Bg0(x y z u v w:Int):bL tP (bx x y z u v w)=[[i 1,i 0,i 0,i u],[i (-1),i 0,i 0,i (-x)],[i 0,i 1,i 0,i v],[i 0,i (-1),i 0,i (-y)],[i 0,i 0,i 1,i w],[i 0,i 0,i (-1),i (-z)]]:=rfl
theorem Nc2(x y z u v w:Int):b7.tree 4 6 (λk=>c8 [[i 1,i 0,i 0,i u],[i (-1),i 0,i 0,i (-x)],[i 0,i 1,i 0,i v],[i 0,i (-1),i 0,i (-y)],[i 0,i 0,i 1,i w],[i 0,i 0,i (-1),i (-z)]] (0+k))=cpA (bx x y z u v w):=by
 rw[<- Bg0];exact Lc4 (bx x y z u v w)
def Me4(t:Bool):Nat:=if t=true then 2 else 1
structure RPa(n:Nat)(t:Bool)(h:Int)(u:List Int)(j:Nat)(s:O0)(O:LPq):Prop where
 le:j<=n
 ph:s.ph=phL O
 r:Rw h s.is9 O
 x:-6<=s.is9/\s.is9<=-4+4*(j:Int)
 ix:s.na5=(j:Int)
 u:s.I0=u
 d:0<=s.X4/\s.X4<=100+(j:Int)
 n:s.B3=O.length
 e:s.eh4=cpR O
 l:O.length=Me4 t*j
theorem Ud9{n:Nat}{t:Bool}{h:Int}{nm nm2:ByteArray}{u u' v':List Int}(hn:n<=4)(hh:2<=h/\h<=4){x d:Int}(hx:-6<=x/\x<=-4)(hd:0<=d/\d<=100) :
  ∃s O,lp (ba8 ⟨(n:Int),t,h,nm,u',v',nm2⟩) ⟨0,x,0,u,d,0,[]⟩=(phL O+1,s)/\RPa n t h u n s O:=by
 suffices key:∃tt s,lp (ba8 ⟨(n:Int),t,h,nm,u',v',nm2⟩) ⟨0,x,0,u,d,0,[]⟩=(tt,s)/\∃O,tt=phL O+1/\RPa n t h u n s O by
  obtain⟨tt,s,h1,O,h2,h3⟩:=key;exact⟨s,O,by rw[h1,h2],h3⟩
 refine da0 (step:=ba8 ⟨(n:Int),t,h,nm,u',v',nm2⟩) (mk:=λ_ (s:O0)=>s) n (λj s=>∃O,RPa n t h u j s O) (λtt s=>∃O,tt=phL O+1/\RPa n t h u n s O) (by omega)
  (λj s hj hi=>?_) (λj s hj hi=>?_) 0 ⟨0,x,0,u,d,0,[]⟩ ⟨[],⟨Qbv _,rfl,.nil _ _,by show -6<=x/\x<=_;omega,rfl,rfl,by show 0<=d/\d<=_;omega,rfl,rfl,by simp⟩⟩
 ·obtain⟨O,hi⟩:=hi;obtain⟨_,h2,h3,⟨h4,h4'⟩,h5,h6,⟨h7,h7'⟩,h8,h9,h10⟩:=hi;obtain⟨ph,is9,na5,lI,ih,nh,eh⟩:=s
  simp only at h2 h3 h4 h4' h5 h6 h7 h7' h8 h9 h10
  subst h2 h5 h6 h8 h9;obtain⟨v,d',e1,e2,e3,e4,e5⟩:=pa6 4 lI ih h7 (by omega) (by decide) (by decide)
  have hw1:W ((j:Int)+1)=((j+1:Nat):Int):=A5 hj (by omega)
  have hw2:W (1+v)=1+v:=ia9 (by omega) (by omega)
  have hw3:W (is9+(1+v))=is9+(1+v):=ia9 (by omega) (by omega)
  have hw4:W (0-is9)=-is9:=by rw[ia9 (by omega) (by omega)];omega
  have hw5:W (0-0)=-0:=rfl;have hw6:W (0-3)=-3:=rfl;have hO:O.length<=8:=by rw[h10];unfold Me4;split<;>omega
  have q11:Nat.beq 1 1=true:=rfl;have hr1:Rw h (is9+(1+v)) (O++[bx is9 0 0 (is9+(1+v)) 3 h]):=h3.one hh (by omega) (by omega)
  have hr2:Rw h (is9+(1+v)) ((O++[bx is9 0 0 (is9+(1+v)) 3 h])++[bx is9 3 0 (is9+(1+v)) 6 h]):=h3.two hh (by omega) (by omega)
  cases t with
  |false =>
   have hl:(O++[bx is9 0 0 (is9+(1+v)) 3 h]).length=Me4 false*(j+1):=by rw[Qdc,h10];unfold Me4;simp
   have fin:RPa n false h lI (j+1) ⟨phL (O++[bx is9 0 0 (is9+(1+v)) 3 h]),is9+(1+v),((j+1:Nat):Int),lI,d',(O++[bx is9 0 0 (is9+(1+v)) 3 h]).length,cpR (O++[bx is9 0 0 (is9+(1+v)) 3 h])⟩ (O++[bx is9 0 0 (is9+(1+v)) 3 h]) :=
    ⟨hj,rfl,hr1,by show -6<=is9+(1+v)/\is9+(1+v)<=-4+4*((j+1:Nat):Int);omega,rfl,rfl,by show 0<=d'/\d'<=100+((j+1:Nat):Int);omega,rfl,rfl,hl⟩
   have hst:ba8 ⟨(n:Int),false,h,nm,u',v',nm2⟩ ⟨phL O,is9,(j:Int),lI,ih,O.length,cpR O⟩=.next ⟨phL (O++[bx is9 0 0 (is9+(1+v)) 3 h]),is9+(1+v),((j+1:Nat):Int),lI,d',(O++[bx is9 0 0 (is9+(1+v)) 3 h]).length,cpR (O++[bx is9 0 0 (is9+(1+v)) 3 h])⟩:=by
    rw[tb9,Qdc,List.length_singleton,<- bb4]
    rcases I6 O with⟨hz,hn⟩|h1
    ·rw[hz];show ja6 Stp.next Stp.exit Stp.fail _ _=_;simp only[ja6,l9,s7,Qka,e1,Pb3,hw1,hw2,hw3,hw4,hw5,hw6,Nc2,g7,A7,q11];rw[btD (by omega),hn]
     rfl
    ·rw[h1];show ja7 Stp.next Stp.exit Stp.fail _ _=_;simp only[ja7,l9,s7,Qka,e1,Pb3,hw1,hw2,hw3,hw4,hw5,hw6,Nc2,g7,A7,q11];rw[btD (by omega),bt (Wb1 _ (by omega))]
   show Nx (ba8 ⟨(n:Int),false,h,nm,u',v',nm2⟩ ⟨phL O,is9,(j:Int),lI,ih,O.length,cpR O⟩) _ _;rw[hst];exact .nx ⟨_,rfl,_,fin⟩
  |true =>
   have hl:((O++[bx is9 0 0 (is9+(1+v)) 3 h])++[bx is9 3 0 (is9+(1+v)) 6 h]).length=Me4 true*(j+1):=by rw[Qdc,Qdc,h10];unfold Me4;simp;omega
   have fin:RPa n true h lI (j+1) ⟨phL ((O++[bx is9 0 0 (is9+(1+v)) 3 h])++[bx is9 3 0 (is9+(1+v)) 6 h]),is9+(1+v),((j+1:Nat):Int),lI,d',((O++[bx is9 0 0 (is9+(1+v)) 3 h])++[bx is9 3 0 (is9+(1+v)) 6 h]).length,cpR ((O++[bx is9 0 0 (is9+(1+v)) 3 h])++[bx is9 3 0 (is9+(1+v)) 6 h])⟩ ((O++[bx is9 0 0 (is9+(1+v)) 3 h])++[bx is9 3 0 (is9+(1+v)) 6 h]) :=
    ⟨hj,rfl,hr2,by show -6<=is9+(1+v)/\is9+(1+v)<=-4+4*((j+1:Nat):Int);omega,rfl,rfl,by show 0<=d'/\d'<=100+((j+1:Nat):Int);omega,rfl,rfl,hl⟩
   have hst:ba8 ⟨(n:Int),true,h,nm,u',v',nm2⟩ ⟨phL O,is9,(j:Int),lI,ih,O.length,cpR O⟩=.next ⟨phL ((O++[bx is9 0 0 (is9+(1+v)) 3 h])++[bx is9 3 0 (is9+(1+v)) 6 h]),is9+(1+v),((j+1:Nat):Int),lI,d',((O++[bx is9 0 0 (is9+(1+v)) 3 h])++[bx is9 3 0 (is9+(1+v)) 6 h]).length,cpR ((O++[bx is9 0 0 (is9+(1+v)) 3 h])++[bx is9 3 0 (is9+(1+v)) 6 h])⟩:=by
    rw[tb9,Qdc,Qdc,List.length_singleton,List.length_singleton,<- bb4,<- bb4]
    rcases I6 O with⟨hz,hn⟩|h1
    ·rw[hz];show ja6 Stp.next Stp.exit Stp.fail _ _=_;simp only[ja6,l9,s7,Qka,e1,Pb3,hw1,hw2,hw3,hw4,hw5,hw6,Nc2,g7,A7,q11];rw[btD (by omega),hn]
     rfl
    ·rw[h1];show ja7 Stp.next Stp.exit Stp.fail _ _=_;simp only[ja7,l9,s7,Qka,e1,Pb3,hw1,hw2,hw3,hw4,hw5,hw6,Nc2,g7,A7,q11];rw[btD (by omega),bt (Wb1 _ (by omega)),bt]
     rw[bb4]
     have:=Wb1 (O++[bx is9 0 0 (is9+(1+v)) 3 h]) (by rw[Qdc];simp;omega)
     rw[Qdc,List.length_singleton] at this;exact this
   show Nx (ba8 ⟨(n:Int),true,h,nm,u',v',nm2⟩ ⟨phL O,is9,(j:Int),lI,ih,O.length,cpR O⟩) _ _;rw[hst];exact .nx ⟨_,rfl,_,fin⟩
 ·obtain⟨O,hi⟩:=hi;have hje:j=n:=by have:=hi.le;omega
  subst hje;have hi':=hi;obtain⟨_,h2,h3,h4,h5,h6,h7,h8,h9,h10⟩:=hi;obtain⟨ph,is9,na5,lI,ih,nh,eh⟩:=s
  simp only at h2 h3 h4 h5 h6 h7 h8 h9 h10
  subst h2 h5 h6 h8 h9
  rcases I6 O with⟨hz,hn⟩|h1
  ·refine⟨1,?_,O,by rw[hz],hi'⟩
   rw[hz];show ja6 Stp.next Stp.exit Stp.fail _ _=_;simp only[ja6];rw[bfD (w8 (Qie _))]
  ·refine⟨2,?_,O,by rw[h1],hi'⟩
   rw[h1];show ja7 Stp.next Stp.exit Stp.fail _ _=_;simp only[ja7];rw[bfD (w8 (Qie _))]
structure RPw(n:Nat)(u:List Int)(E:List (List b7))(j:Nat)(s:D9)(V:List Int):Prop where
 le:j<=n
 ph:s.ph=if j=0 then 1 else 2
 ix:s.Yb2=(j:Int)
 u:s.I0=u
 d:0<=s.X4/\s.X4<=(j:Int)
 e3:s.eh3=E
 n:s.Ea5=j
 e4:s.eh4=bL tI V
 l:V.length=j
 o:∀v∈V,v=1\/v=2\/v=3
theorem Vd0{n:Nat}{u:List Int}{E:List (List b7)}{nm nm2:ByteArray}(hn:1<=n/\n<=1000) :
  ∃s V,lp (ia5 ⟨nm,nm2,n⟩) ⟨1,0,u,0,E,0,[]⟩=(3,s)/\RPw n u E n s V:=by
 suffices key:∃tt s,lp (ia5 ⟨nm,nm2,n⟩) ⟨1,0,u,0,E,0,[]⟩=(tt,s)/\∃V,tt=3/\RPw n u E n s V by
  obtain⟨tt,s,h1,V,h2,h3⟩:=key;exact⟨s,V,by rw[h1,h2],h3⟩
 refine da0 (step:=ia5 ⟨nm,nm2,n⟩) (mk:=λ_ (s:D9)=>s) n (λj s=>∃V,RPw n u E j s V) (λtt s=>∃V,tt=3/\RPw n u E n s V) (by omega)
  (λj s hj hi=>?_) (λj s hj hi=>?_) 0 ⟨1,0,u,0,E,0,[]⟩ ⟨[],⟨Qbv _,rfl,rfl,rfl,⟨Int.le_refl _,Int.le_refl _⟩,rfl,rfl,rfl,rfl,by simp⟩⟩
 ·obtain⟨V,hi⟩:=hi;obtain⟨_,h2,h3,h4,⟨h5,h5'⟩,h6,h7,h8,h9,h10⟩:=hi;obtain⟨ph,is,lI,ih,e3,nh,e4⟩:=s
  simp only at h2 h3 h4 h5 h5' h6 h7 h8 h9 h10
  subst h2 h3 h4 h6 h7 h8;obtain⟨v,d',w1,w2,w3,w4,w5⟩:=pa6 4 lI ih h5 (by omega) (by decide) (by decide)
  have hw1:W ((nh:Int)+1)=((nh+1:Nat):Int):=A5 hj (by omega)
  have q11:Nat.beq 1 1=true:=rfl;obtain⟨m,rfl⟩:∃m:Nat,v=(m:Int):=⟨v.toNat,by omega⟩
  have hm:m<4:=by omega
  have hin:inB (m:Int) 4=true:=l0 hm;have hrow:∃k:Int,c8 [[i 2],[i 1],[i 3],[i 2]] (0+m)=[i k]/\(k=1\/k=2\/k=3):=by
   match m,hm with
   |0,_=>exact⟨2,rfl,by simp⟩
   |1,_=>exact⟨1,rfl,by simp⟩
   |2,_=>exact⟨3,rfl,by simp⟩
   |3,_=>exact⟨2,rfl,by simp⟩
  obtain⟨k,hk,hko⟩:=hrow;have g:((Nat.ble 1 (len [i k]))&&(ka1 [CK.int .i64] [i k]))=true:=rfl;have t:toI (hdA [i k])=k:=rfl;have fin:RPw n lI e3 (nh+1) ⟨2,((nh+1:Nat):Int),lI,d',e3,nh+1,bL tI (V++[k])⟩ (V++[k]) :=
   ⟨hj,by rw[if_neg (by omega)],rfl,rfl,by show 0<=d'/\d'<=((nh+1:Nat):Int);omega,rfl,rfl,rfl,by rw[Qdc,h9];rfl,λx hx=>by
    rcases Qis.1 hx with hx|hx
    ·exact h10 x hx
    ·rw[Qla.1 hx];exact hko⟩
  have hst:ia5 ⟨nm,nm2,n⟩ ⟨if nh=0 then 1 else 2,(nh:Int),lI,ih,e3,nh,bL tI V⟩=.next ⟨2,((nh+1:Nat):Int),lI,d',e3,nh+1,bL tI (V++[k])⟩:=by
   by_cases h0:nh=0
   ·rw[if_pos h0];have hV:V=[]:=List.length_eq_zero_iff.1 (by omega)
    show ub6 Stp.next Stp.exit Stp.fail _ _=_;simp only[ub6,l9,s7,Qka,w1,Int.toNat_natCast,hk,hin,g,t,hw1,g7,q11];rw[btD (n8 hj),hV,h0];rfl
   ·rw[if_neg h0];show Ia2 Stp.next Stp.exit Stp.fail _ _=_;simp only[Ia2,l9,s7,Qka,w1,Int.toNat_natCast,hk,hin,g,t,hw1,g7,q11];rw[btD (n8 hj),bt,show app (bL tI V) [[i k]]=bL tI (V++[k]) from ra4 tI V [k]]
    rw[J2,h9,Qim,Qke,Qiy];unfold room;omega
  show Nx (ia5 ⟨nm,nm2,n⟩ ⟨if nh=0 then 1 else 2,(nh:Int),lI,ih,e3,nh,bL tI V⟩) _ _
  rw[hst];exact .nx ⟨_,rfl,_,fin⟩
 ·obtain⟨V,hi⟩:=hi;have hje:j=n:=by have:=hi.le;omega
  subst hje;refine⟨3,?_,V,rfl,hi⟩;obtain⟨_,h2,h3,h4,h5,h6,h7,h8,h9,h10⟩:=hi;obtain⟨ph,is,lI,ih,e3,nh,e4⟩:=s
  simp only at h2 h3 h4 h5 h6 h7 h8 h9 h10
  subst h2 h3 h4 h6 h7 h8;rw[if_neg (by omega)]
  show Ia2 Stp.next Stp.exit Stp.fail _ _=_;simp only[Ia2];rw[bfD (w8 (Qie _))]
theorem Xe7{nm:ByteArray}{c w:b7}{cl:LPq}{wt:List Int}(h2:CR tLq c cl)(h3:CR tI w wt):(one r1J).rd (.agg [.v (.string nm),c,w],[])=some ⟨nm,cl,wt⟩:=by
 show Option.rec (motive:=λ_=>Option Prt) none (λp=>Bool.rec (motive:=λ_=>Option Prt) none (some (tJ.rd p)) (tJ.ok p)) ((freezeCells [] [.v (.string nm),c,w]).map (·.1))=_
 rw[fz3 (show freezeCell [] (.v (.string nm))=some (.v (.string nm),[]) from rfl) h2.fz h3.fz]
 show Bool.rec (motive:=λ_=>Option Prt) none (some (tJ.rd [.v (.string nm),c,w])) (Bool.and (tMq.ok [c]) (Bool.and ((tLs tI).ok [w]) true))=_
 rw[h2.ok,h3.ok];show some (Prt.mk nm (rL tLq c) (rL tI w))=_;rw[h2.rd,h3.rd]
theorem CR.cp(l:LPq){n:Nat}(h:n=l.length):CR tLq (.tree 1 n (λk=>c8 (cpR l) (0+k))) l:=by
 subst h;exact .tree tLq (ue9 l).2 (ue9 l).1
theorem Hf9{v:List Int}{O:LPq}{s:D9}{V:List Int}(hm:Mcl O)(h:RPw O.length v (cpR O) O.length s V) :
  Rd (one r1J) (some ((.agg [(.v (.string ⟨#[112]⟩)),(.tree 1 O.length (λk=>c8 s.eh3 (0+k))),(.tree 1 s.Ea5 (λk=>c8 s.eh4 (0+k)))]),[])) Mp:=by
 rw[h.e3,h.e4];exact⟨_,_,rfl,Xe7 (.cp O rfl) (.bL tI V (by rw[h.n,h.l])),hm,h.l,h.o⟩
theorem gf7(c:PLq):s5 (toG (cpA c)) (List.range (toN (cpA c)))=bL tP c:=by
 show s5 (λk=>c8 (bL tP c) k) (List.range c.length)=bL tP c
 conv=>rhs;rw[<- ra5]
 rw[s8,s8];exact Qcn λk hk=>X5 tP (Qca.1 hk)
theorem we3(c:PLq)(p:Pln):app (bL tP c) [[i p.n.x,i p.n.y,i p.n.z,i p.b]]=bL tP (c++[p]):=ra4 tP c [p]
theorem ng3(l:LPq)(k:Nat)(c:PLq):setAt (cpR l) k [cpA c]=cpR (l.set k c):=by
 unfold cpR;exact Jd1 (λc=>[cpA c]) l k c
theorem Me5{n:Nat}{t:Bool}{h:Int}{u:List Int}{s:O0}{O:LPq}(x:L2)(r:RPa n t h u n s O)(hn:n<=4)(hh:2<=h/\h<=4)(h1:2<=O.length)(h2:O.length<=6):Rd (one r1J) (gf5 x (2,s)) Mp:=by
 obtain⟨_,_,hr,hx,_,_,hd,hnh,he,_⟩:=r;obtain⟨ph,is9,na5,lI,ih,nh,eh⟩:=s
 simp only at hr hx hd hnh he
 subst hnh he;have hm:Mcl O:=hr.mcl hh (by omega) h1 h2
 obtain⟨v6,d6,e6,p6,q6,r6,_⟩:=pa6 4 lI ih hd.1 (by omega) (by decide) (by decide)
 obtain⟨vk,dk,ek,pk,qk,rk,_⟩:=pa6 (O.length:Int) lI d6 (by omega) (by omega) (by omega) (by omega)
 obtain⟨vb,db,eb,pb,qb,rb,_⟩:=pa6 4 lI dk (by omega) (by omega) (by decide) (by decide)
 obtain⟨s1,V,hw,hW⟩:=Vd0 (u:=x.v) (E:=cpR O) (nm:=⟨#[]⟩) (nm2:=⟨#[112]⟩) (n:=O.length) ⟨by omega,by omega⟩
 have F:=Hf9 hm hW;have q11:Nat.beq 1 1=true:=rfl;have q21:Nat.beq 2 1=false:=rfl;have q22:Nat.beq 2 2=true:=rfl;have q31:Nat.beq 3 1=false:=rfl;have q32:Nat.beq 3 2=false:=rfl;have q33:Nat.beq 3 3=true:=rfl;unfold gf5;simp only[l9,s7,Qka,q11,q21,q22,g7,A7,e6];refine Rd.sl (λ_=>?_) (λ_=>?_)
 ·refine Rd.sl (λh6=>?_) (λ_=>?_)
  ·have h6:(O.length:Int)<6:=by simpa using h6
   obtain⟨k,rfl⟩:∃k:Nat,vk=(k:Int):=⟨vk.toNat,by omega⟩
   have hk:k<O.length:=by omega
   have hw3:W (2+vb)=2+vb:=ia9 (by omega) (by omega)
   have hmem:=M1 tLq hk;have hl6:(gL tLq O k).length=6:=by
    obtain⟨a,c,y,h0,_⟩:=hr.c _ hmem;rw[h0,gc3]
   have hp:okp ⟨⟨0,1,1⟩,2+vb⟩=true:=we1 (by decide) (by decide) (by omega) (by omega)
   have hfl:Va8 ⟨⟨0,1,1⟩,2+vb⟩=Oa2 ⟨⟨0,1,1⟩,2+vb⟩:=Jc3 (sd0 hp);have hrow:c8 (cpR O) k=[cpA (gL tLq O k)]:=md1 hk;have hd0:hdA (s9 [cpA (gL tLq O k)] 0)=cpA (gL tLq O k):=rfl;have hck:ka1 [CK.sl 4] (s9 [cpA (gL tLq O k)] 0)=true:=rfl;have hbl:Nat.blt k (len (cpR O))=true:=by rw[uc0,Qch];exact hk
   have hle1:Nat.ble (0+1) (len [cpA (gL tLq O k)])=true:=rfl;have hrm:∀m:Nat,m<=100->Nat.ble (m*32) room=true:=λm hm=>by rw[Qiy];unfold room;omega
   have a1:app (bL tP (gL tLq O k)) [[i 0,i 1,i 1,i (2+vb)]]=bL tP (gL tLq O k++[⟨⟨0,1,1⟩,2+vb⟩]):=we3 _ ⟨⟨0,1,1⟩,2+vb⟩;have a2:app (bL tP (gL tLq O k)) [[i (Oa2 ⟨⟨0,1,1⟩,2+vb⟩).n.x,i (Oa2 ⟨⟨0,1,1⟩,2+vb⟩).n.y,i (Oa2 ⟨⟨0,1,1⟩,2+vb⟩).n.z,i (Oa2 ⟨⟨0,1,1⟩,2+vb⟩).b]]=bL tP (gL tLq O k++[Oa2 ⟨⟨0,1,1⟩,2+vb⟩]):=we3 _ _;have L1:∀p:Pln,(gL tLq O k).length+1=(gL tLq O k++[p]).length:=λp=>by rw[Qdc];rfl
   have s1':∀p:Pln,slR tP (bL tP (gL tLq O k++[p])) 0 ((gL tLq O k).length+1)=gL tLq O k++[p]:=λp=>by rw[L1 p];exact pc4 tP _
   have s2':∀p:Pln,okS tP (bL tP (gL tLq O k++[p])) 0 ((gL tLq O k).length+1)=true:=λp=>by rw[L1 p];exact pc5 tP _
   have c1:∀p:Pln,b7.tree 4 ((gL tLq O k).length+1) (λj=>c8 (bL tP (gL tLq O k++[p])) (0+j))=cpA (gL tLq O k++[p]):=λp=>by rw[L1 p];exact Lc4 _
   have f1:=Qc9 (c:=gL tLq O k++[⟨⟨0,1,1⟩,2+vb⟩]) (by rw[Qdc,hl6];simp)
   have f2:=Rc0 (c:=gL tLq O k++[⟨⟨0,1,1⟩,2+vb⟩]) (by rw[Qdc,hl6];simp)
   have f3:=Qc9 (c:=gL tLq O k++[Oa2 ⟨⟨0,1,1⟩,2+vb⟩]) (by rw[Qdc,hl6];simp)
   have f4:=Rc0 (c:=gL tLq O k++[Oa2 ⟨⟨0,1,1⟩,2+vb⟩]) (by rw[Qdc,hl6];simp)
   have sp:∀y:b7,Q0 [cpA (gL tLq O k)] 0 [y]=[y]:=λy=>rfl
   have hin:inB (k:Int) O.length=true:=l0 hk;simp only[ek,eb,q11,g7,Int.toNat_natCast,Qar,hrow,hd0,hck,hin,hw3,hfl,gf7,nc6,a1,a2,J2,Qim,hbl,show Nat.ble 1 (len [cpA (gL tLq O k)])=true from rfl,Qka]
   simp only[Qar] at c1;simp only[hrm _ (show (gL tLq O k).length<=100 by omega),hrm _ (show (gL tLq O k).length+1<=100 by omega),s1',s2',c1,f1,f2,f3,f4,sp,ng3,bb4,g7,Qka]
   refine Rd.sl (λg1=>?_) (λ_=>?_)
   ·refine Rd.sl (λg2=>?_) (λ_=>?_)
    ·have m2:=hm.cut (by omega) (λq hq=>by obtain⟨a,c,y,h0,_⟩:=hr.c _ hq;rw[h0,gc3]) hp hk g1 g2
     have e1:O.length+1=(O.set k (gL tLq O k++[⟨⟨0,1,1⟩,2+vb⟩])++[gL tLq O k++[Oa2 ⟨⟨0,1,1⟩,2+vb⟩]]).length:=by rw[Qdc,Qig];rfl
     obtain⟨s3,V3,hw3,hW3⟩:=Vd0 (u:=x.v) (E:=cpR (O.set k (gL tLq O k++[⟨⟨0,1,1⟩,2+vb⟩])++[gL tLq O k++[Oa2 ⟨⟨0,1,1⟩,2+vb⟩]])) (nm:=⟨#[]⟩) (nm2:=⟨#[112]⟩) (n:=(O.set k (gL tLq O k++[⟨⟨0,1,1⟩,2+vb⟩])++[gL tLq O k++[Oa2 ⟨⟨0,1,1⟩,2+vb⟩]]).length) ⟨by omega,by omega⟩
     have F3:=Hf9 m2 hW3;have hroom:(Nat.beq O.length (len (cpR (O.set k (gL tLq O k++[⟨⟨0,1,1⟩,2+vb⟩]))))&&Nat.ble ((O.length+1)*24) room)=true:=by
      have:=Wb1 (O.set k (gL tLq O k++[⟨⟨0,1,1⟩,2+vb⟩])) (by rw[Qig];omega)
      rw[Qig] at this;exact this
     rw[hroom,e1,hw3];simp only[Qar] at F3;exact F3
    ·rw[hw];simp only[Qar] at F;exact F
   ·rw[hw];simp only[Qar] at F;exact F
  ·rw[hw];exact F
 ·rw[hw];exact F
theorem gf8(x:L2):Rd (one r1J) (Wb8 x) Mp:=by
 obtain⟨v1,d1,e1,p1,q1,r1,r1'⟩:=pa6 3 x.u 0 (by decide) (by decide) (by decide) (by decide)
 obtain⟨v2,d2,e2,p2,q2,r2,r2'⟩:=pa6 3 x.u d1 (by omega) (by omega) (by decide) (by decide)
 obtain⟨v3,d3,e3,p3,q3,r3,r3'⟩:=pa6 3 x.u d2 (by omega) (by omega) (by decide) (by decide)
 obtain⟨v4,d4,e4,p4,q4,r4,r4'⟩:=pa6 3 x.u d3 (by omega) (by omega) (by decide) (by decide)
 obtain⟨n,hn⟩:∃n:Nat,2+v1=(n:Int):=⟨(2+v1).toNat,by omega⟩
 have w1:W (2+v1)=(n:Int):=by rw[ia9 (by omega) (by omega)];exact hn
 have w4:W (2+v4)=2+v4:=ia9 (by omega) (by omega)
 have w3:W (-6+v3)=-6+v3:=ia9 (by omega) (by omega)
 have q11:Nat.beq 1 1=true:=rfl;unfold Wb8;simp only[l9,s7,Qka,g7,e1,e2,e3,e4,w1,w3,w4,q11];refine Rd.sl (λ_=>?_) (λ_=>?_)
 ·obtain⟨s,O,h1,h2⟩:=Ud9 (n:=n) (t:=decide ((n:Int)<4)) (h:=2+v4) (nm:=⟨#[]⟩) (nm2:=⟨#[112]⟩) (u:=x.u) (u':=x.u) (v':=x.v) (x:=-6+v3) (d:=d4) (by omega) (by omega) (by omega) (by omega)
  have hl:=h2.l;have h3:2<=O.length/\O.length<=6:=by
   rw[hl];unfold Me4;by_cases h4:(n:Int)<4
   ·rw[decide_eq_true h4,if_pos rfl];omega
   ·rw[decide_eq_false h4,if_neg (by decide)];omega
  rcases I6 O with⟨_,h0⟩|h0
  ·rw[h0] at h3;simp at h3
  ·rw[h1,h0];exact Me5 x h2 (by omega) (by omega) h3.1 h3.2
 ·obtain⟨s,O,h1,h2⟩:=Ud9 (n:=n) (t:=false) (h:=2+v4) (nm:=⟨#[]⟩) (nm2:=⟨#[112]⟩) (u:=x.u) (u':=x.u) (v':=x.v) (x:=-6+v3) (d:=d4) (by omega) (by omega) (by omega) (by omega)
  have hl:=h2.l;have h3:2<=O.length/\O.length<=6:=by
   rw[hl];unfold Me4;rw[if_neg (by decide)]
   omega
  rcases I6 O with⟨_,h0⟩|h0
  ·rw[h0] at h3;simp at h3
  ·rw[h1,h0];exact Me5 x h2 (by omega) (by omega) h3.1 h3.2
theorem ng4(x:L2):Mp (Ab9 x):=(gf8 x).p
theorem ng5(x:L2):bd1 x=true:=(gf8 x).g
structure xb1(E:List (List b7))(l:LPq):Prop where
 n:len E=l.length
 r:∀k,k<l.length->∃r,c8 E k=[r]/\tLq.rd [r]=gL tLq l k/\tLq.ok [r]=true
theorem xb1.cr{E:List (List b7)}{l:LPq}(h:xb1 E l){n:Nat}(hn:n<=l.length):CR tLq (.tree 1 n (λk=>c8 E (0+k))) (l.take n):=by
 refine .tree tLq ?_ ?_
 ·unfold okL;rw[Qcc];intro k hk;have hk:k<n:=by simpa using hk
  obtain⟨r,h1,_,h3⟩:=h.r k (by omega)
  show tLq.ok (c8 E (0+k))=true;rw[Qar,h1,h3]
 ·unfold lsL;refine List.ext_getElem (by simp;omega) λk h1 h2=>?_
  have hk:k<n:=by simpa using h1
  obtain⟨r,g1,g2,_⟩:=h.r k (by omega)
  simp only[List.getElem_map,List.getElem_range,Qar,g1,g2,List.getElem_take];exact gb5 tLq (by omega)
theorem xb1.all{E:List (List b7)}{l:LPq}(h:xb1 E l){n:Nat}(hn:n=l.length):CR tLq (.tree 1 n (λk=>c8 E (0+k))) l:=by
 have:=h.cr (n:=n) (by omega)
 rw[hn,Qkb] at this;rw[hn];exact this
theorem xb1.cp(l:LPq):xb1 (cpR l) l:=⟨uc0 l,λk hk=>⟨_,md1 hk,(Ke9 _).1,(Ke9 _).2⟩⟩
theorem Xe8{E:List (List b7)}{j k:Nat}(r:List b7)(hj:j<len E):c8 (setAt E j r) k=if k=j then r else c8 E k:=by
 unfold c8;rw[H6,F7,F7,List.getElem?_set];rw[z6] at hj;by_cases e:j=k
 ·subst e;simp[hj]
 ·rw[if_neg e,if_neg (λh=>e h.symm)]
theorem xb1.put{E:List (List b7)}{l:LPq}(h:xb1 E l){j:Nat}(hj:j<l.length)(c:PLq):xb1 (setAt E j [eL tP c]) (l.set j c):=by
 refine⟨by rw[H6,z6,Qig,<- z6,h.n,Qig],λk hk=>?_⟩
 rw[Qig] at hk;rw[Xe8 _ (by rw[h.n];exact hj),Xe6 tLq l c hj]
 by_cases e:k=j
 ·rw[if_pos e,if_pos e];exact⟨_,rfl,tLq.h1 c,tLq.h2 c⟩
 ·rw[if_neg e,if_neg e];exact h.r k hk
theorem ng6{nm:ByteArray}{cl:LPq}{wt:List Int}(h1:cl.length<=1000)(h2:wt.length<=1000)(h3:∀q∈cl,q.length<=1000):Jok ⟨nm,cl,wt⟩:=⟨by show cl.length<=_;omega,by show wt.length<=_;omega,λq hq=>by have:=h3 q hq;omega⟩
def Jne(x:Prt):Prop:=Jok x/\((∀q∈x.cl,q≠[])\/2<=x.cl.length)
theorem Nc3{nm:ByteArray}{c w:b7}{cl:LPq}{wt:List Int}(h2:CR tLq c cl)(h3:CR tI w wt)(k1:cl.length<=1000)(k2:wt.length<=1000)(k3:∀q∈cl,q.length<=1000)(k4:(∀q∈cl,q≠[])\/2<=cl.length):Rd (one r1J) (some (.agg [.v (.string nm),c,w],[])) Jne :=
 ⟨_,_,rfl,Xe7 h2 h3,ng6 k1 k2 k3,k4⟩
theorem gf9{α:Type}(t:Ty α)(l:List α){n:Nat}(hn:n<=l.length):CR t (.tree t.es n (λk=>c8 (bL t l) (0+k))) (l.take n):=by
 refine .tree t (pc3 t (f:=λk=>gL t l k) λk hk=>by rw[Qar,X5 t (by omega)]) ?_
 refine Ec3 t (by rw[Qia];omega) λk hk=>?_
 rw[Qar,X5 t (by omega)]
 simp only[gL,Qda];rw[Qap,if_pos hk]
structure ROd(j:Nat)(s:T6)(O:LPq)(V:List Int):Prop where
 ph:s.ph=1
 ix:s.is7=(O.length:Int)
 n2:s.P1=V.length
 e3:s.eh3=cpR O
 n1:s.Ra9=O.length
 e4:s.eh4=bL tI V
 l:O.length=j
 v:V.length=j
 c:∀q∈O,q.length<=1000
theorem rf3{a b' c:Int}{nm nm2:ByteArray}{O:LPq}{V:List Int}(h1:O.length<=16)(h2:V.length=O.length)(h3:∀q∈O,q.length<=1000) :
  ∃s O' V',lp (Aa7 ⟨a,b',c,nm,nm2⟩) ⟨1,(O.length:Int),V.length,cpR O,O.length,bL tI V⟩=(2,s)/\s.Ra9=O'.length/\s.eh3=cpR O'/\s.P1=V'.length/\s.eh4=bL tI V'/\O'.length<=17/\V'.length<=17/\(∀q∈O',q.length<=1000)/\2<=O'.length:=by
 have m1:=Ic2 c (y:=2) (by decide) (by decide)
 have m2:=lc6 c (y:=2) (by decide) (by decide)
 have hm:0<=c % 2/\c % 2<2:=⟨Qiae _ (by decide),Qiv _ (by decide)⟩
 have hw:W (16+c % 2)=16+c % 2:=ia9 (by omega) (by omega)
 obtain⟨n,hn⟩:∃n:Nat,16+c % 2=(n:Int):=⟨(16+c % 2).toNat,by omega⟩
 suffices key:∃t s,lp (Aa7 ⟨a,b',c,nm,nm2⟩) ⟨1,(O.length:Int),V.length,cpR O,O.length,bL tI V⟩=(t,s)/\t=2/\∃O' V',ROd n s O' V' by
  obtain⟨t,s,k1,rfl,O',V',k⟩:=key;exact⟨s,O',V',k1,k.n1,k.e3,k.n2,k.e4,by rw[k.l];omega,by rw[k.v];omega,k.c,by rw[k.l];omega⟩
 refine da0 (step:=Aa7 ⟨a,b',c,nm,nm2⟩) (mk:=λ_ (s:T6)=>s) n (λj s=>j<=n/\∃O' V',ROd j s O' V') (λt s=>t=2/\∃O' V',ROd n s O' V') (by omega)
  (λj s hj hi=>?_) (λj s hj hi=>?_) O.length _ ⟨by omega,O,V,rfl,rfl,rfl,rfl,rfl,rfl,rfl,h2,h3⟩
 ·obtain⟨_,O',V',hi⟩:=hi;obtain⟨a1,a2,a3,a4,a5,a6,a7,a8,a9⟩:=hi;obtain⟨ph,is,n2,e3,n1,e4⟩:=s
  simp only at a1 a2 a3 a4 a5 a6
  subst a1 a2 a3 a4 a5 a6;have hw1:W ((O'.length:Int)+1)=((O'.length+1:Nat):Int):=A5 (n:=n) (by omega) (by omega)
  have hw2:W ((O'.length:Int)+1)=(O'.length:Int)+1:=by rw[hw1];omega
  have hw4:W (0-(O'.length:Int))=-(O'.length:Int):=by rw[ia9 (by omega) (by omega)];omega
  have hw5:W (0-0)=-0:=rfl;have hw6:W (0-10)=-10:=rfl;have r1:=Wb1 O' (by omega)
  have r2:(Nat.beq V'.length (len (bL tI V'))&&Nat.ble ((V'.length+1)*8) room)=true:=by
   rw[J2,Qim,Qke,Qiy];unfold room;omega
  have r3:app (bL tI V') [[i (W (1+Int.tmod (O'.length:Int) 3))]]=bL tI (V'++[W (1+Int.tmod (O'.length:Int) 3)]):=ra4 tI V' [W (1+Int.tmod (O'.length:Int) 3)];have hst:Aa7 ⟨a,b',c,nm,nm2⟩ ⟨1,(O'.length:Int),V'.length,cpR O',O'.length,bL tI V'⟩=.next ⟨1,((O'.length+1:Nat):Int),V'.length+1,cpR (O'++[bx (O'.length:Int) 10 0 ((O'.length:Int)+1) 11 1]),O'.length+1,bL tI (V'++[W (1+Int.tmod (O'.length:Int) 3)])⟩:=by
   show Pa6 Stp.next Stp.exit Stp.fail _ _=_;simp only[Pa6,m1,m2,hw,hw2,Pb3,hw4,hw5,hw6,Nc2,bb4,r1,r2,r3,g7];rw[btD (by omega)]
   rfl
  show Nx (Aa7 ⟨a,b',c,nm,nm2⟩ ⟨1,(O'.length:Int),V'.length,cpR O',O'.length,bL tI V'⟩) _ _;rw[hst];refine .nx ⟨_,rfl,by omega,O'++[bx (O'.length:Int) 10 0 ((O'.length:Int)+1) 11 1],V'++[W (1+Int.tmod (O'.length:Int) 3)],rfl,by rw[Qdc];rfl,by rw[Qdc];rfl,rfl,by rw[Qdc];rfl,rfl,by rw[Qdc,a7];rfl,by rw[Qdc,a8];rfl,λq hq=>?_⟩
  rcases Qis.1 hq with hq|hq
  ·exact a9 q hq
  ·rw[Qla.1 hq,gc3];decide
 ·obtain⟨hjn,O',V',hi⟩:=hi;have hje:j=n:=by omega
  subst hje;refine⟨2,?_,rfl,O',V',hi⟩;obtain⟨a1,a2,a3,a4,a5,a6,a7,a8,a9⟩:=hi;obtain⟨ph,is,n2,e3,n1,e4⟩:=s
  simp only at a1 a2 a3 a4 a5 a6
  subst a1 a2 a3 a4 a5 a6;show Pa6 Stp.next Stp.exit Stp.fail _ _=_;simp only[Pa6,m1,m2,hw,g7];rw[bfD (by omega)]
theorem hf0{x:Prt}(m:Mp x)(y:V3):Rd (one r1J) (nc9 x y) Jne:=by
 have hne:∀q∈x.cl,q≠[]:=λq hq e=>by have:=(m.c.k q hq).1;rw[e] at this;simp at this
 have hn1:=m.c.n1;have hn2:=m.c.n2;have hcl:=m.jok;have hw:=m.w;have hk6:∀q∈x.cl,q.length<=1000:=λq hq=>by have:=(m.c.k q hq).2;omega
 have cu:=Fd8 hcl.cl hcl.pl;rw[if_neg (by intro e;rw[e] at hn1;simp at hn1)] at cu
 have M7:=Ic2 y.x (y:=7) (by decide) (by decide);have G7:=lc6 y.x (y:=7) (by decide) (by decide)
 have M5:=Ic2 y.z (y:=5) (by decide) (by decide);have G5:=lc6 y.z (y:=5) (by decide) (by decide)
 have hnI:(0:Int)<(x.cl.length:Int):=by omega
 have Mn:=Ic2 y.y (y:=(x.cl.length:Int)) hnI (by omega);have Gn:=lc6 y.y (y:=(x.cl.length:Int)) hnI (by omega)
 have hmx:(if (x.cl.length:Int)>1 then (x.cl.length:Int) else 1)=(x.cl.length:Int):=if_pos (by omega)
 obtain⟨k,hk⟩:∃k:Nat,y.y % (x.cl.length:Int)=(k:Int):=⟨(y.y % (x.cl.length:Int)).toNat,by have:=Qiae y.y (show (x.cl.length:Int)≠0 by omega);omega⟩
 have hkl:k<x.cl.length:=by have:=Qiv y.y hnI;omega
 have hin:inB (k:Int) x.cl.length=true:=l0 hkl;obtain⟨q,hq⟩:∃q:Nat,y.z % 5=(q:Int):=⟨(y.z % 5).toNat,by have:=Qiae y.z (show (5:Int)≠0 by decide);omega⟩
 have hq5:q<5:=by have:=Qiv y.z (show (0:Int)<5 by decide);omega
 have hrow5:∃v:Int,c8 [[i y.z],[i 0],[i 4],[i 1],[i 3]] q=[i v]:=by
  match q,hq5 with
  |0,_=>exact⟨_,rfl⟩
  |1,_=>exact⟨_,rfl⟩
  |2,_=>exact⟨_,rfl⟩
  |3,_=>exact⟨_,rfl⟩
  |4,_=>exact⟨_,rfl⟩
 obtain⟨v,hv⟩:=hrow5;have g5:((Nat.ble 1 (len [i v]))&&(ka1 [CK.int .i64] [i v]))=true:=rfl;have hrow:c8 (cpR x.cl) k=[cpA (gL tLq x.cl k)]:=md1 hkl;have hd0:s9 [cpA (gL tLq x.cl k)] 0=[cpA (gL tLq x.cl k)]:=rfl;have hdA0:hdA [cpA (gL tLq x.cl k)]=cpA (gL tLq x.cl k):=rfl;have hck:ka1 [CK.sl 4] [cpA (gL tLq x.cl k)]=true:=rfl;have hbl:Nat.blt k (len (cpR x.cl))=true:=by rw[uc0,Qch];exact hkl
 have hle1:Nat.ble 1 (len [cpA (gL tLq x.cl k)])=true:=rfl;have hroww:c8 (bL tI x.wt) k=[i (gL tI x.wt k)]:=X5 tI (by omega)
 have hblw:Nat.blt k (len (bL tI x.wt))=true:=by rw[J2,Qch];omega
 have hle2:Nat.ble 1 (len [i (gL tI x.wt k)])=true:=rfl;have r8:∀n:Nat,n<=100->Nat.ble (n*8) room=true:=λn hn=>by rw[Qiy];unfold room;omega
 have r32:∀n:Nat,n<=100->Nat.ble (n*32) room=true:=λn hn=>by rw[Qiy];unfold room;omega
 have l6:=(m.c.k _ (M1 tLq hkl)).2;have od1:=zg5 (gL tLq x.cl k) ⟨y.z,y.y,y.x⟩ (by omega)
 have od2:=zg4 (gL tLq x.cl k) ⟨y.z,y.y,y.x⟩ (by omega)
 have lsC:lsL tP (toN (cpA (gL tLq x.cl k))) (toG (cpA (gL tLq x.cl k)))=gL tLq x.cl k:=(Ke9 _).1;have okC:okL tP (toN (cpA (gL tLq x.cl k))) (toG (cpA (gL tLq x.cl k)))=true:=(Ke2 tP (gL tLq x.cl k) rfl).2;have sp:∀a c:b7,Q0 [a] 0 [c]=[c]:=λa c=>rfl
 have setw:∀n:Int,setAt (bL tI x.wt) k [i n]=bL tI (x.wt.set k n):=λn=>Ec4 tI x.wt k n
 have appw:∀n:Int,app (bL tI x.wt) [[i n]]=bL tI (x.wt++[n]):=λn=>ra4 tI x.wt [n]
 have tv:toI (hdA [i v])=v:=rfl;have base:=λ(cl':b7) (cl:LPq) (h:CR tLq cl' cl)=>h
 have C0:CR tLq (.tree 1 x.cl.length (λk=>c8 (cpR x.cl) (0+k))) x.cl:=.cp x.cl rfl
 have W0:CR tI (.tree 1 x.wt.length (λk=>c8 (bL tI x.wt) (0+k))) x.wt:=.bL tI x.wt rfl
 have tail:Rd (one r1J) (some (.agg [.v (.string x.nm),.tree 1 x.cl.length (λk=>c8 (cpR x.cl) (0+k)),.tree 1 x.wt.length (λk=>c8 (bL tI x.wt) (0+k))],[])) Jne:=Nc3 C0 W0 (by omega) (by omega) hk6 (.inl hne)
 have q21:Nat.beq 2 1=false:=rfl;have q22:Nat.beq 2 2=true:=rfl;have hdv:∀n:Nat,n<=100->W (Int.tdiv (n:Int) 2)=((n / 2:Nat):Int):=λn hn=>by
  rw[show Int.tdiv (n:Int) 2=((n / 2:Nat):Int) by rw[Int.tdiv_eq_ediv_of_nonneg (by omega)];omega,ia9 (by omega) (by omega)]
 unfold nc9;simp only[l9,A3,cu,q21,q22,g7,A7,ra5,J2,nc6,Qar,Qim];have hkb:Nat.blt k x.cl.length=true:=by rw[Qch];exact hkl
 simp only[hkb,J2,g7,A7,hw,hmx,M7,G7,M5,G5,Mn,Gn,hk,hq,Int.toNat_natCast,hv,hin,hrow,hd0,hdA0,hck,hbl,hle1,hroww,hblw,hle2,sp,setw,appw,tv,g5,lsC,okC,od2,gf7,l0 hq5,
  Qka,Qke,r8 _ (show x.cl.length<=100 by omega),r8 _ (show x.cl.length+1<=100 by omega),r32 _ (show (gL tLq x.cl k).length<=100 by omega),Nat.sub_zero,decide_eq_true (show (x.cl.length:Int)>0 by omega),hdv _ (show x.cl.length<=100 by omega),l0 (show x.cl.length / 2<x.cl.length+1 by omega)]
 rw[hw] at W0 tail;simp only[Qar] at C0 W0 tail;refine Rd.sl (λ_=>?_) (λ_=>?_)
 ·refine Nc3 C0 (wt:=x.wt.set k v) ?_ (by omega) (by rw[Qig];omega) hk6 (.inl hne)
  have:=CR.bL tI (x.wt.set k v) (n:=x.cl.length) (by rw[Qig];omega)
  simp only[Qar] at this;exact this
 refine Rd.sl (λ_=>?_) (λ_=>?_)
 ·refine Nc3 C0 (wt:=x.wt++[1]) ?_ (by omega) (by rw[Qdc];simp;omega) hk6 (.inl hne)
  have:=CR.bL tI (x.wt++[1]) (n:=x.cl.length+1) (by rw[Qdc];simp;omega)
  simp only[Qar] at this;exact this
 refine Rd.sl (λ_=>?_) (λ_=>?_)
 ·have:=((xb1.cp x.cl).put hkl (Qc6 (gL tLq x.cl k) ⟨y.z,y.y,y.x⟩)).all (n:=x.cl.length) (by rw[Qig])
  simp only[Qar] at this;refine Nc3 this W0 (by rw[Qig];omega) (by omega) (λc hc=>?_) (.inr (by rw[Qig];omega))
  rcases Qlb hc with h|rfl
  ·exact hk6 c h
  ·omega
 refine Rd.sl (λ_=>?_) (λ_=>?_)
 ·have c1:=Lc4 (gL tLq x.cl k);simp only[Qar] at c1;have r1:=Wb1 x.cl (by omega)
  simp only[c1,bb4,r1,g7];have h1:=CR.cp (x.cl++[gL tLq x.cl k]) (n:=x.cl.length+1) (by rw[Qdc];rfl)
  have h2:=CR.bL tI (x.wt++[1]) (n:=x.cl.length+1) (by rw[Qdc];simp;omega)
  simp only[Qar] at h1 h2;refine Nc3 h1 h2 (by rw[Qdc];simp;omega) (by rw[Qdc];simp;omega) (λc hc=>?_) (.inr (by rw[Qdc];simp;omega))
  rcases Qis.1 hc with h|h
  ·exact hk6 c h
  ·rw[Qla.1 h];omega
 refine Rd.sl (λ_=>?_) (λ_=>?_)
 ·obtain⟨s,O',V',e1,e2,e3,e4,e5,e6,e7,e8,e9⟩:=rf3 (a:=y.x) (b':=y.y) (c:=y.z) (nm:=⟨#[]⟩) (nm2:=x.nm) (O:=x.cl) (V:=x.wt) (by omega) hw hk6
  rw[hw] at e1;rw[e1,e2,e3,e4,e5];have h1:=CR.cp O' rfl;have h2:=CR.bL tI V' rfl;simp only[Qar] at h1 h2;exact Nc3 h1 h2 (by omega) (by omega) e8 (.inr e9)
 refine Rd.sl (λ_=>?_) (λ_=>?_)
 ·have h1:=(xb1.cp x.cl).cr (n:=x.cl.length / 2) (by omega)
  have h2:=gf9 tI x.wt (n:=x.cl.length / 2) (by omega)
  simp only[Qar] at h1 h2;exact Nc3 h1 h2 (by rw[Qia];omega) (by rw[Qia];omega) (λc hc=>hk6 c (Qle hc)) (.inl λq hq=>hne q (Qle hq))
 refine Rd.sl (λ_=>?_) (λ_=>?_)
 ·exact Nc3 (.nil tLq) (.nil tI) (by simp) (by simp) (by simp) (.inl (by simp))
 ·exact tail
theorem Uf5{x:Prt}(m:Mp x)(y:V3):Jne (Rc8 x y):=(hf0 m y).p
theorem ng7{x:Prt}(m:Mp x)(y:V3):ud3 x y=true:=(hf0 m y).g
end Go.Ev.Ce
