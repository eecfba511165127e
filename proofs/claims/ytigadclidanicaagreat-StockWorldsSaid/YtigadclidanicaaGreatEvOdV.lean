/- Own work. -/
import Derived.Test.YtigadclidanicaaGreatEvOdS
import Derived.ChangeArms
set_option linter.all false
noncomputable section
def Qma:=@Nat.zero_mul
def Qmb:=@Nat.mul_one
namespace Go.Ev.Ce
open Go Go.Ev Go.Ev.L Go.Proofs
set_option maxRecDepth 100000
def la8:List (Nat×Sum):=[(9,Dc4),(10,Yb7),(15,Ac8),(18,od7),(17,Id3),(19,cc7),(22,Jb2),(27,fb0),(28,rb4),(29,Sb1)]
theorem uc1:C6 prog G la8:=⟨sd7,Sc1,Zc6,fe3,ve8,Cc0,hc8,sb6,Ab3,rc6,trivial⟩
structure H9 where
 is1:Int
 bs5:Bool
 Ga8:Int
 ga0:LPq
 Ge8:Int
 (P7 ja0:List Int)
 (ja1 ja2 ja3 ja4:List (List Int))
 (gb9 hb5 hb6 hb7 Na1 Na2:Int)
 Da8:ByteArray
 S3:LPq
 ga6:List Int
 (R7 R8:List Bool)
 M9:LPq
structure A8 where
 ph:Nat
 (is9 Ec2:Int)
 ns8:Nat
 eh3:List (List c7)
def lb3(p:H9)(s:A8):St:=⟨.unk::.v (.int .u8 p.is1)::.ptr 0 0 0 0::.unk::.unk::b p.bs5::.ptr 1 0 0 0::.ptr 2 0 0 0::nlq::i s.is9::ra 22 (i p.Ga8::ra 33 (eL tLq p.ga0::i p.Ge8::i s.Ec2::ra 93 [])),[bq 0 12 [[eL tI p.P7,eL tI p.ja0,eL (tLs tI) p.ja1,eL (tLs tI) p.ja2,eL (tLs tI) p.ja3,eL (tLs tI) p.ja4,i p.gb9,i p.hb5,i p.hb6,i p.hb7,i p.Na1,i p.Na2]],bq 0 3 [[.v (.string p.Da8),eL tLq p.S3,eL tI p.ga6]],bq 0 3 [[eL tB p.R7,eL tB p.R8,eL tLq p.M9]]]⟩
def lb4(p:H9)(s:A8):St:=⟨.unk::.v (.int .u8 p.is1)::.ptr 0 0 0 0::.unk::.unk::b p.bs5::.ptr 1 0 0 0::.ptr 2 0 0 0::.sl 3 0 s.ns8 0::i s.is9::ra 22 (i p.Ga8::ra 33 (eL tLq p.ga0::i p.Ge8::i s.Ec2::ra 93 [])),[bq 0 12 [[eL tI p.P7,eL tI p.ja0,eL (tLs tI) p.ja1,eL (tLs tI) p.ja2,eL (tLs tI) p.ja3,eL (tLs tI) p.ja4,i p.gb9,i p.hb5,i p.hb6,i p.hb7,i p.Na1,i p.Na2]],bq 0 3 [[.v (.string p.Da8),eL tLq p.S3,eL tI p.ga6]],bq 0 3 [[eL tB p.R7,eL tB p.R8,eL tLq p.M9]],bq 35 1 s.eh3]⟩
def oc1(p:H9)(s:A8):St:=(sel (Nat.beq s.ph 1) (lb4 p s) (lb3 p s))
def U4{α:Type}(k:A8->α)(e:Nat->α)(z:α)(p:H9)(s:A8):α:=(sl (decide (s.Ec2<p.Ge8)) (sl (inB s.Ec2 (List.length p.ga0)) (sl (decide (0<=s.is9)) (sl ((bf3 .u8 (bf4 .u8 p.is1 s.is9) 1)==1) (k ⟨1,W (s.is9+1),W (s.Ec2+1),1,[[eL tP (gL tLq p.ga0 s.Ec2.toNat)]]⟩) (k ⟨0,W (s.is9+1),W (s.Ec2+1),0,[]⟩)) z) z) (e 1))
def U5{α:Type}(k:A8->α)(e:Nat->α)(z:α)(p:H9)(s:A8):α:=(sl (decide (s.Ec2<p.Ge8)) (sl (inB s.Ec2 (List.length p.ga0)) (sl (decide (0<=s.is9)) (sl ((bf3 .u8 (bf4 .u8 p.is1 s.is9) 1)==1) (sl (Nat.beq s.ns8 (len s.eh3)&&Nat.ble ((s.ns8+1)*24) room) (k ⟨1,W (s.is9+1),W (s.Ec2+1),s.ns8+1,app s.eh3 [[eL tP (gL tLq p.ga0 s.Ec2.toNat)]]⟩) z) (k ⟨1,W (s.is9+1),W (s.Ec2+1),s.ns8,s.eh3⟩)) z) z) (e 2))
def B6(p:H9)(s:A8):Stp A8:=(sel (Nat.beq s.ph 1) (U5 .next .exit .fail p s) (U4 .next .exit .fail p s))
def Pa4:Lo H9 A8:=⟨En la8,0,pf6,[1,1,1,1,1,1,0,1,4,4,1,1,0,4,1,1,1,1,1,1,1,1,4,4],[1,2,5,6,7,8,9,32,66,67,68],.p,[⟨sUq::.s (.o (.int .u8))::sPq 0::sUq::sUq::sBq::sPq 1::sPq 2::.s (.o .nil)::sIq::ru2 22 (sIq::ru2 33 (sLq tLq::sIq::sIq::ru2 93 [])),[⟨0,12,true,some [[.c 1 (nL tI),.c 1 (nL tI),.c 1 (nL (tLs tI)),.c 1 (nL (tLs tI)),.c 1 (nL (tLs tI)),.c 1 (nL (tLs tI)),.o (.int .i64),.o (.int .i64),.o (.int .i64),.o (.int .i64),.o (.int .i64),.o (.int .i64)]]⟩,⟨0,3,true,some [[.o .val,.c 1 (nL tLq),.c 1 (nL tI)]]⟩,⟨0,3,true,some [[.c 1 (nL tB),.c 1 (nL tB),.c 1 (nL tLq)]]⟩],λa H=>(⟨aIq a 1,aBq a 5,aIq a 32,aLq tLq a 66,aIq a 67,hLq tI H 0 0 0,hLq tI H 0 0 1,hLq (tLs tI) H 0 0 2,hLq (tLs tI) H 0 0 3,hLq (tLs tI) H 0 0 4,hLq (tLs tI) H 0 0 5,hIq H 0 0 6,hIq H 0 0 7,hIq H 0 0 8,hIq H 0 0 9,hIq H 0 0 10,hIq H 0 0 11,da2 (slT (rwT (elT H 1) 0) 0),hLq tLq H 1 0 1,hLq tI H 1 0 2,hLq tB H 2 0 0,hLq tB H 2 0 1,hLq tLq H 2 0 2⟩,⟨0,aIq a 9,aIq a 68,0,[]⟩)⟩,⟨sUq::.s (.o (.int .u8))::sPq 0::sUq::sUq::sBq::sPq 1::sPq 2::.s (.o (.sl 3 0 (some 0) none))::sIq::ru2 22 (sIq::ru2 33 (sLq tLq::sIq::sIq::ru2 93 [])),[⟨0,12,true,some [[.c 1 (nL tI),.c 1 (nL tI),.c 1 (nL (tLs tI)),.c 1 (nL (tLs tI)),.c 1 (nL (tLs tI)),.c 1 (nL (tLs tI)),.o (.int .i64),.o (.int .i64),.o (.int .i64),.o (.int .i64),.o (.int .i64),.o (.int .i64)]]⟩,⟨0,3,true,some [[.o .val,.c 1 (nL tLq),.c 1 (nL tI)]]⟩,⟨0,3,true,some [[.c 1 (nL tB),.c 1 (nL tB),.c 1 (nL tLq)]]⟩,⟨35,1,true,none⟩],λa H=>(⟨aIq a 1,aBq a 5,aIq a 32,aLq tLq a 66,aIq a 67,hLq tI H 0 0 0,hLq tI H 0 0 1,hLq (tLs tI) H 0 0 2,hLq (tLs tI) H 0 0 3,hLq (tLs tI) H 0 0 4,hLq (tLs tI) H 0 0 5,hIq H 0 0 6,hIq H 0 0 7,hIq H 0 0 8,hIq H 0 0 9,hIq H 0 0 10,hIq H 0 0 11,da2 (slT (rwT (elT H 1) 0) 0),hLq tLq H 1 0 1,hLq tI H 1 0 2,hLq tB H 2 0 0,hLq tB H 2 0 1,hLq tLq H 2 0 2⟩,⟨1,aIq a 9,aIq a 68,slN (slT a 8),elT H 3⟩)⟩],B6,[(some 2,λp s=>upq (lb3 p s) [(69,b (decide (s.Ec2<p.Ge8)))]),(some 2,λp s=>upq (lb4 p s) [(69,b (decide (s.Ec2<p.Ge8)))])],oc1⟩
theorem oc2:Pa4.Ok:=Lo.okq [] .nil λp s=>(.sel (Nat.beq s.ph 1) (.ofq @U5) (.ofq @U4))
structure I0 where
 is1:Int
 bs5:Bool
 (gb9 hb5 hb6 hb7 Na1 Na2:Int)
 Da8:ByteArray
structure w6 where
 ph:Nat
 (is9 Ga8:Int)
 (P7 ja0:List Int)
 (ja1 ja2 ja3 ja4:List (List Int))
 S3:LPq
 ga6:List Int
 (R7 R8:List Bool)
 M9:LPq
 ns8:Nat
 eh3:List (List c7)
def lb5(p:I0)(s:w6):St:=⟨.unk::.v (.int .u8 p.is1)::.ptr 0 0 0 0::.unk::.unk::b p.bs5::.ptr 1 0 0 0::.ptr 2 0 0 0::nlq::i s.is9::ra 22 (i s.Ga8::ra 129 []),[bq 0 12 [[eL tI s.P7,eL tI s.ja0,eL (tLs tI) s.ja1,eL (tLs tI) s.ja2,eL (tLs tI) s.ja3,eL (tLs tI) s.ja4,i p.gb9,i p.hb5,i p.hb6,i p.hb7,i p.Na1,i p.Na2]],bq 0 3 [[.v (.string p.Da8),eL tLq s.S3,eL tI s.ga6]],bq 0 3 [[eL tB s.R7,eL tB s.R8,eL tLq s.M9]]]⟩
def lb6(p:I0)(s:w6):St:=⟨.unk::.v (.int .u8 p.is1)::.ptr 0 0 0 0::.unk::.unk::b p.bs5::.ptr 1 0 0 0::.ptr 2 0 0 0::.sl 3 0 s.ns8 0::i s.is9::ra 22 (i s.Ga8::ra 129 []),[bq 0 12 [[eL tI s.P7,eL tI s.ja0,eL (tLs tI) s.ja1,eL (tLs tI) s.ja2,eL (tLs tI) s.ja3,eL (tLs tI) s.ja4,i p.gb9,i p.hb5,i p.hb6,i p.hb7,i p.Na1,i p.Na2]],bq 0 3 [[.v (.string p.Da8),eL tLq s.S3,eL tI s.ga6]],bq 0 3 [[eL tB s.R7,eL tB s.R8,eL tLq s.M9]],bq 35 1 s.eh3]⟩
def oc3(p:I0)(s:w6):St:=(sel (Nat.beq s.ph 1) (lb6 p s) (lb5 p s))
def K3{α:Type}(k:w6->α)(e:Nat->α)(z:α)(p:I0)(s:w6):α:=let y12:=(W (s.Ga8+1));let y8:=(rt tI s.ja0);let y7:=(rt tI s.P7);let y6:=(⟨rt tB s.R7,rt tB s.R8,rt tLq s.M9⟩:Pce);let y5:=(rt tI s.ga6);let a0:=(eL (tLs tI) s.ja1);let a1:=(eL (tLs tI) s.ja2);let a2:=(eL (tLs tI) s.ja3);let a3:=(eL (tLs tI) s.ja4);let a4:=(rt tLq s.S3);let y4:=(⟨p.Da8,a4,y5⟩:Prt);let a6:=(2+(s.Ga8.toNat*1));let y0:=(l9 [eL tI s.P7,eL tI s.ja0,a0,a1,a2,a3,i p.gb9,i p.hb5,i p.hb6,i p.hb7,i p.Na1,i p.Na2] a6);let y10:=(lsL (tLs tI) (toN (hdA y0)) (toG (hdA y0)));let t1:=(lb1 y10);let t2:=(ba4 (rt (tLs tI) t1) y4);let a5:=(B3 (λk=>(tLq).row (gL tLq t2 k)) (List.range (List.length t2)));let a7:=(4+(s.Ga8.toNat*1));let y1:=(l9 [eL tI s.P7,eL tI s.ja0,a0,a1,a2,a3,i p.gb9,i p.hb5,i p.hb6,i p.hb7,i p.Na1,i p.Na2] a7);let y11:=(lsL (tLs tI) (toN (hdA y1)) (toG (hdA y1)));let t3:=(lb1 y11);let t4:=(ba4 (rt (tLs tI) t3) y4);let t5:=(sa9 y4 y6 (rt tLq t2) (rt tLq t4));let y9:=(rt tLq t5.1.cu);let y2:=((cnE tLq t4)&&((cnE tI s.P7)&&((cnE tI s.ja0)&&((cnE (tLs tI) s.ja1)&&((cnE (tLs tI) s.ja2)&&((cnE (tLs tI) s.ja3)&&((cnE (tLs tI) s.ja4)&&((cnE tLq s.S3)&&((cnE tI s.ga6)&&((cnE tB t5.1.su)&&((cnE tB t5.1.to)&&((cnE tLq t5.1.cu)&&true))))))))))));let a8:=((okE tLq s.S3)&&((okE tI s.ga6)&&true));let a9:=(rt (tLs tI) s.ja1);let a10:=(rt (tLs tI) s.ja2);let a11:=(rt (tLs tI) s.ja3);let a12:=(rt (tLs tI) s.ja4);let y3:=(⟨p.is1,p.bs5,s.Ga8,rt tLq t4,(↑(List.length t4):Int),y7,y8,a9,a10,a11,a12,p.gb9,p.hb5,p.hb6,p.hb7,p.Na1,p.Na2,p.Da8,a4,y5,rt tB t5.1.su,rt tB t5.1.to,y9⟩:H9);let t6:=(lp (B6 y3) (⟨0,s.is9,0,0,[]⟩:A8));let t7:=(lp (B6 y3) (⟨1,s.is9,0,len a5,a5⟩:A8));(sl (decide (s.Ga8<2)) (sl (inB s.Ga8 2) (sl ((Nat.ble (a6+1) 12)&&(sa5 [CK.sl 1] y0)) (sl (okL (tLs tI) (toN (hdA y0)) (toG (hdA y0))) (sl (lb2 y10) (sl (okE (tLs tI) t1) (sl a8 (sl (yb9 (rt (tLs tI) t1) y4) (sl (inB s.Ga8 2) (sl ((Nat.ble (a7+1) 12)&&(sa5 [CK.sl 1] y1)) (sl (okL (tLs tI) (toN (hdA y1)) (toG (hdA y1))) (sl (lb2 y11) (sl (okE (tLs tI) t3) (sl a8 (sl (yb9 (rt (tLs tI) t3) y4) (sl a8 (sl ((okE tB s.R7)&&((okE tB s.R8)&&((okE tLq s.M9)&&true))) (sl (okE tLq t2) (sl (okE tLq t4) (sl (ta0 y4 y6 (rt tLq t2) (rt tLq t4)) (sl (t5.2==9) (e 1) (sl (t5.2 != 0) (e 2) (sl (Nat.beq (len a5) 0) (sl y2 (sl (Nat.beq t6.1 1) (k ⟨0,t6.2.is9,y12,y7,y8,a9,a10,a11,a12,a4,y5,rt tB t5.1.su,rt tB t5.1.to,y9,0,[]⟩) (sl (Nat.beq t6.1 2) (k ⟨1,t6.2.is9,y12,y7,y8,a9,a10,a11,a12,a4,y5,rt tB t5.1.su,rt tB t5.1.to,y9,t6.2.ns8,t6.2.eh3⟩) z)) z) (sl (Nat.ble ((len a5)*24) room) (sl y2 (sl (Nat.beq t7.1 1) (k ⟨0,t7.2.is9,y12,y7,y8,a9,a10,a11,a12,a4,y5,rt tB t5.1.su,rt tB t5.1.to,y9,0,[]⟩) (sl (Nat.beq t7.1 2) (k ⟨1,t7.2.is9,y12,y7,y8,a9,a10,a11,a12,a4,y5,rt tB t5.1.su,rt tB t5.1.to,y9,t7.2.ns8,t7.2.eh3⟩) z)) z) z)))) z) z) z) z) z) z) z) z) z) z) z) z) z) z) z) z) z) z) z) (e 3))
def U6{α:Type}(k:w6->α)(e:Nat->α)(z:α)(p:I0)(s:w6):α:=let y12:=(rt tI s.ja0);let y11:=(rt tI s.P7);let y8:=(rt (tLs tI) s.ja4);let y7:=(rt (tLs tI) s.ja3);let y6:=(rt (tLs tI) s.ja2);let y5:=(rt (tLs tI) s.ja1);let y4:=(rt tI s.ga6);let y3:=(⟨rt tB s.R7,rt tB s.R8,rt tLq s.M9⟩:Pce);let a0:=(eL (tLs tI) s.ja1);let a1:=(eL (tLs tI) s.ja2);let a2:=(eL (tLs tI) s.ja3);let a3:=(eL (tLs tI) s.ja4);let a4:=(rt tLq s.S3);let y2:=(⟨p.Da8,a4,y4⟩:Prt);let a6:=(2+(s.Ga8.toNat*1));let y0:=(l9 [eL tI s.P7,eL tI s.ja0,a0,a1,a2,a3,i p.gb9,i p.hb5,i p.hb6,i p.hb7,i p.Na1,i p.Na2] a6);let y9:=(lsL (tLs tI) (toN (hdA y0)) (toG (hdA y0)));let t1:=(lb1 y9);let t2:=(ba4 (rt (tLs tI) t1) y2);let a5:=(B3 (λk=>(tLq).row (gL tLq t2 k)) (List.range (List.length t2)));let a7:=(4+(s.Ga8.toNat*1));let y1:=(l9 [eL tI s.P7,eL tI s.ja0,a0,a1,a2,a3,i p.gb9,i p.hb5,i p.hb6,i p.hb7,i p.Na1,i p.Na2] a7);let y10:=(lsL (tLs tI) (toN (hdA y1)) (toG (hdA y1)));let t3:=(lb1 y10);let t4:=(ba4 (rt (tLs tI) t3) y2);let t5:=(sa9 y2 y3 (rt tLq t2) (rt tLq t4));let t6:=(lp (B6 (⟨p.is1,p.bs5,s.Ga8,rt tLq t4,(↑(List.length t4):Int),y11,y12,y5,y6,y7,y8,p.gb9,p.hb5,p.hb6,p.hb7,p.Na1,p.Na2,p.Da8,a4,y4,rt tB t5.1.su,rt tB t5.1.to,rt tLq t5.1.cu⟩:H9)) (⟨1,s.is9,0,s.ns8+(len a5),app s.eh3 a5⟩:A8));let a8:=((okE tLq s.S3)&&((okE tI s.ga6)&&true));(sl (decide (s.Ga8<2)) (sl (inB s.Ga8 2) (sl ((Nat.ble (a6+1) 12)&&(sa5 [CK.sl 1] y0)) (sl (okL (tLs tI) (toN (hdA y0)) (toG (hdA y0))) (sl (lb2 y9) (sl (okE (tLs tI) t1) (sl a8 (sl (yb9 (rt (tLs tI) t1) y2) (sl (inB s.Ga8 2) (sl ((Nat.ble (a7+1) 12)&&(sa5 [CK.sl 1] y1)) (sl (okL (tLs tI) (toN (hdA y1)) (toG (hdA y1))) (sl (lb2 y10) (sl (okE (tLs tI) t3) (sl a8 (sl (yb9 (rt (tLs tI) t3) y2) (sl a8 (sl ((okE tB s.R7)&&((okE tB s.R8)&&((okE tLq s.M9)&&true))) (sl (okE tLq t2) (sl (okE tLq t4) (sl (ta0 y2 y3 (rt tLq t2) (rt tLq t4)) (sl (t5.2==9) (e 1) (sl (t5.2 != 0) (e 2) (sl (Nat.beq s.ns8 (len s.eh3)&&Nat.ble ((s.ns8+(len a5))*24) room) (sl ((cnE tLq t4)&&((cnE tI s.P7)&&((cnE tI s.ja0)&&((cnE (tLs tI) s.ja1)&&((cnE (tLs tI) s.ja2)&&((cnE (tLs tI) s.ja3)&&((cnE (tLs tI) s.ja4)&&((cnE tLq s.S3)&&((cnE tI s.ga6)&&((cnE tB t5.1.su)&&((cnE tB t5.1.to)&&((cnE tLq t5.1.cu)&&true)))))))))))) (sl (Nat.beq t6.1 1) (k ⟨0,t6.2.is9,W (s.Ga8+1),y11,y12,y5,y6,y7,y8,a4,y4,rt tB t5.1.su,rt tB t5.1.to,rt tLq t5.1.cu,0,[]⟩) (sl (Nat.beq t6.1 2) (k ⟨1,t6.2.is9,W (s.Ga8+1),y11,y12,y5,y6,y7,y8,a4,y4,rt tB t5.1.su,rt tB t5.1.to,rt tLq t5.1.cu,t6.2.ns8,t6.2.eh3⟩) z)) z) z))) z) z) z) z) z) z) z) z) z) z) z) z) z) z) z) z) z) z) z) (e 4))
def G2(p:I0)(s:w6):Stp w6:=(sel (Nat.beq s.ph 1) (U6 .next .exit .fail p s) (K3 .next .exit .fail p s))
def Pa5:Lo I0 w6:=⟨En la8,0,pf6,[1,1,1,1,1,1,0,1,4,4],[1,2,5,6,7,8,9,32],.s .p (.s .p (.s (.b (.s .p (.s .p (.s .p (.s .p (.s .p (.s .p (.s .p (.s .p (.b (.u Pa4.ls))))))))))) .p)),[⟨sUq::.s (.o (.int .u8))::sPq 0::sUq::sUq::sBq::sPq 1::sPq 2::.s (.o .nil)::sIq::ru2 22 (sIq::ru2 129 []),[⟨0,12,true,some [[.c 1 (nL tI),.c 1 (nL tI),.c 1 (nL (tLs tI)),.c 1 (nL (tLs tI)),.c 1 (nL (tLs tI)),.c 1 (nL (tLs tI)),.o (.int .i64),.o (.int .i64),.o (.int .i64),.o (.int .i64),.o (.int .i64),.o (.int .i64)]]⟩,⟨0,3,true,some [[.o .val,.c 1 (nL tLq),.c 1 (nL tI)]]⟩,⟨0,3,true,some [[.c 1 (nL tB),.c 1 (nL tB),.c 1 (nL tLq)]]⟩],λa H=>(⟨aIq a 1,aBq a 5,hIq H 0 0 6,hIq H 0 0 7,hIq H 0 0 8,hIq H 0 0 9,hIq H 0 0 10,hIq H 0 0 11,da2 (slT (rwT (elT H 1) 0) 0)⟩,⟨0,aIq a 9,aIq a 32,hLq tI H 0 0 0,hLq tI H 0 0 1,hLq (tLs tI) H 0 0 2,hLq (tLs tI) H 0 0 3,hLq (tLs tI) H 0 0 4,hLq (tLs tI) H 0 0 5,hLq tLq H 1 0 1,hLq tI H 1 0 2,hLq tB H 2 0 0,hLq tB H 2 0 1,hLq tLq H 2 0 2,0,[]⟩)⟩,⟨sUq::.s (.o (.int .u8))::sPq 0::sUq::sUq::sBq::sPq 1::sPq 2::.s (.o (.sl 3 0 (some 0) none))::sIq::ru2 22 (sIq::ru2 129 []),[⟨0,12,true,some [[.c 1 (nL tI),.c 1 (nL tI),.c 1 (nL (tLs tI)),.c 1 (nL (tLs tI)),.c 1 (nL (tLs tI)),.c 1 (nL (tLs tI)),.o (.int .i64),.o (.int .i64),.o (.int .i64),.o (.int .i64),.o (.int .i64),.o (.int .i64)]]⟩,⟨0,3,true,some [[.o .val,.c 1 (nL tLq),.c 1 (nL tI)]]⟩,⟨0,3,true,some [[.c 1 (nL tB),.c 1 (nL tB),.c 1 (nL tLq)]]⟩,⟨35,1,true,none⟩],λa H=>(⟨aIq a 1,aBq a 5,hIq H 0 0 6,hIq H 0 0 7,hIq H 0 0 8,hIq H 0 0 9,hIq H 0 0 10,hIq H 0 0 11,da2 (slT (rwT (elT H 1) 0) 0)⟩,⟨1,aIq a 9,aIq a 32,hLq tI H 0 0 0,hLq tI H 0 0 1,hLq (tLs tI) H 0 0 2,hLq (tLs tI) H 0 0 3,hLq (tLs tI) H 0 0 4,hLq (tLs tI) H 0 0 5,hLq tLq H 1 0 1,hLq tI H 1 0 2,hLq tB H 2 0 0,hLq tB H 2 0 1,hLq tLq H 2 0 2,slN (slT a 8),elT H 3⟩)⟩],G2,[(none,λp s=>⟨[b p.bs5],[]⟩),(none,λp s=>⟨[b false],[]⟩),(some 0,λp s=>upq (lb5 p s) [(33,b (decide (s.Ga8<2)))]),(some 0,λp s=>upq (lb6 p s) [(33,b (decide (s.Ga8<2)))])],oc3⟩
theorem oc4:Pa5.Ok:=Lo.okq [Pa4.pr] (.cons oc2 .nil) λp s=>(.sel (Nat.beq s.ph 1) (.ofq @U6) (.ofq @K3))
structure w7 where
 bs5:Bool
 Vb5:Int
 jb0:Bool
 S4:PLq
 X2:LPq
 (Jc9 zb2 Ec3:Int)
 E9:ByteArray
 i9:LPq
 m9:List Int
 (ns8 Wd2:Nat)
 eh1:List (List c7)
structure w8 where
 ph:Nat
 mb4:Int
 Jb3:Nat
 eh2:List (List c7)
def lb7(p:w7)(s:w8):St:=⟨ra 5 (b p.bs5::.ptr 0 0 0 0::.unk::nlq::ra 8 (i p.Vb5::b p.jb0::.unk::eL tP p.S4::.unk::nlq::ra 66 (eL tLq p.X2::i p.Jc9::i p.zb2::ra 34 (nlq::i p.Ec3::i s.mb4::ra 33 [])))),[bq 0 3 [[.v (.string p.E9),eL tLq p.i9,eL tI p.m9]]]⟩
def lb8(p:w7)(s:w8):St:=⟨ra 5 (b p.bs5::.ptr 0 0 0 0::.unk::.sl 1 0 p.ns8 0::ra 8 (i p.Vb5::b p.jb0::.unk::eL tP p.S4::.unk::nlq::ra 66 (eL tLq p.X2::i p.Jc9::i p.zb2::ra 34 (.sl 1 0 p.Wd2 0::i p.Ec3::i s.mb4::ra 33 [])))),[bq 0 3 [[.v (.string p.E9),eL tLq p.i9,eL tI p.m9]],bq 35 1 p.eh1]⟩
def lb9(p:w7)(s:w8):St:=⟨ra 5 (b p.bs5::.ptr 0 0 0 0::.unk::.sl 1 0 p.ns8 0::ra 8 (i p.Vb5::b p.jb0::.unk::eL tP p.S4::.unk::.sl 2 0 s.Jb3 0::ra 66 (eL tLq p.X2::i p.Jc9::i p.zb2::ra 34 (.sl 1 0 p.Wd2 0::i p.Ec3::i s.mb4::ra 33 [])))),[bq 0 3 [[.v (.string p.E9),eL tLq p.i9,eL tI p.m9]],bq 35 1 p.eh1,bq 35 1 s.eh2]⟩
def oc5(p:w7)(s:w8):St:=(sel (Nat.beq s.ph 2) (lb9 p s) (sel (Nat.beq s.ph 1) (lb8 p s) (lb7 p s)))
def na0{α:Type}(k:w8->α)(e:Nat->α)(z:α)(p:w7)(s:w8):α:=(sl (decide (s.mb4<p.Ec3)) z (e 1))
def U7{α:Type}(k:w8->α)(e:Nat->α)(z:α)(p:w7)(s:w8):α:=let y1:=(g8 p.eh1 (0+s.mb4.toNat));let y0:=(hdA (l9 y1 0));let t1:=(ra6 (lsL tP (toN y0) (toG y0)) (rt tP p.S4));(sl (decide (s.mb4<p.Ec3)) (sl (inB s.mb4 p.Wd2) (sl (((Nat.blt (0+s.mb4.toNat) (len p.eh1))&&(Nat.ble (0+1) (len y1)))&&(sa5 [CK.sl 4] (l9 y1 0))) (sl (okL tP (toN y0) (toG y0)) (sl (okE tP p.S4) (sl (ra7 (lsL tP (toN y0) (toG y0)) (rt tP p.S4)) (sl (!t1) (k ⟨2,W (s.mb4+1),1,[[.tree 4 (toN y0) (toG y0)]]⟩) (k ⟨1,W (s.mb4+1),0,[]⟩)) z) z) z) z) z) (e 2))
def U8{α:Type}(k:w8->α)(e:Nat->α)(z:α)(p:w7)(s:w8):α:=let y1:=(g8 p.eh1 (0+s.mb4.toNat));let y0:=(hdA (l9 y1 0));let t1:=(ra6 (lsL tP (toN y0) (toG y0)) (rt tP p.S4));(sl (decide (s.mb4<p.Ec3)) (sl (inB s.mb4 p.Wd2) (sl (((Nat.blt (0+s.mb4.toNat) (len p.eh1))&&(Nat.ble (0+1) (len y1)))&&(sa5 [CK.sl 4] (l9 y1 0))) (sl (okL tP (toN y0) (toG y0)) (sl (okE tP p.S4) (sl (ra7 (lsL tP (toN y0) (toG y0)) (rt tP p.S4)) (sl (!t1) (sl (Nat.beq s.Jb3 (len s.eh2)&&Nat.ble ((s.Jb3+1)*24) room) (k ⟨2,W (s.mb4+1),s.Jb3+1,app s.eh2 [[.tree 4 (toN y0) (toG y0)]]⟩) z) (k ⟨2,W (s.mb4+1),s.Jb3,s.eh2⟩)) z) z) z) z) z) (e 3))
def B7(p:w7)(s:w8):Stp w8:=(sel (Nat.beq s.ph 2) (U8 .next .exit .fail p s) (sel (Nat.beq s.ph 1) (U7 .next .exit .fail p s) (na0 .next .exit .fail p s)))
def Pa6:Lo w7 w8:=⟨En la8,0,pf6,[1,1,1,1,1,1,1,1,1,0,1,4,4,1,1,0,4,1,1,1,1,2,1,0,1,4,4],[5,6,8,17,18,20,22,89,90,91,126,127,128],.p,[⟨ru2 5 (sBq::sPq 0::sUq::.s (.o .nil)::ru2 8 (sIq::sBq::sUq::sLq tP::sUq::.s (.o .nil)::ru2 66 (sLq tLq::sIq::sIq::ru2 34 (.s (.o .nil)::sIq::sIq::ru2 33 [])))),[⟨0,3,true,some [[.o .val,.c 1 (nL tLq),.c 1 (nL tI)]]⟩],λa H=>(⟨aBq a 5,aIq a 17,aBq a 18,aLq tP a 20,aLq tLq a 89,aIq a 90,aIq a 91,aIq a 127,da2 (slT (rwT (elT H 0) 0) 0),hLq tLq H 0 0 1,hLq tI H 0 0 2,0,0,[]⟩,⟨0,aIq a 128,0,[]⟩)⟩,⟨ru2 5 (sBq::sPq 0::sUq::.s (.o (.sl 1 0 (some 0) none))::ru2 8 (sIq::sBq::sUq::sLq tP::sUq::.s (.o .nil)::ru2 66 (sLq tLq::sIq::sIq::ru2 34 (.s (.o (.sl 1 0 (some 0) none))::sIq::sIq::ru2 33 [])))),[⟨0,3,true,some [[.o .val,.c 1 (nL tLq),.c 1 (nL tI)]]⟩,⟨35,1,true,none⟩],λa H=>(⟨aBq a 5,aIq a 17,aBq a 18,aLq tP a 20,aLq tLq a 89,aIq a 90,aIq a 91,aIq a 127,da2 (slT (rwT (elT H 0) 0) 0),hLq tLq H 0 0 1,hLq tI H 0 0 2,slN (slT a 8),slN (slT a 126),elT H 1⟩,⟨1,aIq a 128,0,[]⟩)⟩,⟨ru2 5 (sBq::sPq 0::sUq::.s (.o (.sl 1 0 (some 0) none))::ru2 8 (sIq::sBq::sUq::sLq tP::sUq::.s (.o (.sl 2 0 (some 0) none))::ru2 66 (sLq tLq::sIq::sIq::ru2 34 (.s (.o (.sl 1 0 (some 0) none))::sIq::sIq::ru2 33 [])))),[⟨0,3,true,some [[.o .val,.c 1 (nL tLq),.c 1 (nL tI)]]⟩,⟨35,1,true,none⟩,⟨35,1,true,none⟩],λa H=>(⟨aBq a 5,aIq a 17,aBq a 18,aLq tP a 20,aLq tLq a 89,aIq a 90,aIq a 91,aIq a 127,da2 (slT (rwT (elT H 0) 0) 0),hLq tLq H 0 0 1,hLq tI H 0 0 2,slN (slT a 8),slN (slT a 126),elT H 1⟩,⟨2,aIq a 128,slN (slT a 22),elT H 2⟩)⟩],B7,[(some 6,λp s=>upq (lb7 p s) [(129,b (decide (s.mb4<p.Ec3)))]),(some 6,λp s=>upq (lb8 p s) [(129,b (decide (s.mb4<p.Ec3)))]),(some 6,λp s=>upq (lb9 p s) [(129,b (decide (s.mb4<p.Ec3)))])],oc5⟩
theorem oc6:Pa6.Ok:=Lo.okq [] .nil λp s=>(.sel (Nat.beq s.ph 2) (.ofq @U8) (.sel (Nat.beq s.ph 1) (.ofq @U7) (.ofq @na0)))
structure N4 where
 bs5:Bool
 (Vb5 Jc9:Int)
 E9:ByteArray
structure B5 where
 ph:Nat
 jb0:Bool
 X2:LPq
 zb2:Int
 i9:LPq
 m9:List Int
 ns8:Nat
 eh1:List (List c7)
def mb0(p:N4)(s:B5):St:=⟨ra 5 (b p.bs5::.ptr 0 0 0 0::.unk::nlq::ra 8 (i p.Vb5::b s.jb0::ra 70 (eL tLq s.X2::i p.Jc9::i s.zb2::ra 70 []))),[bq 0 3 [[.v (.string p.E9),eL tLq s.i9,eL tI s.m9]]]⟩
def mb1(p:N4)(s:B5):St:=⟨ra 5 (b p.bs5::.ptr 0 0 0 0::.unk::.sl 1 0 s.ns8 0::ra 8 (i p.Vb5::b s.jb0::ra 70 (eL tLq s.X2::i p.Jc9::i s.zb2::ra 70 []))),[bq 0 3 [[.v (.string p.E9),eL tLq s.i9,eL tI s.m9]],bq 35 1 s.eh1]⟩
def oc7(p:N4)(s:B5):St:=(sel (Nat.beq s.ph 1) (mb1 p s) (mb0 p s))
def U9{α:Type}(k:B5->α)(e:Nat->α)(z:α)(p:N4)(s:B5):α:=let y4:=(gL tLq s.X2 s.zb2.toNat);let y3:=(⟨0,0,0,[]⟩:w8);let y2:=(W (s.zb2+1));let y1:=(rt tLq s.X2);let y0:=(rt tI s.m9);let a0:=(rt tP y4);let t1:=(M6 a0 []);let t3:=(s4 [] (rt tP a0));let a1:=(rt tLq s.i9);let t2:=(lp (B7 (⟨p.bs5,p.Vb5,true,a0,y1,p.Jc9,s.zb2,0,p.E9,a1,y0,0,0,[]⟩:w7)) y3);let t5:=(lp (B7 (⟨p.bs5,p.Vb5,!t1,a0,y1,p.Jc9,s.zb2,0,p.E9,a1,y0,0,0,[]⟩:w7)) y3);let t7:=(lp (B7 (⟨p.bs5,p.Vb5,s.jb0,a0,y1,p.Jc9,s.zb2,0,p.E9,a1,y0,0,0,[]⟩:w7)) y3);let t8:=(s4 (lsL tLq t7.2.Jb3 (λk=>g8 t7.2.eh2 (0+k))) (rt tP a0));let a2:=((cnE tP y4)&&((cnE tLq s.X2)&&((cnE tLq s.i9)&&((cnE tI s.m9)&&true))));let a3:=(K0 [] (rt tP a0));let a4:=(inB s.zb2 (List.length s.m9));let a5:=(gL tI s.m9 s.zb2.toNat);let a6:=(λk=>g8 t2.2.eh2 (0+k));let t4:=(s4 (lsL tLq t2.2.Jb3 a6) (rt tP a0));let a7:=(λk=>g8 t5.2.eh2 (0+k));let t6:=(s4 (lsL tLq t5.2.Jb3 a7) (rt tP a0));let w0:α:=(sl a4 (sl (a5==2) (sl (p.Vb5==0) (sl a2 (sl (Nat.beq t5.1 1) (sl (okE tP a0) (sl a3 (sl (t3.2 != 9) (sl (!t3.1) (e 1) (k ⟨0,!t1,y1,y2,a1,y0,0,[]⟩)) (k ⟨0,!t1,y1,y2,a1,y0,0,[]⟩)) z) z) (sl (Nat.beq t5.1 2) (sl (okE tP a0) (sl a3 (sl (t3.2 != 9) (sl (!t3.1) (e 1) (k ⟨1,!t1,y1,y2,a1,y0,0,[]⟩)) (k ⟨1,!t1,y1,y2,a1,y0,0,[]⟩)) z) z) (sl (Nat.beq t5.1 3) (sl (okL tLq t5.2.Jb3 a7) (sl (okE tP a0) (sl (K0 (lsL tLq t5.2.Jb3 a7) (rt tP a0)) (sl (t6.2 != 9) (sl (!t6.1) (e 1) (k ⟨1,!t1,y1,y2,a1,y0,0,[]⟩)) (k ⟨1,!t1,y1,y2,a1,y0,0,[]⟩)) z) z) z) z))) z) (k ⟨0,!t1,s.X2,y2,s.i9,s.m9,0,[]⟩)) (k ⟨0,!t1,s.X2,y2,s.i9,s.m9,0,[]⟩)) z);let w1:α:=(sl a4 (sl (a5==2) (sl (p.Vb5==0) (sl a2 (sl (Nat.beq t2.1 1) (sl (okE tP a0) (sl a3 (sl (t3.2 != 9) (sl (!t3.1) (e 1) (k ⟨0,true,y1,y2,a1,y0,0,[]⟩)) (k ⟨0,true,y1,y2,a1,y0,0,[]⟩)) z) z) (sl (Nat.beq t2.1 2) (sl (okE tP a0) (sl a3 (sl (t3.2 != 9) (sl (!t3.1) (e 1) (k ⟨1,true,y1,y2,a1,y0,0,[]⟩)) (k ⟨1,true,y1,y2,a1,y0,0,[]⟩)) z) z) (sl (Nat.beq t2.1 3) (sl (okL tLq t2.2.Jb3 a6) (sl (okE tP a0) (sl (K0 (lsL tLq t2.2.Jb3 a6) (rt tP a0)) (sl (t4.2 != 9) (sl (!t4.1) (e 1) (k ⟨1,true,y1,y2,a1,y0,0,[]⟩)) (k ⟨1,true,y1,y2,a1,y0,0,[]⟩)) z) z) z) z))) z) (k ⟨0,true,s.X2,y2,s.i9,s.m9,0,[]⟩)) (k ⟨0,true,s.X2,y2,s.i9,s.m9,0,[]⟩)) z);(sl (decide (s.zb2<p.Jc9)) (sl (inB s.zb2 (List.length s.X2)) (sl (okE tP y4) (sl (ka0 a0 []) (sl a4 (sl (a5==1) (sl s.jb0 (sl (p.Vb5==0) (sl (!t1) (e 1) w1) w1) (sl (p.Vb5==0) (sl (!t1) (e 1) w0) w0)) (sl a4 (sl (a5==2) (sl (p.Vb5==0) (sl a2 (sl (Nat.beq t7.1 1) (sl (okE tP a0) (sl a3 (sl (t3.2 != 9) (sl (!t3.1) (e 1) (k ⟨0,s.jb0,y1,y2,a1,y0,0,[]⟩)) (k ⟨0,s.jb0,y1,y2,a1,y0,0,[]⟩)) z) z) (sl (Nat.beq t7.1 2) (sl (okE tP a0) (sl a3 (sl (t3.2 != 9) (sl (!t3.1) (e 1) (k ⟨1,s.jb0,y1,y2,a1,y0,0,[]⟩)) (k ⟨1,s.jb0,y1,y2,a1,y0,0,[]⟩)) z) z) (sl (Nat.beq t7.1 3) (sl (okL tLq t7.2.Jb3 (λk=>g8 t7.2.eh2 (0+k))) (sl (okE tP a0) (sl (K0 (lsL tLq t7.2.Jb3 (λk=>g8 t7.2.eh2 (0+k))) (rt tP a0)) (sl (t8.2 != 9) (sl (!t8.1) (e 1) (k ⟨1,s.jb0,y1,y2,a1,y0,0,[]⟩)) (k ⟨1,s.jb0,y1,y2,a1,y0,0,[]⟩)) z) z) z) z))) z) (k ⟨0,s.jb0,s.X2,y2,s.i9,s.m9,0,[]⟩)) (k ⟨0,s.jb0,s.X2,y2,s.i9,s.m9,0,[]⟩)) z)) z) z) z) z) (e 2))
def V0{α:Type}(k:B5->α)(e:Nat->α)(z:α)(p:N4)(s:B5):α:=let y4:=(gL tLq s.X2 s.zb2.toNat);let y3:=(⟨1,0,0,[]⟩:w8);let y2:=(W (s.zb2+1));let y1:=(rt tLq s.X2);let y0:=(rt tI s.m9);let a0:=(rt tP y4);let t1:=(M6 a0 (lsL tLq s.ns8 (λk=>g8 s.eh1 (0+k))));let t3:=(s4 [] (rt tP a0));let a1:=(rt tLq s.i9);let t2:=(lp (B7 (⟨p.bs5,p.Vb5,true,a0,y1,p.Jc9,s.zb2,(↑s.ns8:Int),p.E9,a1,y0,s.ns8,s.ns8,s.eh1⟩:w7)) y3);let t5:=(lp (B7 (⟨p.bs5,p.Vb5,!t1,a0,y1,p.Jc9,s.zb2,(↑s.ns8:Int),p.E9,a1,y0,s.ns8,s.ns8,s.eh1⟩:w7)) y3);let t7:=(lp (B7 (⟨p.bs5,p.Vb5,s.jb0,a0,y1,p.Jc9,s.zb2,(↑s.ns8:Int),p.E9,a1,y0,s.ns8,s.ns8,s.eh1⟩:w7)) y3);let t8:=(s4 (lsL tLq t7.2.Jb3 (λk=>g8 t7.2.eh2 (0+k))) (rt tP a0));let a2:=((cnE tP y4)&&((cnE tLq s.X2)&&((cnE tLq s.i9)&&((cnE tI s.m9)&&true))));let a3:=(K0 [] (rt tP a0));let a4:=(inB s.zb2 (List.length s.m9));let a5:=(gL tI s.m9 s.zb2.toNat);let a6:=(λk=>g8 t2.2.eh2 (0+k));let t4:=(s4 (lsL tLq t2.2.Jb3 a6) (rt tP a0));let a7:=(λk=>g8 t5.2.eh2 (0+k));let t6:=(s4 (lsL tLq t5.2.Jb3 a7) (rt tP a0));let w0:α:=(sl a4 (sl (a5==2) (sl (p.Vb5==0) (sl a2 (sl (Nat.beq t5.1 1) (sl (okE tP a0) (sl a3 (sl (t3.2 != 9) (sl (!t3.1) (e 1) (k ⟨0,!t1,y1,y2,a1,y0,0,[]⟩)) (k ⟨0,!t1,y1,y2,a1,y0,0,[]⟩)) z) z) (sl (Nat.beq t5.1 2) (sl (okE tP a0) (sl a3 (sl (t3.2 != 9) (sl (!t3.1) (e 1) (k ⟨1,!t1,y1,y2,a1,y0,s.ns8,s.eh1⟩)) (k ⟨1,!t1,y1,y2,a1,y0,s.ns8,s.eh1⟩)) z) z) (sl (Nat.beq t5.1 3) (sl (okL tLq t5.2.Jb3 a7) (sl (okE tP a0) (sl (K0 (lsL tLq t5.2.Jb3 a7) (rt tP a0)) (sl (t6.2 != 9) (sl (!t6.1) (e 1) (k ⟨1,!t1,y1,y2,a1,y0,s.ns8,s.eh1⟩)) (k ⟨1,!t1,y1,y2,a1,y0,s.ns8,s.eh1⟩)) z) z) z) z))) z) (k ⟨1,!t1,s.X2,y2,s.i9,s.m9,s.ns8,s.eh1⟩)) (k ⟨1,!t1,s.X2,y2,s.i9,s.m9,s.ns8,s.eh1⟩)) z);let w1:α:=(sl a4 (sl (a5==2) (sl (p.Vb5==0) (sl a2 (sl (Nat.beq t2.1 1) (sl (okE tP a0) (sl a3 (sl (t3.2 != 9) (sl (!t3.1) (e 1) (k ⟨0,true,y1,y2,a1,y0,0,[]⟩)) (k ⟨0,true,y1,y2,a1,y0,0,[]⟩)) z) z) (sl (Nat.beq t2.1 2) (sl (okE tP a0) (sl a3 (sl (t3.2 != 9) (sl (!t3.1) (e 1) (k ⟨1,true,y1,y2,a1,y0,s.ns8,s.eh1⟩)) (k ⟨1,true,y1,y2,a1,y0,s.ns8,s.eh1⟩)) z) z) (sl (Nat.beq t2.1 3) (sl (okL tLq t2.2.Jb3 a6) (sl (okE tP a0) (sl (K0 (lsL tLq t2.2.Jb3 a6) (rt tP a0)) (sl (t4.2 != 9) (sl (!t4.1) (e 1) (k ⟨1,true,y1,y2,a1,y0,s.ns8,s.eh1⟩)) (k ⟨1,true,y1,y2,a1,y0,s.ns8,s.eh1⟩)) z) z) z) z))) z) (k ⟨1,true,s.X2,y2,s.i9,s.m9,s.ns8,s.eh1⟩)) (k ⟨1,true,s.X2,y2,s.i9,s.m9,s.ns8,s.eh1⟩)) z);(sl (decide (s.zb2<p.Jc9)) (sl (inB s.zb2 (List.length s.X2)) (sl (okE tP y4) (sl (okL tLq s.ns8 (λk=>g8 s.eh1 (0+k))) (sl (ka0 a0 (lsL tLq s.ns8 (λk=>g8 s.eh1 (0+k)))) (sl a4 (sl (a5==1) (sl s.jb0 (sl (p.Vb5==0) (sl (!t1) (e 1) w1) w1) (sl (p.Vb5==0) (sl (!t1) (e 1) w0) w0)) (sl a4 (sl (a5==2) (sl (p.Vb5==0) (sl a2 (sl (Nat.beq t7.1 1) (sl (okE tP a0) (sl a3 (sl (t3.2 != 9) (sl (!t3.1) (e 1) (k ⟨0,s.jb0,y1,y2,a1,y0,0,[]⟩)) (k ⟨0,s.jb0,y1,y2,a1,y0,0,[]⟩)) z) z) (sl (Nat.beq t7.1 2) (sl (okE tP a0) (sl a3 (sl (t3.2 != 9) (sl (!t3.1) (e 1) (k ⟨1,s.jb0,y1,y2,a1,y0,s.ns8,s.eh1⟩)) (k ⟨1,s.jb0,y1,y2,a1,y0,s.ns8,s.eh1⟩)) z) z) (sl (Nat.beq t7.1 3) (sl (okL tLq t7.2.Jb3 (λk=>g8 t7.2.eh2 (0+k))) (sl (okE tP a0) (sl (K0 (lsL tLq t7.2.Jb3 (λk=>g8 t7.2.eh2 (0+k))) (rt tP a0)) (sl (t8.2 != 9) (sl (!t8.1) (e 1) (k ⟨1,s.jb0,y1,y2,a1,y0,s.ns8,s.eh1⟩)) (k ⟨1,s.jb0,y1,y2,a1,y0,s.ns8,s.eh1⟩)) z) z) z) z))) z) (k ⟨1,s.jb0,s.X2,y2,s.i9,s.m9,s.ns8,s.eh1⟩)) (k ⟨1,s.jb0,s.X2,y2,s.i9,s.m9,s.ns8,s.eh1⟩)) z)) z) z) z) z) z) (e 3))
def J0(p:N4)(s:B5):Stp B5:=(sel (Nat.beq s.ph 1) (V0 .next .exit .fail p s) (U9 .next .exit .fail p s))
def Pa7:Lo N4 B5:=⟨En la8,0,pf6,[1,1,1,1,1,1,1,1,1,0,1,4,4],[5,6,8,17,18,89,90,91],.s .p (.s .p (.s (.b (.s .p (.s .p (.s .p (.s .p (.c (.s .p (.s (.s .p (.b (.u Pa6.ls))) .p)) .p)))))) .p)),[⟨ru2 5 (sBq::sPq 0::sUq::.s (.o .nil)::ru2 8 (sIq::sBq::ru2 70 (sLq tLq::sIq::sIq::ru2 70 []))),[⟨0,3,true,some [[.o .val,.c 1 (nL tLq),.c 1 (nL tI)]]⟩],λa H=>(⟨aBq a 5,aIq a 17,aIq a 90,da2 (slT (rwT (elT H 0) 0) 0)⟩,⟨0,aBq a 18,aLq tLq a 89,aIq a 91,hLq tLq H 0 0 1,hLq tI H 0 0 2,0,[]⟩)⟩,⟨ru2 5 (sBq::sPq 0::sUq::.s (.o (.sl 1 0 (some 0) none))::ru2 8 (sIq::sBq::ru2 70 (sLq tLq::sIq::sIq::ru2 70 []))),[⟨0,3,true,some [[.o .val,.c 1 (nL tLq),.c 1 (nL tI)]]⟩,⟨35,1,true,none⟩],λa H=>(⟨aBq a 5,aIq a 17,aIq a 90,da2 (slT (rwT (elT H 0) 0) 0)⟩,⟨1,aBq a 18,aLq tLq a 89,aIq a 91,hLq tLq H 0 0 1,hLq tI H 0 0 2,slN (slT a 8),elT H 1⟩)⟩],J0,[(none,λp s=>⟨[b false],[]⟩),(some 4,λp s=>upq (mb0 p s) [(92,b (decide (s.zb2<p.Jc9)))]),(some 4,λp s=>upq (mb1 p s) [(92,b (decide (s.zb2<p.Jc9)))])],oc7⟩
theorem oc8:Pa7.Ok:=Lo.okq [Pa6.pr] (.cons oc6 .nil) λp s=>(.sel (Nat.beq s.ph 1) (.ofq @V0) (.ofq @U9))
def qa0(x:Cse)(y:Int):ROq:=let t1:=ub1;let y1:=(⟨rt tI x.p0,rt tI x.p1,rt (tLs tI) x.c0,rt (tLs tI) x.c1,rt (tLs tI) x.t0,rt (tLs tI) x.t1,x.q0,x.q1,x.q2,x.q3,x.q4,x.q5⟩:Cse);let t2:=(tb9 y1);let y8:=(⟨t2.nm,rt tLq t2.cl,rt tI t2.wt⟩:Prt);let t3:=(Db5 y8);let t4:=(lp (G2 (⟨y,t1,x.q0,x.q1,x.q2,x.q3,x.q4,x.q5,t2.nm⟩:I0)) (⟨0,0,0,rt tI x.p0,rt tI x.p1,rt (tLs tI) x.c0,rt (tLs tI) x.c1,rt (tLs tI) x.t0,rt (tLs tI) x.t1,rt tLq t2.cl,rt tI t2.wt,rt tB t3.su,rt tB t3.to,rt tLq t3.cu,0,[]⟩:w6));let y9:=(rt tI t4.2.ga6);let y7:=((okE tLq t4.2.S3)&&((okE tI t4.2.ga6)&&true));let y4:=((okE tB t4.2.R7)&&((okE tB t4.2.R8)&&((okE tLq t4.2.M9)&&true)));let y3:=((cnE tLq t4.2.S3)&&((cnE tLq t4.2.S3)&&((cnE tI t4.2.ga6)&&true)));let y2:=(rt tLq t4.2.S3);let y5:=(⟨t2.nm,y2,y9⟩:Prt);let y0:=(⟨rt tB t4.2.R7,rt tB t4.2.R8,rt tLq t4.2.M9⟩:Pce);let t5:=(ba0 y5 y0);let y6:=(⟨t1,t5,(↑(List.length t4.2.S3):Int),t2.nm⟩:N4);let t6:=(lp (J0 y6) (⟨0,false,y2,0,y2,y9,0,[]⟩:B5));let t7:=(lp (J0 y6) (⟨1,false,y2,0,y2,y9,t4.2.ns8,t4.2.eh3⟩:B5));let w0:ROq:=(sl t1 (sl (t5 != 35) (some (b true,[])) (some (b t6.2.jb0,[]))) (some (b false,[])));let w1:ROq:=(sl t1 (sl (t5 != 35) (some (b true,[])) (some (b t7.2.jb0,[]))) (some (b false,[])));(sl ub2 (sl ((okE tI x.p0)&&((okE tI x.p1)&&((okE (tLs tI) x.c0)&&((okE (tLs tI) x.c1)&&((okE (tLs tI) x.t0)&&((okE (tLs tI) x.t1)&&true)))))) (sl (ub0 y1) (sl ((okE tLq t2.cl)&&((okE tI t2.wt)&&true)) (sl (kb5 y8) (sl ((cnE tI x.p0)&&((cnE tI x.p1)&&((cnE (tLs tI) x.c0)&&((cnE (tLs tI) x.c1)&&((cnE (tLs tI) x.t0)&&((cnE (tLs tI) x.t1)&&((cnE tLq t2.cl)&&((cnE tI t2.wt)&&((cnE tB t3.su)&&((cnE tB t3.to)&&((cnE tLq t3.cu)&&true))))))))))) (sl (Nat.beq t4.1 1) (some (b t1,[])) (sl (Nat.beq t4.1 2) (some (b false,[])) (sl (Nat.beq t4.1 3) (sl y7 (sl y4 (sl (L7 y5 y0) (sl y3 (sl (Nat.beq t6.1 1) (some (b false,[])) (sl (Nat.beq t6.1 2) w0 (sl (Nat.beq t6.1 3) w0 none))) none) none) none) none) (sl (Nat.beq t4.1 4) (sl y7 (sl y4 (sl (L7 y5 y0) (sl y3 (sl (Nat.beq t7.1 1) (some (b false,[])) (sl (Nat.beq t7.1 2) w1 (sl (Nat.beq t7.1 3) w1 none))) none) none) none) none) none)))) none) none) none) none) none) none)
def Da6(x:Cse)(y:Int):Bool:=aa3 (one r1B) (qa0 x y)
def Da7(x:Cse)(y:Int):Bool:=okO (one r1B) (qa0 x y)
def Jc8:Sum:=va4 cF cU (λx y=>.guard (Da7 x y) (.ret ((one r1B).enc (Da6 x y),[])))
theorem Dc5:l8 prog G 6 Jc8:=pd9 (bd b6 uc1) (one r1B) (o:=qa0) λx y=>da5 (.s .p (.s .p (.s .p (.s .p (.s .p (.s .p (.s (.s .p (.b (.u Pa5.ls))) (.s .p (.s .p (.s (.s .p (.b (.u Pa7.ls))) .p)))))))))) [Pa5.pr,Pa7.pr] (.cons oc4 (.cons oc8 .nil))
theorem gg3{l:LPq}{j:Nat}(h:j<l.length):g8 (bL tLq l) j=[eL tP (gL tLq l j)]:=ba8 tLq h
structure RW1(T g:LPq)(at0:Nat)(j:Nat)(s:A8)(w:LPq):Prop where
 le:j<=T.length
 ph:s.ph=phL (g++w)
 a:s.is9=((at0+j:Nat):Int)
 ix:s.Ec2=(j:Int)
 n:s.ns8=(g++w).length
 e:s.eh3=bL tLq (g++w)
 s:∀q∈w,q∈T
 l:w.length<=j
theorem gg4{p:H9}{g:LPq}{at0:Nat}(hp:p.Ge8=(p.ga0.length:Int))(hT:p.ga0.length<=100)(hg:g.length<=1000)(ha:at0<=1000) :
  ∃s w,lp (B6 p) ⟨phL g,(at0:Int),0,g.length,bL tLq g⟩=(phL (g++w)+1,s)/\RW1 p.ga0 g at0 p.ga0.length s w:=by
 suffices key:∃t s,lp (B6 p) ⟨phL g,(at0:Int),0,g.length,bL tLq g⟩=(t,s)/\∃w,t=phL (g++w)+1/\RW1 p.ga0 g at0 p.ga0.length s w by
  obtain⟨t,s,h1,w,h2,h3⟩:=key;exact⟨s,w,by rw[h1,h2],h3⟩
 refine va3 (step:=B6 p) (mk:=λ_ (s:A8)=>s) p.ga0.length (λj s=>∃w,RW1 p.ga0 g at0 j s w) (λt s=>∃w,t=phL (g++w)+1/\RW1 p.ga0 g at0 p.ga0.length s w) (by omega)
  (λj s hj hi=>?_) (λj s hj hi=>?_) 0 _ ⟨[],Qbw _,by rw[Qbv],rfl,rfl,by rw[Qbv],by rw[Qbv],by simp,by simp⟩
 ·obtain⟨w,hi⟩:=hi;obtain⟨_,h2,h3,h4,h5,h6,h7,h8⟩:=hi;obtain⟨ph,is9,Ec2,ns,eh⟩:=s
  simp only at h2 h3 h4 h5 h6
  subst h2 h3 h4 h5 h6;have hw1:W ((j:Int)+1)=((j+1:Nat):Int):=D0 hj (by omega)
  have hw2:W (((at0+j:Nat):Int)+1)=((at0+(j+1):Nat):Int):=by rw[ja8 (by omega) (by omega)];omega
  have h0:decide (0<=((at0+j:Nat):Int))=true:=decide_eq_true (by omega)
  have ro:=jd2 (g++w) (by rw[Qdc];omega)
  have ap:=Ud3 (g++w) (gL tLq p.ga0 j)
  have hst : B6 p ⟨phL (g ++ w), ((at0 + j : Nat) : Int), (j : Int), (g ++ w).length, bL tLq (g ++ w)⟩ = sl ((bf3 .u8 (bf4 .u8 p.is1 ((at0 + j : Nat) : Int)) 1) == 1)
    (.next ⟨phL (g++(w++[gL tLq p.ga0 j])),((at0+(j+1):Nat):Int),((j+1:Nat):Int),(g++(w++[gL tLq p.ga0 j])).length,bL tLq (g++(w++[gL tLq p.ga0 j]))⟩)
    (.next ⟨phL (g++w),((at0+(j+1):Nat):Int),((j+1:Nat):Int),(g++w).length,bL tLq (g++w)⟩):=by
   have hlen:(g++w++[gL tLq p.ga0 j]).length=(g++w).length+1:=by rw[Qdc];rfl
   rw[<- Qim,Ab8,hlen,<- ap]
   rcases I8 (g++w) with⟨hz,hO⟩|h1
   ·rw[hz];show U4 Stp.next Stp.exit Stp.fail _ _=_;simp only[U4,Int.toNat_natCast,hw1,hw2,h0,hp,i6,j9 hj];rw[btD (s8 hj),hO];rfl
   ·rw[h1];show U5 Stp.next Stp.exit Stp.fail _ _=_;simp only[U5,Int.toNat_natCast,hw1,hw2,h0,hp,i6,j9 hj,ro];rw[btD (s8 hj)]
  show Nx (B6 p ⟨phL (g++w),((at0+j:Nat):Int),(j:Int),(g++w).length,bL tLq (g++w)⟩) _ _;rw[hst];refine Nx.sl (λ_=>.nx ⟨_,rfl,w++[gL tLq p.ga0 j],hj,rfl,rfl,rfl,rfl,rfl,λq hq=>?_,by rw[Qdc];simp;omega⟩) (λ_=>.nx ⟨_,rfl,w,hj,rfl,rfl,rfl,rfl,rfl,h7,by omega⟩)
  rcases Qiq.1 hq with hq|hq
  ·exact h7 q hq
  ·rw[Qja.1 hq];exact S1 tLq hj
 ·obtain⟨w,hi⟩:=hi;have hje:j=p.ga0.length:=by have:=hi.le;omega
  subst hje;refine⟨phL (g++w)+1,?_,w,rfl,hi⟩;obtain⟨_,h2,h3,h4,h5,h6,h7,h8⟩:=hi;obtain⟨ph,is9,Ec2,ns,eh⟩:=s
  simp only at h2 h3 h4 h5 h6
  subst h2 h3 h4 h5 h6
  rcases I8 (g++w) with⟨hz,hO⟩|h1
  ·rw[hz];show U4 Stp.next Stp.exit Stp.fail _ _=_;simp only[U4,hp];rw[bfD (E2 (Qid _))]
  ·rw[h1];show U5 Stp.next Stp.exit Stp.fail _ _=_;simp only[U5,hp];rw[bfD (E2 (Qid _))]
structure RW3(g:LPq)(c:PLq)(j:Nat)(s:w8):Prop where
 le:j<=g.length
 ph:s.ph=phL (D7 (g.take j) c)+1
 ix:s.mb4=(j:Int)
 n:s.Jb3=(D7 (g.take j) c).length
 e:s.eh2=bL tLq (D7 (g.take j) c)
theorem Xf0{p:w7}(hp:p.Ec3=0):lp (B7 p) ⟨0,0,0,[]⟩=(1,⟨0,0,0,[]⟩):=by
 refine vd4 ?_;show na0 Stp.next Stp.exit Stp.fail _ _=_;simp only[na0,hp];rfl
theorem gg5{p:w7}{g:LPq}(h1:p.Ec3=(g.length:Int))(h2:p.Wd2=g.length)(h3:p.eh1=bL tLq g)(hg:g.length<=1000)(hl:∀q∈g,q.length<=1000000)(hc:p.S4.length<=1000000) :
  ∃s,lp (B7 p) ⟨1,0,0,[]⟩=(phL (D7 g p.S4)+2,s)/\s.Jb3=(D7 g p.S4).length/\s.eh2=bL tLq (D7 g p.S4):=by
 suffices key:∃t s,lp (B7 p) ⟨1,0,0,[]⟩=(t,s)/\t=phL (D7 g p.S4)+2/\RW3 g p.S4 g.length s by
  obtain⟨t,s,k1,k2,k3⟩:=key;have n:=k3.n;have e:=k3.e;rw[Qkb] at n e;exact⟨s,by rw[k1,k2],n,e⟩
 refine va3 (step:=B7 p) (mk:=λ_ (s:w8)=>s) g.length (RW3 g p.S4) (λt s=>t=phL (D7 g p.S4)+2/\RW3 g p.S4 g.length s) (by omega)
  (λj s hj hi=>?_) (λj s hj hi=>?_) 0 _ ⟨Qbw _,rfl,rfl,rfl,rfl⟩
 ·obtain⟨_,k2,k3,k4,k5⟩:=hi;obtain⟨ph,is,ns,eh⟩:=s
  simp only at k2 k3 k4 k5
  subst k2 k3 k4 k5;have hq:=hl _ (S1 tLq hj);have hw1:W ((j:Int)+1)=((j+1:Nat):Int):=D0 hj (by omega)
  have htl:(g.take j).length<=g.length:=by rw[Qic];omega
  have hml:=yb5 (g.take j) p.S4;have ro:=jd2 (D7 (g.take j) p.S4) (by omega)
  have hr:g8 p.eh1 j=[eL tP (gL tLq g j)]:=by rw[h3,gg3 hj]
  have hd:l9 [eL tP (gL tLq g j)] 0=[eL tP (gL tLq g j)]:=rfl;have hh:hdA [eL tP (gL tLq g j)]=eL tP (gL tLq g j):=rfl;have hls:lsL tP (toN (eL tP (gL tLq g j))) (toG (eL tP (gL tLq g j)))=gL tLq g j:=j8 tP _;have hok:okL tP (toN (eL tP (gL tLq g j))) (toG (eL tP (gL tLq g j)))=true:=B8 tP _;have htr:c7.tree 4 (toN (eL tP (gL tLq g j))) (toG (eL tP (gL tLq g j)))=eL tP (gL tLq g j):=rfl;have hck:sa5 [CK.sl 4] [eL tP (gL tLq g j)]=true:=rfl;have hbl:Nat.blt j (len p.eh1)=true:=by rw[h3,O3,Qcf];exact hj
  have hle:Nat.ble (0+1) (len [eL tP (gL tLq g j)])=true:=rfl;have hle1:Nat.ble 1 (len [eL tP (gL tLq g j)])=true:=rfl;have pa:=vd2 (a:=gL tLq g j) (c:=p.S4) (by omega) (by omega)
  have ga:=vd3 (a:=gL tLq g j) (c:=p.S4) (by omega) (by omega)
  have hm:=Hd7 g p.S4 hj;have hin:inB (j:Int) p.Wd2=true:=by rw[h2];exact j9 hj
  have hst:B7 p ⟨phL (D7 (g.take j) p.S4)+1,(j:Int),(D7 (g.take j) p.S4).length,bL tLq (D7 (g.take j) p.S4)⟩=.next ⟨phL (D7 (g.take (j+1)) p.S4)+1,((j+1:Nat):Int),(D7 (g.take (j+1)) p.S4).length,bL tLq (D7 (g.take (j+1)) p.S4)⟩:=by
   rw[hm]
   rcases I8 (D7 (g.take j) p.S4) with⟨hz,hO⟩|hz
   ·rw[hz];show U7 Stp.next Stp.exit Stp.fail _ _=_;simp only[U7,Int.toNat_natCast,Qar,hr,hd,hh,hls,hok,htr,hck,hbl,hle1,j8,B8,pa,ga,h1,hin,hw1,i6,Qka];rw[btD (s8 hj),hO];cases apart (gL tLq g j) p.S4<;>rfl
   ·rw[hz];show U8 Stp.next Stp.exit Stp.fail _ _=_;simp only[U8,Int.toNat_natCast,Qar,hr,hd,hh,hls,hok,htr,hck,hbl,hle1,j8,B8,pa,ga,h1,hin,hw1,i6,Qka,ro,Ud3];rw[btD (s8 hj)];cases apart (gL tLq g j) p.S4 with
    |true=>simp only[Qkg,A6,if_true,Qbv,hz]
    |false=>simp only[Qis,i6,Qit,if_false,Ab8,Qdc,List.length_singleton]
  show Nx (B7 p ⟨phL (D7 (g.take j) p.S4)+1,(j:Int),(D7 (g.take j) p.S4).length,bL tLq (D7 (g.take j) p.S4)⟩) _ _;rw[hst];exact .nx ⟨_,rfl,hj,rfl,rfl,rfl,rfl⟩
 ·have hje:j=g.length:=by have:=hi.le;omega
  subst hje;refine⟨phL (D7 g p.S4)+2,?_,rfl,hi⟩;obtain⟨_,k2,k3,k4,k5⟩:=hi;obtain⟨ph,is,ns,eh⟩:=s
  simp only at k2 k3 k4 k5
  subst k2 k3 k4 k5;simp only[Qkb] at *
  rcases I8 (D7 g p.S4) with⟨hz,hO⟩|hz
  ·rw[hz];show U7 Stp.next Stp.exit Stp.fail _ _=_;simp only[U7,h1];rw[bfD (E2 (Qid _))]
  ·rw[hz];show U8 Stp.next Stp.exit Stp.fail _ _=_;simp only[U8,h1];rw[bfD (E2 (Qid _))]
def oks(v:Int)(w1 w2 a:Bool)(cv:Bool×Int):Prop:=(w1=true->v=0->a=true)/\(w2=true->v=0->cv.2=9\/cv.1=true)
structure RW2(x:Prt)(g:LPq)(j:Nat)(s:B5):Prop where
 le:j<=x.cl.length
 ph:s.ph=phL g
 sp:s.jb0=(List.range j).any λk=>gL tI x.wt k==1&&!ea8 (gL tLq x.cl k) g
 l1:s.X2=x.cl
 ix:s.zb2=(j:Int)
 l2:s.i9=x.cl
 l3:s.m9=x.wt
 n:s.ns8=g.length
 e:s.eh1=bL tLq g
theorem sf6(n:Nat)(f:Nat->Bool):(List.range (n+1)).any f=((List.range n).any f||f n):=by
 rw[List.range_succ,List.any_append];simp only[List.any_cons,List.any_nil,Bool.or_false]
theorem ne9{n:Int}(h:n=9):(n != 9)=false:=by rw[h];rfl
theorem gg6{x:Prt}(hj:Jok x)(hw:x.wt.length=x.cl.length){v:Int}{nm:ByteArray}{q:Bool}{g:LPq}(hg:g.length<=1000)(hgl:∀c∈g,c.length<=1000000)
  (hk:∀k,k<x.cl.length->oks v (gL tI x.wt k==1) (gL tI x.wt k==2) (ea8 (gL tLq x.cl k) g) (R3 (D7 g (gL tLq x.cl k)) (gL tLq x.cl k))) :
  ∃s,lp (J0 ⟨q,v,(x.cl.length:Int),nm⟩) ⟨phL g,false,x.cl,0,x.cl,x.wt,g.length,bL tLq g⟩=(phL g+2,s)/\RW2 x g x.cl.length s:=by
 have hcl:=hj.cl
 suffices key:∃t s,lp (J0 ⟨q,v,(x.cl.length:Int),nm⟩) ⟨phL g,false,x.cl,0,x.cl,x.wt,g.length,bL tLq g⟩=(t,s)/\t=phL g+2/\RW2 x g x.cl.length s by
  obtain⟨t,s,k1,k2,k3⟩:=key;exact⟨s,by rw[k1,k2],k3⟩
 refine va3 (step:=J0 ⟨q,v,(x.cl.length:Int),nm⟩) (mk:=λ_ (s:B5)=>s) x.cl.length (RW2 x g) (λt s=>t=phL g+2/\RW2 x g x.cl.length s) (by omega)
  (λj s hjl hi=>?_) (λj s hjl hi=>?_) 0 _ ⟨Qbw _,rfl,rfl,rfl,rfl,rfl,rfl,rfl,rfl⟩
 ·obtain⟨_,k2,k3,k4,k5,k6,k7,k8,k9⟩:=hi;obtain⟨ph,sp,l1,is,l2,l3,ns,eh⟩:=s
  simp only at k2 k3 k4 k5 k6 k7 k8 k9
  subst k2 k4 k5 k6 k7 k8 k9;have hc:=hj.pl _ (S1 tLq hjl);have hw1:W ((j:Int)+1)=((j+1:Nat):Int):=D0 hjl (by omega)
  have hin:=j9 hjl;have hinw:inB (j:Int) x.wt.length=true:=j9 (by omega)
  have hms:∀q∈D7 g (gL tLq x.cl j),q.length<=1000000:=λq hq=>hgl q (hc9.1 hq).1
  have hml:(D7 g (gL tLq x.cl j)).length<=1000000:=by have:=yb5 g (gL tLq x.cl j);omega
  have pa:=Bc1 (c:=gL tLq x.cl j) (s:=g) hc (by omega) hgl
  have ga:=Bc2 (c:=gL tLq x.cl j) (s:=g) hc (by omega) hgl
  have pc:=hc3 (x:=D7 g (gL tLq x.cl j)) hc hml hms;have gc:=ad3 (x:=D7 g (gL tLq x.cl j)) hc hml hms;have p0:=hc3 (x:=[]) (y:=gL tLq x.cl j) hc (by simp) (by simp)
  have g0:=ad3 (x:=[]) (y:=gL tLq x.cl j) hc (by simp) (by simp)
  have hb:=hk j hjl;have goal:J0 ⟨q,v,(x.cl.length:Int),nm⟩ ⟨phL g,sp,x.cl,(j:Int),x.cl,x.wt,g.length,bL tLq g⟩=.next ⟨phL g,sp||(gL tI x.wt j==1&&!ea8 (gL tLq x.cl j) g),x.cl,((j+1:Nat):Int),x.cl,x.wt,g.length,bL tLq g⟩:=by
   have hx12:(gL tI x.wt j==1)=true->(gL tI x.wt j==2)=false:=λh=>by
    rw[beq_iff_eq] at h;rw[h];rfl
   rcases I8 g with⟨hz,hg0⟩|hz
   ·have hm0:D7 g (gL tLq x.cl j)=[]:=by rw[hg0];rfl
    rw[hm0] at hb;have hn:=λ(b:Bool)=>Xf0 (p:=⟨q,v,b,gL tLq x.cl j,x.cl,(x.cl.length:Int),(j:Int),0,nm,x.cl,x.wt,0,0,[]⟩) rfl
    rw[hg0] at pa ga hb ⊢;show U9 Stp.next Stp.exit Stp.fail _ _=_;simp only[U9,Int.toNat_natCast,j8,B8,o7,Qka,hw1,hin,hinw,pa,ga,p0,g0,hn,i6,show Nat.beq 1 1=true from rfl]
    rw[btD (s8 hjl)]
    revert hb hx12
    generalize (gL tI x.wt j==1)=b1;generalize (gL tI x.wt j==2)=b2;generalize ea8 (gL tLq x.cl j) []=a;generalize R3 [] (gL tLq x.cl j)=cv;intro hb hx12;obtain⟨hb1,hb2⟩:=hb;cases hv:(v==0) with
    |false=>cases b1<;>cases b2<;>cases sp<;>cases a<;>first | rfl | exact absurd (hx12 rfl) (by decide)
    |true =>
     have hv0:v=0:=by simpa using hv
     cases b1 with
     |true =>
      have ha:=hb1 rfl hv0;subst ha
      have:=hx12 rfl
      subst this;cases sp<;>rfl
     |false =>
      cases b2 with
      |false=>cases sp<;>rfl
      |true =>
       rcases hb2 rfl hv0 with h9|h1
       ·rw[ne9 h9];cases sp<;>rfl
       ·rw[h1];cases sp<;>cases (cv.2 != 9)<;>rfl
   ·have hgn:g≠[]:=λe=>by rw[e] at hz;cases hz
    have hn:=λ(b:Bool)=>gg5 (p:=⟨q,v,b,gL tLq x.cl j,x.cl,(x.cl.length:Int),(j:Int),(g.length:Int),nm,x.cl,x.wt,g.length,g.length,bL tLq g⟩) (g:=g) rfl rfl rfl hg hgl hc
    obtain⟨s1,n1,n2,n3⟩:=hn true;obtain⟨s2,n4,n5,n6⟩:=hn (!ea8 (gL tLq x.cl j) g);obtain⟨s3,n7,n8,n9⟩:=hn sp;have lb:=ee8 tLq g rfl;have ob:=ve2 tLq g rfl;have lm:=ee8 tLq (D7 g (gL tLq x.cl j)) rfl;have om:=ve2 tLq (D7 g (gL tLq x.cl j)) rfl;rw[hz];show V0 Stp.next Stp.exit Stp.fail _ _=_;simp only[V0,Int.toNat_natCast,j8,B8,o7,Qka,hw1,hin,hinw,lb,ob,pa,ga,p0,g0,n1,n2,n3,n4,n5,n6,n7,n8,n9,lm,om,pc,gc,i6];rw[btD (s8 hjl)];have hcase:(D7 g (gL tLq x.cl j)=[]/\phL (D7 g (gL tLq x.cl j))=0)\/phL (D7 g (gL tLq x.cl j))=1:=(I8 _).imp (λh=>⟨h.2,h.1⟩) id
    rcases hcase with⟨hm0,hp0⟩|hp1
    ·rw[hm0] at hb;rw[hp0];simp only[show Nat.beq (0+2) 1=false from rfl,show Nat.beq (0+2) 2=true from rfl,i6,A6]
     revert hb hx12
     generalize (gL tI x.wt j==1)=b1;generalize (gL tI x.wt j==2)=b2;generalize ea8 (gL tLq x.cl j) g=a;generalize R3 [] (gL tLq x.cl j)=cv;intro hb hx12;obtain⟨hb1,hb2⟩:=hb;cases hv:(v==0) with
     |false=>cases b1<;>cases b2<;>cases sp<;>cases a<;>first | rfl | exact absurd (hx12 rfl) (by decide)
     |true =>
      have hv0:v=0:=by simpa using hv
      cases b1 with
      |true =>
       have ha:=hb1 rfl hv0;subst ha
       have:=hx12 rfl
       subst this;cases sp<;>rfl
      |false =>
       cases b2 with
       |false=>cases sp<;>rfl
       |true =>
        rcases hb2 rfl hv0 with h9|h1
        ·rw[ne9 h9];cases sp<;>rfl
        ·rw[h1];cases sp<;>cases (cv.2 != 9)<;>rfl
    ·rw[hp1];simp only[show Nat.beq (1+2) 1=false from rfl,show Nat.beq (1+2) 2=false from rfl,show Nat.beq (1+2) 3=true from rfl,i6,A6]
     revert hb hx12
     generalize (gL tI x.wt j==1)=b1;generalize (gL tI x.wt j==2)=b2;generalize ea8 (gL tLq x.cl j) g=a;generalize R3 (D7 g (gL tLq x.cl j)) (gL tLq x.cl j)=cv;intro hb hx12;obtain⟨hb1,hb2⟩:=hb;cases hv:(v==0) with
     |false=>cases b1<;>cases b2<;>cases sp<;>cases a<;>first | rfl | exact absurd (hx12 rfl) (by decide)
     |true =>
      have hv0:v=0:=by simpa using hv
      cases b1 with
      |true =>
       have ha:=hb1 rfl hv0;subst ha
       have:=hx12 rfl
       subst this;cases sp<;>rfl
      |false =>
       cases b2 with
       |false=>cases sp<;>rfl
       |true =>
        rcases hb2 rfl hv0 with h9|h1
        ·rw[ne9 h9];cases sp<;>rfl
        ·rw[h1];cases sp<;>cases (cv.2 != 9)<;>rfl
  show Nx (J0 ⟨q,v,(x.cl.length:Int),nm⟩ ⟨phL g,sp,x.cl,(j:Int),x.cl,x.wt,g.length,bL tLq g⟩) _ _;rw[goal];exact .nx ⟨_,rfl,hjl,rfl,by rw[sf6,<- k3],rfl,rfl,rfl,rfl,rfl,rfl⟩
 ·have hje:j=x.cl.length:=by have:=hi.le;omega
  subst hje;refine⟨phL g+2,?_,rfl,hi⟩;obtain⟨_,k2,k3,k4,k5,k6,k7,k8,k9⟩:=hi;obtain⟨ph,sp,l1,is,l2,l3,ns,eh⟩:=s
  simp only at k2 k3 k4 k5 k6 k7 k8 k9
  subst k2 k4 k5 k6 k7 k8 k9
  rcases I8 g with⟨hz,hg0⟩|hz
  ·rw[hz];show U9 Stp.next Stp.exit Stp.fail _ _=_;simp only[U9];rw[bfD (E2 (Qid _))]
  ·rw[hz];show V0 Stp.next Stp.exit Stp.fail _ _=_;simp only[V0];rw[bfD (E2 (Qid _))]
section
variable(a0 a1 a2 a3 a4 a5 a6 a7 a8 a9 aa ab:c7)
theorem dr2:l9 [a0,a1,a2,a3,a4,a5,a6,a7,a8,a9,aa,ab] 2=[a2,a3,a4,a5,a6,a7,a8,a9,aa,ab]:=rfl
theorem dr3:l9 [a0,a1,a2,a3,a4,a5,a6,a7,a8,a9,aa,ab] 3=[a3,a4,a5,a6,a7,a8,a9,aa,ab]:=rfl
theorem dr4:l9 [a0,a1,a2,a3,a4,a5,a6,a7,a8,a9,aa,ab] 4=[a4,a5,a6,a7,a8,a9,aa,ab]:=rfl
theorem dr5:l9 [a0,a1,a2,a3,a4,a5,a6,a7,a8,a9,aa,ab] 5=[a5,a6,a7,a8,a9,aa,ab]:=rfl
theorem Ze5:l9 [a0,a1,a2,a3,a4,a5,a6,a7,a8,a9,aa,ab] (2+1)=[a3,a4,a5,a6,a7,a8,a9,aa,ab]:=rfl
theorem Ze6:l9 [a0,a1,a2,a3,a4,a5,a6,a7,a8,a9,aa,ab] (4+1)=[a5,a6,a7,a8,a9,aa,ab]:=rfl
theorem Ic1(l:List c7):hdA (a0::l)=a0:=rfl
end
theorem Ze7:inB ((0:Nat):Int) 2=true:=rfl
theorem Ze8:inB ((1:Nat):Int) 2=true:=rfl
theorem nb7:Nat.ble (2+1+1) 12=true:=rfl
theorem nb8:Nat.ble (4+1+1) 12=true:=rfl
theorem nb3:Nat.ble (2+1) 12=true:=rfl
theorem nb4:Nat.ble (3+1) 12=true:=rfl
theorem nb5:Nat.ble (4+1) 12=true:=rfl
theorem nb6:Nat.ble (5+1) 12=true:=rfl
theorem lsE(l:List (List Int)):lsL (tLs tI) (toN (eL (tLs tI) l)) (toG (eL (tLs tI) l))=l:=j8 (tLs tI) l
theorem Ze9(l:List (List Int)):okL (tLs tI) (toN (eL (tLs tI) l)) (toG (eL (tLs tI) l))=true:=B8 (tLs tI) l
theorem ckE(l:List (List Int))(r:List c7):sa5 [CK.sl 1] (eL (tLs tI) l::r)=true:=rfl
structure RW0(x:Cse)(p:Prt)(j:Nat)(s:w6)(g:LPq):Prop where
 le:j<=2
 ph:s.ph=phL g
 a:∃n:Nat,s.is9=(n:Int)/\n<=10*j
 ix:s.Ga8=(j:Int)
 l0:s.P7=x.p0
 l1:s.ja0=x.p1
 l2:s.ja1=x.c0
 l3:s.ja2=x.c1
 l4:s.ja3=x.t0
 l5:s.ja4=x.t1
 c:s.S3=p.cl
 w:s.ga6=p.wt
 wd:Wd p ⟨s.R7,s.R8,s.M9⟩ g (3*j)
 n:s.ns8=g.length
 e:s.eh3=bL tLq g
theorem we7(p:I0)(s:w6)(h:s.ph=0):G2 p s=K3 .next .exit .fail p s:=by
 unfold G2;rw[h];rfl
theorem sf7(p:I0)(s:w6)(h:s.ph=1):G2 p s=U6 .next .exit .fail p s:=by
 unfold G2;rw[h];rfl
theorem Gf8{x:Cse}{p:Prt}(m:Mp p){y:Int}{j:Nat}{g:LPq}{n:Nat}{su to:List Bool}{cu:LPq}(hj:j<2)(hn:n<=10*j)(hW:Wd p ⟨su,to,cu⟩ g (3*j)) :
  Nx (G2 ⟨y,true,x.q0,x.q1,x.q2,x.q3,x.q4,x.q5,p.nm⟩ ⟨phL g,(n:Int),(j:Int),x.p0,x.p1,x.c0,x.c1,x.t0,x.t1,p.cl,p.wt,su,to,cu,g.length,bL tLq g⟩) (λt=>t=1) (λs=>∃g',RW0 x p (j+1) s g'):=by
 have hm:Mp ⟨p.nm,p.cl,p.wt⟩:=m
 -- this round's lists
 obtain⟨A,B,hA,hB⟩:∃A B:List (List Int),(A=if j=0 then x.c0 else x.c1)/\(B=if j=0 then x.t0 else x.t1):=⟨_,_,rfl,rfl⟩
 obtain⟨z1,z2⟩:=sf3 (x:=A.take 3) hm;have z3:=sf4 (x:=A.take 3) hm;obtain⟨w1,w2⟩:=sf3 (x:=B.take 3) hm;have w3:=sf4 (x:=B.take 3) hm;have z1:(ba4 (A.take 3) ⟨p.nm,p.cl,p.wt⟩).length<=3:=Qai z1 (by rw[Qic];omega)
 have w1:(ba4 (B.take 3) ⟨p.nm,p.cl,p.wt⟩).length<=3:=Qai w1 (by rw[Qic];omega)
 have pk:=hW.pok m (by omega)
 have ap:=bd3 hm.jok pk (z:=ba4 (A.take 3) ⟨p.nm,p.cl,p.wt⟩) (w:=ba4 (B.take 3) ⟨p.nm,p.cl,p.wt⟩) (by omega) (by omega) z2.le w2.le hW.cc.ne z2.ne
 have ag:=bd4 hm.jok pk (z:=ba4 (A.take 3) ⟨p.nm,p.cl,p.wt⟩) (w:=ba4 (B.take 3) ⟨p.nm,p.cl,p.wt⟩) (by omega) (by omega) z2.le w2.le hW.cc.ne z2.ne
 have stp:=λ(w':LPq)=>hW.step m (n:=3*j) (by omega) z2 w2 z1 w1 (w':=w')
 generalize hz:ba4 (A.take 3) ⟨p.nm,p.cl,p.wt⟩=z at *
 generalize hw:ba4 (B.take 3) ⟨p.nm,p.cl,p.wt⟩=w at *
 have hap:Wa1 ⟨p.nm,p.cl,p.wt⟩ ⟨su,to,cu⟩ z w=Wa1 p ⟨su,to,cu⟩ z w:=rfl;rw[hap] at ap;generalize hr:Wa1 p ⟨su,to,cu⟩ z w=r at *
 have hgl:=hW.ng
 -- what is removed of the touches
 have L1:=gg4 (p:=⟨y,true,(j:Int),w,(w.length:Int),x.p0,x.p1,x.c0,x.c1,x.t0,x.t1,x.q0,x.q1,x.q2,x.q3,x.q4,x.q5,p.nm,p.cl,p.wt,r.1.su,r.1.to,r.1.cu⟩) (g:=g++z) (at0:=n) rfl (show w.length<=100 by omega) (by rw[Qdc];omega) (by omega)
 obtain⟨s1,w',hlp,hw'⟩:=L1;obtain⟨b1,b2,b3,b4,b5,b6,b7,b8⟩:=hw'
 simp only at b3 b7 b8
 have hW1:W ((j:Int)+1)=((j+1:Nat):Int):=D0 hj (by omega)
 have fin:r.2=9\/(r.2=0/\RW0 x p (j+1) ⟨phL ((g++z)++w'),s1.is9,((j+1:Nat):Int),x.p0,x.p1,x.c0,x.c1,x.t0,x.t1,p.cl,p.wt,r.1.su,r.1.to,r.1.cu,((g++z)++w').length,bL tLq ((g++z)++w')⟩ ((g++z)++w')):=by
  rcases stp w' b7 b8 with h|⟨h1,h2⟩
  ·exact .inl h
  ·exact .inr ⟨h1,by omega,rfl,⟨_,b3,by omega⟩,rfl,rfl,rfl,rfl,rfl,rfl,rfl,rfl,rfl,h2,rfl,rfl⟩
 have hst : G2 ⟨y, true, x.q0, x.q1, x.q2, x.q3, x.q4, x.q5, p.nm⟩ ⟨phL g, (n : Int), (j : Int), x.p0, x.p1, x.c0, x.c1, x.t0, x.t1, p.cl, p.wt, su, to, cu, g.length, bL tLq g⟩ =
   sl (r.2==9) (.exit 1) (sl (r.2 != 0) (.exit 2) (.next ⟨phL ((g++z)++w'),s1.is9,((j+1:Nat):Int),x.p0,x.p1,x.c0,x.c1,x.t0,x.t1,p.cl,p.wt,r.1.su,r.1.to,r.1.cu,((g++z)++w').length,bL tLq ((g++z)++w')⟩)):=by
  have hroom:Nat.ble (z.length*24) room=true:=by rw[Qiae];unfold room;omega
  have q11:Nat.beq 1 1=true:=rfl;have q21:Nat.beq 2 1=false:=rfl;have q22:Nat.beq 2 2=true:=rfl;have hend:∀(K:Stp w6) (N:Nat->Nat->List (List c7)->Stp w6),(sl (Nat.beq (phL ((g++z)++w')+1) 1) (N 0 0 []) (sl (Nat.beq (phL ((g++z)++w')+1) 2) (N 1 s1.ns8 s1.eh3) K))=N (phL ((g++z)++w')) ((g++z)++w').length (bL tLq ((g++z)++w')):=λK N=>by
   rcases I8 ((g++z)++w') with⟨h0,h1⟩|h0
   ·rw[h0,h1];rfl
   ·rw[h0,b5,b6];rfl
  rcases I8 g with⟨hz0,hg0⟩|hz1
  ·subst hg0
   rcases (show j=0\/j=1 by omega) with rfl|rfl
   ·skip
    rw[if_pos rfl] at hA hB;subst hA hB;cases z with
    |nil =>
     have hlp':lp (B6 ⟨y,true,((0:Nat):Int),w,(w.length:Int),x.p0,x.p1,x.c0,x.c1,x.t0,x.t1,x.q0,x.q1,x.q2,x.q3,x.q4,x.q5,p.nm,p.cl,p.wt,r.1.su,r.1.to,r.1.cu⟩) ⟨0,(n:Int),0,0,[]⟩=(phL ([]++[]++w')+1,s1):=hlp;rw[show phL ([]:LPq)=0 from rfl]
     rw[we7 _ _ rfl];simp only[K3,Int.toNat_natCast,j8,B8,o7,Qka,Ze7,Ze8,nb3,nb4,nb5,nb6,nb7,nb8,Qkl,Ze5,Ze6,dr2,dr3,dr4,dr5,Ic1,lsE,Ze9,ckE,Vd7,Vd8,hz,hw,z3,w3,ap,ag,hW1,Ka4,O3,i6,A6,Qma,Qbg,Qmb,Nat.add_zero,Qar,hlp',List.length_nil];rw[btD (show ((0:Nat):Int)<2 by decide)]
     congr 2;exact hend .fail λa b c=>.next ⟨a,s1.is9,((0+1:Nat):Int),x.p0,x.p1,x.c0,x.c1,x.t0,x.t1,p.cl,p.wt,r.1.su,r.1.to,r.1.cu,b,c⟩
    |cons c0 z =>
     have hlp':lp (B6 ⟨y,true,((0:Nat):Int),w,(w.length:Int),x.p0,x.p1,x.c0,x.c1,x.t0,x.t1,x.q0,x.q1,x.q2,x.q3,x.q4,x.q5,p.nm,p.cl,p.wt,r.1.su,r.1.to,r.1.cu⟩) ⟨1,(n:Int),0,(c0::z).length,bL tLq (c0::z)⟩=(phL ([]++(c0::z)++w')+1,s1):=hlp;rw[show phL ([]:LPq)=0 from rfl]
     rw[we7 _ _ rfl];simp only[K3,Int.toNat_natCast,j8,B8,o7,Qka,Ze7,Ze8,nb3,nb4,nb5,nb6,nb7,nb8,Qkl,Ze5,Ze6,dr2,dr3,dr4,dr5,Ic1,lsE,Ze9,ckE,Vd7,Vd8,hz,hw,z3,w3,ap,ag,hW1,Ka4,O3,i6,A6,Qma,Qbg,Qmb,Nat.add_zero,Qar,hlp',hroom];rw[btD (show ((0:Nat):Int)<2 by decide)]
     congr 2;exact hend .fail λa b c=>.next ⟨a,s1.is9,((0+1:Nat):Int),x.p0,x.p1,x.c0,x.c1,x.t0,x.t1,p.cl,p.wt,r.1.su,r.1.to,r.1.cu,b,c⟩
   ·skip
    rw[if_neg (by decide)] at hA hB
    subst hA hB;cases z with
    |nil =>
     have hlp':lp (B6 ⟨y,true,((1:Nat):Int),w,(w.length:Int),x.p0,x.p1,x.c0,x.c1,x.t0,x.t1,x.q0,x.q1,x.q2,x.q3,x.q4,x.q5,p.nm,p.cl,p.wt,r.1.su,r.1.to,r.1.cu⟩) ⟨0,(n:Int),0,0,[]⟩=(phL ([]++[]++w')+1,s1):=hlp;rw[show phL ([]:LPq)=0 from rfl]
     rw[we7 _ _ rfl];simp only[K3,Int.toNat_natCast,j8,B8,o7,Qka,Ze7,Ze8,nb3,nb4,nb5,nb6,nb7,nb8,Qkl,Ze5,Ze6,dr2,dr3,dr4,dr5,Ic1,lsE,Ze9,ckE,Vd7,Vd8,hz,hw,z3,w3,ap,ag,hW1,Ka4,O3,i6,A6,Qma,Qbg,Qmb,Nat.add_zero,Qar,hlp',List.length_nil];rw[btD (show ((1:Nat):Int)<2 by decide)]
     congr 2;exact hend .fail λa b c=>.next ⟨a,s1.is9,((1+1:Nat):Int),x.p0,x.p1,x.c0,x.c1,x.t0,x.t1,p.cl,p.wt,r.1.su,r.1.to,r.1.cu,b,c⟩
    |cons c0 z =>
     have hlp':lp (B6 ⟨y,true,((1:Nat):Int),w,(w.length:Int),x.p0,x.p1,x.c0,x.c1,x.t0,x.t1,x.q0,x.q1,x.q2,x.q3,x.q4,x.q5,p.nm,p.cl,p.wt,r.1.su,r.1.to,r.1.cu⟩) ⟨1,(n:Int),0,(c0::z).length,bL tLq (c0::z)⟩=(phL ([]++(c0::z)++w')+1,s1):=hlp;rw[show phL ([]:LPq)=0 from rfl]
     rw[we7 _ _ rfl];simp only[K3,Int.toNat_natCast,j8,B8,o7,Qka,Ze7,Ze8,nb3,nb4,nb5,nb6,nb7,nb8,Qkl,Ze5,Ze6,dr2,dr3,dr4,dr5,Ic1,lsE,Ze9,ckE,Vd7,Vd8,hz,hw,z3,w3,ap,ag,hW1,Ka4,O3,i6,A6,Qma,Qbg,Qmb,Nat.add_zero,Qar,hlp',hroom];rw[btD (show ((1:Nat):Int)<2 by decide)]
     congr 2;exact hend .fail λa b c=>.next ⟨a,s1.is9,((1+1:Nat):Int),x.p0,x.p1,x.c0,x.c1,x.t0,x.t1,p.cl,p.wt,r.1.su,r.1.to,r.1.cu,b,c⟩
  ·rcases (show j=0\/j=1 by omega) with rfl|rfl
   ·skip
    rw[if_pos rfl] at hA hB;subst hA hB;have hph:phL (g++z)=1:=by
     cases g with
     |nil=>cases hz1
     |cons=>rfl
    rw[hph,Qdc,<- qf4] at hlp;have hrm:(Nat.beq g.length (len (bL tLq g))&&Nat.ble ((g.length+z.length)*24) room)=true:=by
     rw[O3,Qip,Qkl,Qiae];unfold room;omega
    rw[O3] at hrm;rw[hz1];rw[sf7 _ _ rfl];simp only[U6,Int.toNat_natCast,j8,B8,o7,Qka,Ze7,Ze8,nb3,nb4,nb5,nb6,nb7,nb8,Qkl,Ze5,Ze6,dr2,dr3,dr4,dr5,Ic1,lsE,Ze9,ckE,Vd7,Vd8,hz,hw,z3,w3,ap,ag,hW1,Ka4,O3,i6,A6,Qma,Qbg,Qmb,Nat.add_zero,Qar,hlp,hrm];rw[btD (show ((0:Nat):Int)<2 by decide)]
    congr 2;exact hend .fail λa b c=>.next ⟨a,s1.is9,((0+1:Nat):Int),x.p0,x.p1,x.c0,x.c1,x.t0,x.t1,p.cl,p.wt,r.1.su,r.1.to,r.1.cu,b,c⟩
   ·skip
    rw[if_neg (by decide)] at hA hB
    subst hA hB;have hph:phL (g++z)=1:=by
     cases g with
     |nil=>cases hz1
     |cons=>rfl
    rw[hph,Qdc,<- qf4] at hlp;have hrm:(Nat.beq g.length (len (bL tLq g))&&Nat.ble ((g.length+z.length)*24) room)=true:=by
     rw[O3,Qip,Qkl,Qiae];unfold room;omega
    rw[O3] at hrm;rw[hz1];rw[sf7 _ _ rfl];simp only[U6,Int.toNat_natCast,j8,B8,o7,Qka,Ze7,Ze8,nb3,nb4,nb5,nb6,nb7,nb8,Qkl,Ze5,Ze6,dr2,dr3,dr4,dr5,Ic1,lsE,Ze9,ckE,Vd7,Vd8,hz,hw,z3,w3,ap,ag,hW1,Ka4,O3,i6,A6,Qma,Qbg,Qmb,Nat.add_zero,Qar,hlp,hrm];rw[btD (show ((1:Nat):Int)<2 by decide)]
    congr 2;exact hend .fail λa b c=>.next ⟨a,s1.is9,((1+1:Nat):Int),x.p0,x.p1,x.c0,x.c1,x.t0,x.t1,p.cl,p.wt,r.1.su,r.1.to,r.1.cu,b,c⟩
 rw[hst]
 rcases fin with h9|⟨h0,hR⟩
 ·rw[h9];exact .ex rfl
 ·rw[h0];exact .nx ⟨_,hR⟩
theorem gg7{x:Cse}{p:Prt}(m:Mp p){y:Int} :
  ∃t s,lp (G2 ⟨y,true,x.q0,x.q1,x.q2,x.q3,x.q4,x.q5,p.nm⟩) ⟨0,0,0,x.p0,x.p1,x.c0,x.c1,x.t0,x.t1,p.cl,p.wt,List.replicate p.cl.length false,List.replicate p.cl.length false,[],0,[]⟩=(t,s)/\(t=1\/∃g,t=phL g+3/\RW0 x p 2 s g):=by
 refine va3 (step:=G2 ⟨y,true,x.q0,x.q1,x.q2,x.q3,x.q4,x.q5,p.nm⟩) (mk:=λ_ (s:w6)=>s) 2 (λj s=>∃g,RW0 x p j s g) (λt s=>t=1\/∃g,t=phL g+3/\RW0 x p 2 s g) (by omega)
  (λj s hj hi=>?_) (λj s hj hi=>?_) 0 _ ⟨[],Qbw _,rfl,⟨0,rfl,by omega⟩,rfl,rfl,rfl,rfl,rfl,rfl,rfl,rfl,rfl,Wd.new p,rfl,rfl⟩
 ·obtain⟨g,hi⟩:=hi;obtain⟨_,h2,⟨n,h3,hn⟩,h4,h5,h6,h7,h8,h9,ha,hb,hc,hW,hd,he⟩:=hi;obtain⟨ph,is9,Ga8,a0,a1,a2,a3,a4,a5,cl,wt,su,to,cu,ns,eh⟩:=s
  simp only at h2 h3 h4 h5 h6 h7 h8 h9 ha hb hc hd he
  subst h2 h3 h4 h5 h6 h7 h8 h9 ha hb hc hd he
  rcases Gf8 m (y:=y) hj hn hW with⟨t,h1,h2⟩|⟨s,h1,g',h2⟩
  ·exact .inl ⟨t,h1,.inl h2⟩
  ·exact .inr ⟨s,h1,s,rfl,g',h2⟩
 ·obtain⟨g,hi⟩:=hi;have hje:j=2:=by have:=hi.le;omega
  subst hje;refine⟨phL g+3,?_,.inr ⟨g,rfl,hi⟩⟩;have hph:=hi.ph;have hix:=hi.ix
  rcases I8 g with⟨hz,_⟩|hz
  ·rw[hz] at hph ⊢;rw[we7 _ _ hph];simp only[K3,hix];rw[bfD (by decide)]
  ·rw[hz] at hph ⊢;rw[sf7 _ _ hph];simp only[U6,hix];rw[bfD (by decide)]
theorem Id8(x:Cse)(y:Int):qa0 x y=some (b true,[]):=by
 have m:=Wf5 ⟨x.p0,x.p1⟩;have pc:=Wf8 x;have gc:=Wf9 x;generalize yb8 ⟨x.p0,x.p1⟩=p at m pc;have hm:Mp ⟨p.nm,p.cl,p.wt⟩:=m;have a5:=Mf1 hm.jok.cl;have a6:=Mf2 hm.jok.cl;unfold Ye0 at a5;obtain⟨t,s,h0,h1⟩:=gg7 (x:=x) m (y:=y);have q:=λn:Nat=>Qip n
 unfold qa0;simp only[j8,B8,o7,Qka,i6,Ge2,Ge1,pc,gc,a5,a6,h0]
 rcases h1 with rfl|⟨g,rfl,hR⟩
 ·rfl
 ·obtain⟨_,r2,r3,r4,r5,r6,r7,r8,r9,ra,rb,rc,hW,rd,re⟩:=hR;have hW:Wd p ⟨s.R7,s.R8,s.M9⟩ g 6:=hW;have pk:=hW.pok m (by omega)
  have v1:=Nb8 hm.jok pk;have v2:=Nb9 hm.jok pk;have hv':Vb4 ⟨p.nm,p.cl,p.wt⟩ ⟨s.R7,s.R8,s.M9⟩=Vb4 p ⟨s.R7,s.R8,s.M9⟩:=rfl;rw[hv'] at v1;have hng:=hW.ng;have L2:=gg6 (x:=p) m.jok m.w (v:=Vb4 p ⟨s.R7,s.R8,s.M9⟩) (nm:=p.nm) (q:=true) (g:=g) (by omega) hW.cg.le (λk hk=>⟨λh1 h2=>hW.keep m (by omega) h2 hk (by simpa using h1),λh1 h2=>hW.rem m (by omega) h2 hk (by simpa using h1)⟩)
  obtain⟨s2,e1,e2⟩:=L2;have hsp:=e2.sp;have key:(Vb4 p ⟨s.R7,s.R8,s.M9⟩ != 35)=false->s2.jb0=true:=λh=>by
   have h35:Vb4 p ⟨s.R7,s.R8,s.M9⟩=35:=by simpa using h
   obtain⟨k,k1,k2,k3⟩:=hW.spo m (by omega) h35
   rw[hsp];exact Qiaa.2 ⟨k,Qca.2 k1,by rw[k2,k3];rfl⟩
  have fin:sl (Vb4 p ⟨s.R7,s.R8,s.M9⟩ != 35) (some (b true,([]:List c8))) (some (b s2.jb0,[]))=some (b true,[]):=by
   cases hk:(Vb4 p ⟨s.R7,s.R8,s.M9⟩ != 35) with
   |true=>rfl
   |false=>rw[key hk];rfl
  rcases I8 g with⟨hz,hg0⟩|hz
  ·rw[hz] at e1 ⊢;subst hg0;have e1':lp (J0 ⟨true,Vb4 p ⟨s.R7,s.R8,s.M9⟩,(p.cl.length:Int),p.nm⟩) ⟨0,false,p.cl,0,p.cl,p.wt,0,[]⟩=(0+2,s2):=e1;simp only[show Nat.beq (0+3) 1=false from rfl,show Nat.beq (0+3) 2=false from rfl,show Nat.beq (0+3) 3=true from rfl,show Nat.beq (0+2) 1=false from rfl,show Nat.beq (0+2) 2=true from rfl,i6,A6,rb,rc,v1,v2,e1']
   exact fin
  ·rw[hz] at e1 ⊢;simp only[show Nat.beq (1+3) 1=false from rfl,show Nat.beq (1+3) 2=false from rfl,show Nat.beq (1+3) 3=false from rfl,show Nat.beq (1+3) 4=true from rfl,show Nat.beq (1+2) 1=false from rfl,show Nat.beq (1+2) 2=false from rfl,show Nat.beq (1+2) 3=true from rfl,i6,A6,rb,rc,rd,re,v1,v2,e1]
   exact fin
theorem Ge6(x:Cse)(y:Int):Da6 x y=true:=by unfold Da6;rw[Id8 x y];rfl
theorem Ge7(x:Cse)(y:Int):Da7 x y=true:=by unfold Da7;rw[Id8 x y];rfl
end Go.Ev.Ce
namespace Go.Ev.Ce
open Go Go.Ev Go.Ev.L Go.ChangeShapes Go.RowKit
theorem sf8{P:Program}{w:World}{ρ:Rho}{H:List c8}{F:Fz}{t:TypeId}{v:Value}{bs:Nat}{r:Reach}(ht:P.underlying t=some (.int .u8))
  (hok:Value.okWide P w r bs t v):∃n:Int,(0<=n/\n<=255)/\qa1 ρ H F w (.v (.int .u8 n)) v:=by
 unfold Value.okWide at hok;rw[ht] at hok;cases v with
 |int k' n =>
  simp only[Cell.okWide,ht,Cell.ok] at hok;obtain⟨rfl,h⟩:=hok;refine⟨n,?_,.cell (.v _)⟩;simp only[IntKind.has,IntKind.min,IntKind.max,IntKind.bits,IntKind.signed] at h
  simp at h
  omega
 |_=>simp[Cell.okWide,ht,Cell.ok] at hok
theorem sf9(n:Int)(h:0<=n/\n<=255):∃a,Rdg cU (.v (.int .u8 n)) a/\(0<=a/\a<=255):=⟨n,⟨rfl,rfl⟩,h⟩
section
variable{D:Type}{enc:TypeId×Value->D}{P:Program}{w:World}{spare:Nat->Bool}{held:Bool}
def Seg(w:World)(ok:List c7->Prop)(cs:List Value):Prop:=∃avs:List c7,avs.length=cs.length/\ok avs/\∀(i:Nat) x v,avs[i]?=some x->cs[i]?=some v->ha6 (de9 w) w x v
theorem Seg.imp{o o':List c7->Prop}{cs:List Value}(h:Seg w o cs)(k:∀a,o a->o' a):Seg w o' cs:=by
 obtain⟨a,h1,h2,h3⟩:=h;exact⟨a,h1,k a h2,h3⟩
theorem Seg.app{o o':List c7->Prop}{a c:List Value}(h:Seg w o a)(k:Seg w o' c):Seg w (λl=>∃u v,l=u++v/\o u/\o' v) (a++c):=by
 obtain⟨u,h1,h2,h3⟩:=h;obtain⟨v,k1,k2,k3⟩:=k;refine⟨u++v,by simp[h1,k1],⟨u,v,rfl,h2,k2⟩,λi x y hx hy=>?_⟩
 by_cases hi:i<u.length
 ·rw[Qbb hi] at hx;rw[Qbb (by omega)] at hy
  exact h3 i x y hx hy
 ·rw[Qba (by omega)] at hx
  rw[Qba (by omega),<- h1] at hy
  exact k3 _ x y hx hy
theorem tf0{α:Type}(t:Ty α){e:TypeId}{d:Nat}(hf:la9 P d e=some (bb5 .i64 t.es))(ht:∀g,t.ok (Ac5 .i64 t.es g)=true){fuel:Nat}{cs:List Value}{x:DataW D×List MemPlace}
  (hx:DataW.trod enc P w 0 spare held fuel e cs=some x) (hl:cs.length=t.es):Seg w (λa=>t.ok a=true) cs:=by
 obtain⟨g,hg⟩:=Me5 hf hx hl;refine⟨Ac5 .i64 t.es g,by simp[Ac5,hl],ht g,λi x v h1 h2=>?_⟩
 obtain⟨hi,rfl⟩:=Fd7 h1;rw[hg i hi] at h2;cases h2;exact se6 _ _
theorem af0{a:Addr}{n:Nat}{row:List Value}(h:w.cells? 0 a n=some row):row.length=n/\∀c,c<n->w.cell? (a.add c)=row[c]?:=by
 unfold World.cells? at h
 split at h
 ·obtain⟨l1,l2⟩:=Ac4 h;have hl:row.length=n:=by simpa using l1
  refine⟨hl,λc hc=>?_⟩
  obtain⟨i,hi,hi2⟩:=l2 c _ (Qaa (by omega))
  rw[Qjr hc] at hi;injection hi with hi;subst hi;rw[hi2,Qaa]
 ·cases h
theorem Vd9{α:Type}(t:Ty α){s e:TypeId}(hs:P.underlying s=some (.slice e))(hce:P.cellsOf e=t.es)(h0:0<t.es)
  (hE:∀(fuel:Nat) (row:List Value) (y:DataW D×List MemPlace),DataW.trod enc P w 0 spare held fuel e row=some y->row.length=t.es->Seg w (λa=>t.ok a=true) row)
  {fuel:Nat} {cs:List Value} {x:DataW D×List MemPlace} (hx:DataW.trod enc P w 0 spare held fuel s cs=some x) :
  Seg w (λa=>∃n get,a=[.tree t.es n get]/\n<=maxLen/\(tLs t).ok a=true) cs:=by
 rcases mf7 hs hx with rfl|⟨a,n,cap,fuel',rfl,hn,hc,hel⟩
 ·refine⟨[.tree t.es 0 λ_=>[]],rfl,⟨0,_,rfl,Qbw _,?_⟩,λi x v h1 h2=>?_⟩
  ·show Bool.and (Nat.beq t.es t.es) (okL t 0 λ_=>[])=true
   rw[Qip];rfl
  ·match i,h1,h2 with
   |0,h1,h2=>cases h1;cases h2;exact .nil _ _
 ·rw[hce] at hel;have hcell:∀j,∃q:List c7×List Value,j<n->q.2.length=t.es/\q.1.length=t.es/\t.ok q.1=true/\(∀c,c<t.es->w.cell? ((a.add (j*t.es)).add c)=q.2[c]?)/\∀(i:Nat) x v,q.1[i]?=some x->q.2[i]?=some v->ha6 (de9 w) w x v:=λj=>by
   by_cases hj:j<n
   ·obtain⟨row,y,h1,h2⟩:=hel j hj;obtain⟨g1,g2⟩:=af0 h1;obtain⟨avs,k1,k2,k3⟩:=hE fuel' row y h2 g1;exact⟨(avs,row),λ_=>⟨g1,by rw[k1,g1],k2,g2,k3⟩⟩
   ·exact⟨([],[]),λh=>absurd h hj⟩
  obtain⟨q,hq⟩:=Classical.axiomOfChoice hcell;have hspot:0<n->a.spot=none:=λhn=>by
   obtain⟨k1,_,_,k4,_⟩:=hq 0 hn
   have:=k4 0 h0
   rw[Qaa (by omega)] at this
   simpa [Addr.add] using World.cell?_spot this
  have hw:∀j c,j<n->c<t.es->w.cell? ⟨a.block,a.off+(j*t.es+c),none⟩=some ((q j).2.getD c (.bool true)):=λj c hj hc=>by
   obtain⟨k1,_,_,k4,_⟩:=hq j hj
   have:=k4 c hc
   rw[ba6 (hspot (by omega)),ba6 rfl] at this
   rw[Qda,Qaa (by omega)]
   rw[Qaa (by omega)] at this
   simpa [Qal] using this
  refine⟨[.tree t.es n λj=>(q j).1],rfl,⟨n,_,rfl,Qai hn hc,?_⟩,λi x v h1 h2=>?_⟩
  ·show Bool.and (Nat.beq t.es t.es) (okL t n λj=>(q j).1)=true
   rw[Qip,Qkl];unfold okL;rw[Qcb];exact λj hj=>(hq j (by simpa using hj)).2.2.1
  ·match i,h1,h2 with
   |0,h1,h2 =>
    cases h1;cases h2;refine .tree t.es n _ a cap (λj c=>(q j).2.getD c (.bool true)) hspot hn (λi hi=>(hq i hi).2.1) (λi c hi hc=>?_) hw λi c hi hc=>?_
    ·unfold de9;rw[hw i c hi hc];rfl
    ·obtain⟨k1,k2,_,_,k5⟩:=hq i hi;have hc2:c<(q i).2.length:=by omega
     refine k5 c _ _ (Qaa hc) ?_;rw[Qda,Qaa hc2];rfl
theorem kd5{t e:TypeId}{m:Nat}{o:List c7->Prop}(ht:P.underlying t=some (.array 2 e))(hce:P.cellsOf e=m)(hct:P.cellsOf t=m+m)
  (hE:∀(fuel:Nat) (row:List Value) (y:DataW D×List MemPlace),DataW.trod enc P w 0 spare held fuel e row=some y->row.length=m->Seg w o row)
  {fuel:Nat} {cs:List Value} {x:DataW D×List MemPlace} (hx:DataW.trod enc P w 0 spare held fuel t cs=some x):Seg w (λl=>∃u v,l=u++v/\o u/\o v) cs:=by
 obtain⟨hl,f1,xs,hn,_,hxs⟩:=se5 ht hx;rw[hct] at hl;have h0:=hxs 0 _ (Qaa (by omega))
 have h1:=hxs 1 _ (Qaa (by omega))
 rw[hce] at h0 h1;have s0:=hE _ _ _ h0 (by simp;omega)
 have s1:=hE _ _ _ h1 (by simp;omega)
 have:=s0.app s1
 have e:(cs.drop (0*m)).take m++(cs.drop (1*m)).take m=cs:=by
  rw[Qma,Qia,Qbg,Qiab (l:=cs.drop m) (by simp;omega),Qfg]
 rw[e] at this;exact this
theorem tf1{ρ:Rho}{H:List c8}{t t0 t1 t3 e1 ti:TypeId}{f0 f1 f2 f3:Field}{v:Value}{dd:DataW D}{pp:List MemPlace}{bs:Nat}{r:Reach}{d:Nat}
  (ht:P.underlying t=some (.struct #[f0,f1,f2,f3])) (q0:f0.type=t0/\f0.offset=0) (q1:f1.type=t1/\f1.offset=2) (q2:f2.type=t1/\f2.offset=4) (q3:f3.type=t3/\f3.offset=6)
  (h0:P.underlying t0=some (.array 2 ti)) (hi:P.underlying ti=some (.slice 3)) (h1:P.underlying t1=some (.array 2 e1)) (he:P.underlying e1=some (.slice ti))
  (c1:P.cellsOf t0=2/\P.cellsOf t1=2/\P.cellsOf t3=6/\P.cellsOf ti=1/\P.cellsOf e1=1/\P.cellsOf 3=1/\P.cellsOf t=12) (hf:la9 P d t3=some (bb5 .i64 6)) (hf2:la9 P d 3=some (bb5 .i64 1))
  (hok:Value.okWide P w r bs t v) (h:DataW.Trod enc P w 0 spare held t v dd pp) :
  ∃avs:List c7,(Me6 avs=true/\Me7 avs=true)/\qa1 ρ H (de9 w) w (.agg avs) v:=by
 have hv:∃cs:Array Value,v=.agg cs/\cs.size=P.cellsOf t:=by
  unfold Value.okWide at hok;rw[ht] at hok;obtain⟨cs,h1,h2,_⟩:=hok;exact⟨cs,h1,h2⟩
 obtain⟨cs,rfl,hsz⟩:=hv;obtain⟨fuel,hx⟩:=h;have hx:DataW.trod enc P w 0 spare held fuel t cs.toList=some (dd,pp):=hx;obtain⟨k0,k1,k2,k3,k4,k5,k6⟩:=c1;obtain⟨_,fu,xs,_,_,hxs⟩:=Td8 ht hx;obtain⟨y0,_,g0⟩:=hxs 0 f0 rfl;obtain⟨y1,_,g1⟩:=hxs 1 f1 rfl;obtain⟨y2,_,g2⟩:=hxs 2 f2 rfl;obtain⟨y3,_,g3⟩:=hxs 3 f3 rfl;rw[q0.1,q0.2,k0] at g0;rw[q1.1,q1.2,k1] at g1;rw[q2.1,q2.2,k1] at g2;rw[q3.1,q3.2,k2] at g3;have hl:cs.toList.length=12:=by rw[Array.length_toList,hsz,k6]
 have sI:∀(f:Nat) (row:List Value) (y:DataW D×List MemPlace),DataW.trod enc P w 0 spare held f ti row=some y->row.length=1->Seg w (λa=>∃n get,a=[.tree 1 n get]/\n<=maxLen/\(tLs tI).ok a=true) row:=λf row y h _ =>
  Vd9 tI hi k5 (by decide) (λf row y h hl=>tf0 tI hf2 (λ_=>rfl) h hl) h
 have sJ:∀(f:Nat) (row:List Value) (y:DataW D×List MemPlace),DataW.trod enc P w 0 spare held f e1 row=some y->row.length=1->Seg w (λa=>∃n get,a=[.tree 1 n get]/\n<=maxLen/\(tLs (tLs tI)).ok a=true) row:=λf row y h _ =>
  Vd9 (tLs tI) he k3 (by decide) (λf row y h hl=>(sI f row y h hl).imp λa ha=>by obtain⟨_,_,rfl,_,h⟩:=ha;exact h) h
 have s0:=kd5 h0 k3 (by rw[k0]) sI g0
 have s1:=kd5 h1 k4 (by rw[k1]) sJ g1
 have s2:=kd5 h1 k4 (by rw[k1]) sJ g2
 have s3:Seg w (λa=>∃g,a=Ac5 .i64 6 g) ((cs.toList.drop 6).take 6):=by
  obtain⟨g,hg⟩:=Me5 hf g3 (by simp[hl])
  refine⟨Ac5 .i64 6 g,by simp[Ac5,hl],⟨g,rfl⟩,λi x v h1 h2=>?_⟩
  obtain⟨hi,rfl⟩:=Fd7 h1;rw[hg i hi] at h2;cases h2;exact se6 _ _
 have hS:=s0.app (s1.app (s2.app s3));have e:(cs.toList.drop 0).take 2++((cs.toList.drop 2).take 2++((cs.toList.drop 4).take 2++(cs.toList.drop 6).take 6))=cs.toList:=by
  match cs.toList,hl with
  |[_,_,_,_,_,_,_,_,_,_,_,_],_=>rfl
 rw[e] at hS;obtain⟨avs,p1,⟨_,_,rfl,⟨_,_,rfl,⟨n0,g0,rfl,_,o0⟩,n1,g1,rfl,_,o1⟩,_,_,rfl,⟨_,_,rfl,⟨n2,g2,rfl,_,o2⟩,n3,g3,rfl,_,o3⟩,_,_,rfl,⟨_,_,rfl,⟨n4,g4,rfl,_,o4⟩,n5,g5,rfl,_,o5⟩,g6,rfl⟩,p3⟩:=hS;refine⟨_,⟨?_,rfl⟩,.agg _ _ (p1.trans (by rw[Array.length_toList])) λi x x' h1 h2=>.mem (p3 i x x' h1 (by rw[Qbz];exact h2))⟩
 show Bool.and ((tLs tI).ok [.tree 1 n0 g0]) (Bool.and ((tLs tI).ok [.tree 1 n1 g1]) (Bool.and ((tLs (tLs tI)).ok [.tree 1 n2 g2]) (Bool.and ((tLs (tLs tI)).ok [.tree 1 n3 g3]) (Bool.and ((tLs (tLs tI)).ok [.tree 1 n4 g4]) (Bool.and ((tLs (tLs tI)).ok [.tree 1 n5 g5]) true)))))=true;rw[o0,o1,o2,o3,o4,o5];rfl
theorem tf2{avs:List c7}(h:Me6 avs=true/\Me7 avs=true):∃a:Cse,Rdg cF (.agg avs) a:=⟨tF.rd avs,by
 show Bool.rec (motive:=λ_=>Option Cse) none (some (tF.rd avs)) (Me7 avs)=_
 rw[h.2],h.1⟩
end
end Go.Ev.Ce
