/- Own work. -/
import Derived.Test.YtigadclidanicaaGreatEvOaEG
import Derived.ChangeStays
import Derived.ChangeSame
import Derived.OpenShut
import Derived.RowKit
set_option linter.all false
noncomputable section
def Qja:=@List.mem_singleton
def Qjb:=@Int.le_of_lt
def Qjc:=@Int.mul_nonneg
def Qjd:=@List.pairwise_cons
def Qje:=@Int.mul_pos
def Qjf:=@Int.mul_eq_zero
def Qjg:=@Option.bind_eq_some_iff
def Qjh:=@List.pairwise_singleton
def Qji:=@Int.natCast_dvd_natCast
def Qjj:=@Int.mul_le_mul_of_nonneg_right
def Qjk:=@Nat.gcd_dvd_right
def Qjl:=@Nat.gcd_dvd_left
def Qjm:=@Int.zero_mul
def Qjn:=@Int.dvd_natAbs
def Qjo:=@Nat.dvd_trans
def Qjp:=@Int.mul_pos_of_neg_of_neg
def Qjq:=@Nat.not_lt_zero
def Qjr:=@List.getElem?_range
def Qjs:=@Int.le_refl
namespace Go.Ev.Ce
open Go Go.Ev Go.Ev.L Go.Proofs
set_option maxRecDepth 100000
def Ac2:List (Nat×Sum):=[(73,qb5)]
theorem rd5:C6 prog G Ac2:=⟨Ab1,trivial⟩
structure Ma3 where
 Ec0:LPq
 N7:Int
structure aa8 where
 D6:Int
def gc2(p:Ma3)(s:aa8):St:=⟨ra 9 (eL tLq p.Ec0::i p.N7::i s.D6::ra 9 []),[]⟩
def Qa3{α:Type}(k:aa8->α)(e:Nat->α)(z:α)(p:Ma3)(s:aa8):α:=let y0:=(gL tLq p.Ec0 s.D6.toNat);let t1:=(ea0 (rt tP y0));(sl (decide (s.D6<p.N7)) (sl (inB s.D6 (List.length p.Ec0)) (sl (okE tP y0) (sl (Ia6 (rt tP y0)) (sl (t1 != 0) (e 1) (k ⟨W (s.D6+1)⟩)) z) z) z) (e 2))
def Fa7(p:Ma3)(s:aa8):Stp aa8:=Qa3 .next .exit .fail p s
def Hb7:Lo Ma3 aa8:=⟨En Ac2,0,ag8,[1,1,0,1,4,4],[9,10,11],.p,[⟨ru2 9 (sLq tLq::sIq::sIq::ru2 9 []),[],λa H=>(⟨aLq tLq a 9,aIq a 10⟩,⟨aIq a 11⟩)⟩],Fa7,[(none,λp s=>let t1:=(ea0 (rt tP (gL tLq p.Ec0 s.D6.toNat)));⟨[i t1],[]⟩),(some 0,λp s=>upq (gc2 p s) [(12,b (decide (s.D6<p.N7)))])],gc2⟩
theorem hd7:Hb7.Ok:=Lo.okq [] .nil λp s=>(.ofq @Qa3)
def eb7(x:LPq):ROq:=let t1:=(lp (Fa7 (⟨rt tLq x,(↑(List.length x):Int)⟩:Ma3)) (⟨0⟩:aa8));let t2:=(ea0 (rt tP (gL tLq (rt tLq x) t1.2.D6.toNat)));(sl (decide ((↑(List.length x):Int)>16)) (some (i 2,[])) (sl ((cnE tLq x)&&true) (sl (Nat.beq t1.1 1) (some (i t2,[])) (sl (Nat.beq t1.1 2) (some (i 0,[])) none)) none))
def Ab5(x:LPq):Int:=aa3 (one r1I) (eb7 x)
def Ab6(x:LPq):Bool:=okO (one r1I) (eb7 x)
def Mc3:Sum:=ba7 (pa5 tLq) (λx=>.guard (Ab6 x) (.ret ((one r1I).enc (Ab5 x),[])))
theorem Fd2:l8 prog G 86 Mc3:=dd5 (bd b86 rd5) (one r1I) (o:=eb7) λx=>da5 (.s .p (.s .p (.s (.s .p (.b (.u Hb7.ls))) .p))) [Hb7.pr] (.cons hd7 .nil)
@[reducible] noncomputable def Mc4:Sum:=Vb8 (En tbN) Jf1
theorem Fd3:l8 prog G 112 Mc4:=bd ng3 Aa9
def yb1:List (Nat×Sum):=[(39,Ta5),(87,mc8),(28,rb4),(134,Yc0),(79,Oa6),(112,Mc4)]
theorem Zc4:C6 prog G yb1:=⟨Ya3,Mc2,Ab3,Ld5,qb9,Fd3,trivial⟩
structure H7 where
 K1:PLq
 N7:Int
 (ge1 ge2:PLq)
 vd7:LPq
 (Hf1 Hf2:Int)
structure o9 where
 ph:Nat
 mb3:PLq
 D6:Int
 K9:Nat
 eh3:List (List c7)
def Jb6(p:H7)(s:o9):St:=⟨ra 4 (eL tP s.mb3::ra 4 (eL tP p.K1::i p.N7::i s.D6::ra 31 (i 0::.unk::eL tP p.ge1::.unk::.unk::.ptr 0 0 0 0::.ptr 1 0 0 0::eL tP p.ge2::.ptr 2 0 0 0::ra 9 (eL tLq p.vd7::i p.Hf1::i p.Hf2::ra 25 [])))),[bq 0 1 [[nlq]],bq 0 1 [[i 0]],bq 0 0 [[nlq]]]⟩
def Jb7(p:H7)(s:o9):St:=⟨ra 4 (eL tP s.mb3::ra 4 (eL tP p.K1::i p.N7::i s.D6::ra 31 (i 0::.unk::eL tP p.ge1::.unk::.unk::.ptr 0 0 0 0::.ptr 1 0 0 0::eL tP p.ge2::.ptr 2 0 0 0::ra 9 (eL tLq p.vd7::i p.Hf1::i p.Hf2::ra 25 [])))),[bq 0 1 [[nlq]],bq 0 1 [[i 0]],bq 0 0 [[.sl 3 0 s.K9 0]],bq 35 1 s.eh3]⟩
def Qc5(p:H7)(s:o9):St:=(sel (Nat.beq s.ph 1) (Jb7 p s) (Jb6 p s))
def K5{α:Type}(k:o9->α)(e:Nat->α)(z:α)(p:H7)(s:o9):α:=let y5:=(W7 []);let y2:=(W (s.D6+1));let y1:=((okE tP s.mb3)&&true);let t1:=(rb7 (gL tP p.K1 s.D6.toNat));let t2:=(F4 [rt tP s.mb3,[t1]]);let t3:=(W6 []);let y3:=(↑(List.length t3):Int);let t4:=(F4 [rt tP s.mb3,[gL tP p.K1 s.D6.toNat]]);let y8:=(Nat.beq t4.alt 2);let y7:=(Nat.beq t4.alt 1);let y6:=(okS tP t4.eh0 0 t4.ns0);let y0:=(W7 (slR tP t4.eh0 0 t4.ns0));let t5:=(W6 (slR tP t4.eh0 0 t4.ns0));let t6:=(W6 (slR tP t2.eh0 0 t2.ns0));let y4:=(↑(List.length t6):Int);let w0:α:=(sl y1 (sl y7 (sl y5 (k ⟨0,t3,y2,0,[]⟩) z) (sl y8 (sl y6 (sl y0 (k ⟨0,t5,y2,0,[]⟩) z) z) z)) z);(sl (decide (s.D6<p.N7)) (sl (inB s.D6 (List.length p.K1)) (sl (decide ((↑(List.length s.mb3):Int)>=48)) (e 1) (sl y1 (sl (Nat.beq t2.alt 1) (sl y5 (sl (decide (y3>0)) (sl (decide (y3>0)) (sl ((!(Nat.beq (List.length t3) 0))&&true) (sl y1 (sl y7 (sl y5 (k ⟨1,t3,y2,1,[[eL tP t3]]⟩) z) (sl y8 (sl y6 (sl y0 (k ⟨1,t5,y2,1,[[eL tP t3]]⟩) z) z) z)) z) z) w0) (sl (decide (y3>0)) z w0)) z) (sl (Nat.beq t2.alt 2) (sl (okS tP t2.eh0 0 t2.ns0) (sl (W7 (slR tP t2.eh0 0 t2.ns0)) (sl (decide (y4>0)) (sl (decide (y4>0)) (sl ((!(Nat.beq (List.length t6) 0))&&true) (sl y1 (sl y7 (sl y5 (k ⟨1,t3,y2,1,[[eL tP t6]]⟩) z) (sl y8 (sl y6 (sl y0 (k ⟨1,t5,y2,1,[[eL tP t6]]⟩) z) z) z)) z) z) w0) (sl (decide (y4>0)) z w0)) z) z) z)) z)) z) (e 2))
def K6{α:Type}(k:o9->α)(e:Nat->α)(z:α)(p:H7)(s:o9):α:=let y6:=(W7 []);let y3:=(W (s.D6+1));let y2:=(Nat.beq s.K9 (len s.eh3)&&Nat.ble ((s.K9+1)*24) room);let y1:=((okE tP s.mb3)&&true);let t1:=(rb7 (gL tP p.K1 s.D6.toNat));let t2:=(F4 [rt tP s.mb3,[t1]]);let t3:=(W6 []);let y4:=(↑(List.length t3):Int);let t4:=(F4 [rt tP s.mb3,[gL tP p.K1 s.D6.toNat]]);let y9:=(Nat.beq t4.alt 2);let y8:=(Nat.beq t4.alt 1);let y7:=(okS tP t4.eh0 0 t4.ns0);let y0:=(W7 (slR tP t4.eh0 0 t4.ns0));let t5:=(W6 (slR tP t4.eh0 0 t4.ns0));let t6:=(W6 (slR tP t2.eh0 0 t2.ns0));let y5:=(↑(List.length t6):Int);let w0:α:=(sl y1 (sl y8 (sl y6 (k ⟨1,t3,y3,s.K9,s.eh3⟩) z) (sl y9 (sl y7 (sl y0 (k ⟨1,t5,y3,s.K9,s.eh3⟩) z) z) z)) z);(sl (decide (s.D6<p.N7)) (sl (inB s.D6 (List.length p.K1)) (sl (decide ((↑(List.length s.mb3):Int)>=48)) (e 3) (sl y1 (sl (Nat.beq t2.alt 1) (sl y6 (sl (decide (y4>0)) (sl (decide (y4>0)) (sl ((!(Nat.beq (List.length t3) 0))&&true) (sl y2 (sl y1 (sl y8 (sl y6 (k ⟨1,t3,y3,s.K9+1,app s.eh3 [[eL tP t3]]⟩) z) (sl y9 (sl y7 (sl y0 (k ⟨1,t5,y3,s.K9+1,app s.eh3 [[eL tP t3]]⟩) z) z) z)) z) z) z) w0) (sl (decide (y4>0)) z w0)) z) (sl (Nat.beq t2.alt 2) (sl (okS tP t2.eh0 0 t2.ns0) (sl (W7 (slR tP t2.eh0 0 t2.ns0)) (sl (decide (y5>0)) (sl (decide (y5>0)) (sl ((!(Nat.beq (List.length t6) 0))&&true) (sl y2 (sl y1 (sl y8 (sl y6 (k ⟨1,t3,y3,s.K9+1,app s.eh3 [[eL tP t6]]⟩) z) (sl y9 (sl y7 (sl y0 (k ⟨1,t5,y3,s.K9+1,app s.eh3 [[eL tP t6]]⟩) z) z) z)) z) z) z) w0) (sl (decide (y5>0)) z w0)) z) z) z)) z)) z) (e 4))
def A4(p:H7)(s:o9):Stp o9:=(sel (Nat.beq s.ph 1) (K6 .next .exit .fail p s) (K5 .next .exit .fail p s))
def sb4:Lo H7 o9:=⟨En yb1,0,Rf3,[1,1,1,1,0,1,4,4,1,1,0,4,1,1,1,4,4,1,1,4,4],[4,9,10,11,43,45,48,49,50,51,61,62,63],.p,[⟨ru2 4 (sLq tP::ru2 4 (sLq tP::sIq::sIq::ru2 31 (.s (.o (.lit .i64 0))::sUq::sLq tP::sUq::sUq::sPq 0::sPq 1::sLq tP::sPq 2::ru2 9 (sLq tLq::sIq::sIq::ru2 25 [])))),[⟨0,1,true,some [[.o .nil]]⟩,⟨0,1,true,some [[.o (.lit .i64 0)]]⟩,⟨0,0,true,some [[.o .nil]]⟩],λa H=>(⟨aLq tP a 9,aIq a 10,aLq tP a 45,aLq tP a 50,aLq tLq a 61,aIq a 62,aIq a 63⟩,⟨0,aLq tP a 4,aIq a 11,0,[]⟩)⟩,⟨ru2 4 (sLq tP::ru2 4 (sLq tP::sIq::sIq::ru2 31 (.s (.o (.lit .i64 0))::sUq::sLq tP::sUq::sUq::sPq 0::sPq 1::sLq tP::sPq 2::ru2 9 (sLq tLq::sIq::sIq::ru2 25 [])))),[⟨0,1,true,some [[.o .nil]]⟩,⟨0,1,true,some [[.o (.lit .i64 0)]]⟩,⟨0,0,true,some [[.o (.sl 3 0 (some 0) none)]]⟩,⟨35,1,true,none⟩],λa H=>(⟨aLq tP a 9,aIq a 10,aLq tP a 45,aLq tP a 50,aLq tLq a 61,aIq a 62,aIq a 63⟩,⟨1,aLq tP a 4,aIq a 11,slN (slT (rwT (elT H 2) 0) 0),elT H 3⟩)⟩],A4,[(none,λp s=>⟨ra 4 (eL tP s.mb3::.unk::.ptr 3 0 0 0::.unk::.unk::eL tP p.K1::i p.N7::i s.D6::b (decide (s.D6<p.N7))::.tptr [i (gL tP p.K1 s.D6.toNat).n.x,i (gL tP p.K1 s.D6.toNat).n.y,i (gL tP p.K1 s.D6.toNat).n.z,i (gL tP p.K1 s.D6.toNat).b]::.agg [i (gL tP p.K1 s.D6.toNat).n.x,i (gL tP p.K1 s.D6.toNat).n.y,i (gL tP p.K1 s.D6.toNat).n.z,i (gL tP p.K1 s.D6.toNat).b]::eL tP s.mb3::i (↑(List.length s.mb3):Int)::b (decide ((↑(List.length s.mb3):Int)>=48))::.unk::b false::ra 23 (i 1::.unk::eL tP p.ge1::.unk::.unk::.ptr 0 0 0 0::.ptr 1 0 0 0::eL tP p.ge2::.ptr 2 0 0 0::ra 9 (eL tLq p.vd7::i p.Hf1::i p.Hf2::ra 25 []))),[bq 0 1 [[nlq]],bq 0 1 [[i 9]],bq 0 0 [[nlq]],bq 0 4 [[i (gL tP p.K1 s.D6.toNat).n.x,i (gL tP p.K1 s.D6.toNat).n.y,i (gL tP p.K1 s.D6.toNat).n.z,i (gL tP p.K1 s.D6.toNat).b]]]⟩),(some 0,λp s=>upq (Jb6 p s) [(12,b (decide (s.D6<p.N7)))]),(none,λp s=>⟨ra 4 (eL tP s.mb3::.unk::.ptr 4 0 0 0::.unk::.unk::eL tP p.K1::i p.N7::i s.D6::b (decide (s.D6<p.N7))::.tptr [i (gL tP p.K1 s.D6.toNat).n.x,i (gL tP p.K1 s.D6.toNat).n.y,i (gL tP p.K1 s.D6.toNat).n.z,i (gL tP p.K1 s.D6.toNat).b]::.agg [i (gL tP p.K1 s.D6.toNat).n.x,i (gL tP p.K1 s.D6.toNat).n.y,i (gL tP p.K1 s.D6.toNat).n.z,i (gL tP p.K1 s.D6.toNat).b]::eL tP s.mb3::i (↑(List.length s.mb3):Int)::b (decide ((↑(List.length s.mb3):Int)>=48))::.unk::b false::ra 23 (i 1::.unk::eL tP p.ge1::.unk::.unk::.ptr 0 0 0 0::.ptr 1 0 0 0::eL tP p.ge2::.ptr 2 0 0 0::ra 9 (eL tLq p.vd7::i p.Hf1::i p.Hf2::ra 25 []))),[bq 0 1 [[nlq]],bq 0 1 [[i 9]],bq 0 0 [[.sl 3 0 s.K9 0]],bq 35 1 s.eh3,bq 0 4 [[i (gL tP p.K1 s.D6.toNat).n.x,i (gL tP p.K1 s.D6.toNat).n.y,i (gL tP p.K1 s.D6.toNat).n.z,i (gL tP p.K1 s.D6.toNat).b]]]⟩),(some 0,λp s=>upq (Jb7 p s) [(12,b (decide (s.D6<p.N7)))])],Qc5⟩
theorem Qc6:sb4.OkM:=Lo.okMq [] .nil λp s=>(.sel (Nat.beq s.ph 1) (.ofq @K6) (.ofq @K5))
structure Z0 where
 Na0:Int
structure C0 where
 ph:Nat
 (da0 R9:PLq)
 ca9:LPq
 mb7:Int
 K9:Nat
 eh3:List (List c7)
def Jb8(p:Z0)(s:C0):St:=⟨.unk::eL tP s.da0::.unk::.unk::.ptr 0 0 0 0::.ptr 1 0 0 0::eL tP s.R9::.ptr 2 0 0 0::ra 9 (eL tLq s.ca9::i p.Na0::i s.mb7::ra 25 []),[bq 0 1 [[nlq]],bq 0 1 [[i 0]],bq 0 0 [[nlq]]]⟩
def Jb9(p:Z0)(s:C0):St:=⟨.unk::eL tP s.da0::.unk::.unk::.ptr 0 0 0 0::.ptr 1 0 0 0::eL tP s.R9::.ptr 2 0 0 0::ra 9 (eL tLq s.ca9::i p.Na0::i s.mb7::ra 25 []),[bq 0 1 [[nlq]],bq 0 1 [[i 0]],bq 0 0 [[.sl 3 0 s.K9 0]],bq 35 1 s.eh3]⟩
def Qc7(p:Z0)(s:C0):St:=(sel (Nat.beq s.ph 1) (Jb9 p s) (Jb8 p s))
def C9{α:Type}(k:C0->α)(e:Nat->α)(z:α)(p:Z0)(s:C0):α:=let y1:=(rt tLq s.ca9);let y0:=(gL tLq s.ca9 s.mb7.toNat);let t1:=(ra6 (rt tP y0) (rt tP s.da0));let t2:=(lp (A4 (⟨rt tP s.R9,(↑(List.length s.R9):Int),rt tP s.da0,rt tP s.R9,y1,p.Na0,s.mb7⟩:H7)) (⟨0,rt tP y0,0,0,[]⟩:o9));(sl (decide (s.mb7<p.Na0)) (sl (inB s.mb7 (List.length s.ca9)) (sl (okE tP y0) (sl (okE tP s.da0) (sl (ra7 (rt tP y0) (rt tP s.da0)) (sl t1 (k ⟨1,s.da0,s.R9,s.ca9,W (s.mb7+1),1,[[eL tP y0]]⟩) (sl ((cnE tP y0)&&((cnE tP s.R9)&&((cnE tP s.da0)&&((cnE tP s.R9)&&((cnE tLq s.ca9)&&true))))) (sl (Nat.beq t2.1 1) (e 1) (sl (Nat.beq t2.1 2) (k ⟨0,rt tP s.da0,rt tP s.R9,y1,W (s.mb7+1),0,[]⟩) (sl (Nat.beq t2.1 3) (e 2) (sl (Nat.beq t2.1 4) (k ⟨1,rt tP s.da0,rt tP s.R9,y1,W (s.mb7+1),t2.2.K9,t2.2.eh3⟩) z)))) z)) z) z) z) z) (e 3))
def F9{α:Type}(k:C0->α)(e:Nat->α)(z:α)(p:Z0)(s:C0):α:=let y1:=(rt tLq s.ca9);let y0:=(gL tLq s.ca9 s.mb7.toNat);let t1:=(ra6 (rt tP y0) (rt tP s.da0));let t2:=(lp (A4 (⟨rt tP s.R9,(↑(List.length s.R9):Int),rt tP s.da0,rt tP s.R9,y1,p.Na0,s.mb7⟩:H7)) (⟨1,rt tP y0,0,s.K9,s.eh3⟩:o9));(sl (decide (s.mb7<p.Na0)) (sl (inB s.mb7 (List.length s.ca9)) (sl (okE tP y0) (sl (okE tP s.da0) (sl (ra7 (rt tP y0) (rt tP s.da0)) (sl t1 (sl (Nat.beq s.K9 (len s.eh3)&&Nat.ble ((s.K9+1)*24) room) (k ⟨1,s.da0,s.R9,s.ca9,W (s.mb7+1),s.K9+1,app s.eh3 [[eL tP y0]]⟩) z) (sl ((cnE tP y0)&&((cnE tP s.R9)&&((cnE tP s.da0)&&((cnE tP s.R9)&&((cnE tLq s.ca9)&&true))))) (sl (Nat.beq t2.1 1) (e 4) (sl (Nat.beq t2.1 2) (k ⟨0,rt tP s.da0,rt tP s.R9,y1,W (s.mb7+1),0,[]⟩) (sl (Nat.beq t2.1 3) (e 5) (sl (Nat.beq t2.1 4) (k ⟨1,rt tP s.da0,rt tP s.R9,y1,W (s.mb7+1),t2.2.K9,t2.2.eh3⟩) z)))) z)) z) z) z) z) (e 6))
def F7(p:Z0)(s:C0):Stp C0:=(sel (Nat.beq s.ph 1) (F9 .next .exit .fail p s) (C9 .next .exit .fail p s))
def sb5:Lo Z0 C0:=⟨En yb1,0,Rf3,[1,1,1,1,0,1,4,4],[1,4,5,6,7,17,18,19],.s .p (.s .p (.s (.b (.s .p (.s .p (.s .p (.b (.i (.s .p (.s .p (.b (.u sb4.lsM)))))))))) .p)),[⟨sUq::sLq tP::sUq::sUq::sPq 0::sPq 1::sLq tP::sPq 2::ru2 9 (sLq tLq::sIq::sIq::ru2 25 []),[⟨0,1,true,some [[.o .nil]]⟩,⟨0,1,true,some [[.o (.lit .i64 0)]]⟩,⟨0,0,true,some [[.o .nil]]⟩],λa H=>(⟨aIq a 18⟩,⟨0,aLq tP a 1,aLq tP a 6,aLq tLq a 17,aIq a 19,0,[]⟩)⟩,⟨sUq::sLq tP::sUq::sUq::sPq 0::sPq 1::sLq tP::sPq 2::ru2 9 (sLq tLq::sIq::sIq::ru2 25 []),[⟨0,1,true,some [[.o .nil]]⟩,⟨0,1,true,some [[.o (.lit .i64 0)]]⟩,⟨0,0,true,some [[.o (.sl 3 0 (some 0) none)]]⟩,⟨35,1,true,none⟩],λa H=>(⟨aIq a 18⟩,⟨1,aLq tP a 1,aLq tP a 6,aLq tLq a 17,aIq a 19,slN (slT (rwT (elT H 2) 0) 0),elT H 3⟩)⟩],F7,[(none,λp s=>let t2:=(lp (A4 (⟨rt tP s.R9,(↑(List.length s.R9):Int),rt tP s.da0,rt tP s.R9,rt tLq s.ca9,p.Na0,s.mb7⟩:H7)) (⟨0,rt tP (gL tLq s.ca9 s.mb7.toNat),0,0,[]⟩:o9));⟨.unk::eL tP (rt tP s.da0)::.unk::.unk::.ptr 0 0 0 0::.ptr 1 0 0 0::eL tP (rt tP s.R9)::.ptr 2 0 0 0::ra 9 (eL tLq (rt tLq s.ca9)::i p.Na0::i s.mb7::ra 25 []),[bq 0 1 [[nlq]],bq 0 1 [[i 9]],bq 0 0 [[nlq]],bq 0 4 [[i (gL tP (rt tP s.R9) t2.2.D6.toNat).n.x,i (gL tP (rt tP s.R9) t2.2.D6.toNat).n.y,i (gL tP (rt tP s.R9) t2.2.D6.toNat).n.z,i (gL tP (rt tP s.R9) t2.2.D6.toNat).b]]]⟩),(none,λp s=>let t2:=(lp (A4 (⟨rt tP s.R9,(↑(List.length s.R9):Int),rt tP s.da0,rt tP s.R9,rt tLq s.ca9,p.Na0,s.mb7⟩:H7)) (⟨0,rt tP (gL tLq s.ca9 s.mb7.toNat),0,0,[]⟩:o9));⟨.unk::eL tP (rt tP s.da0)::.unk::.unk::.ptr 0 0 0 0::.ptr 1 0 0 0::eL tP (rt tP s.R9)::.ptr 2 0 0 0::ra 9 (eL tLq (rt tLq s.ca9)::i p.Na0::i s.mb7::ra 25 []),[bq 0 1 [[nlq]],bq 0 1 [[i 9]],bq 0 0 [[.sl 3 0 t2.2.K9 0]],bq 35 1 t2.2.eh3,bq 0 4 [[i (gL tP (rt tP s.R9) t2.2.D6.toNat).n.x,i (gL tP (rt tP s.R9) t2.2.D6.toNat).n.y,i (gL tP (rt tP s.R9) t2.2.D6.toNat).n.z,i (gL tP (rt tP s.R9) t2.2.D6.toNat).b]]]⟩),(some 0,λp s=>upq (Jb8 p s) [(20,b (decide (s.mb7<p.Na0)))]),(none,λp s=>let t2:=(lp (A4 (⟨rt tP s.R9,(↑(List.length s.R9):Int),rt tP s.da0,rt tP s.R9,rt tLq s.ca9,p.Na0,s.mb7⟩:H7)) (⟨1,rt tP (gL tLq s.ca9 s.mb7.toNat),0,s.K9,s.eh3⟩:o9));⟨.unk::eL tP (rt tP s.da0)::.unk::.unk::.ptr 0 0 0 0::.ptr 1 0 0 0::eL tP (rt tP s.R9)::.ptr 2 0 0 0::ra 9 (eL tLq (rt tLq s.ca9)::i p.Na0::i s.mb7::ra 25 []),[bq 0 1 [[nlq]],bq 0 1 [[i 9]],bq 0 0 [[nlq]],bq 0 4 [[i (gL tP (rt tP s.R9) t2.2.D6.toNat).n.x,i (gL tP (rt tP s.R9) t2.2.D6.toNat).n.y,i (gL tP (rt tP s.R9) t2.2.D6.toNat).n.z,i (gL tP (rt tP s.R9) t2.2.D6.toNat).b]]]⟩),(none,λp s=>let t2:=(lp (A4 (⟨rt tP s.R9,(↑(List.length s.R9):Int),rt tP s.da0,rt tP s.R9,rt tLq s.ca9,p.Na0,s.mb7⟩:H7)) (⟨1,rt tP (gL tLq s.ca9 s.mb7.toNat),0,s.K9,s.eh3⟩:o9));⟨.unk::eL tP (rt tP s.da0)::.unk::.unk::.ptr 0 0 0 0::.ptr 1 0 0 0::eL tP (rt tP s.R9)::.ptr 2 0 0 0::ra 9 (eL tLq (rt tLq s.ca9)::i p.Na0::i s.mb7::ra 25 []),[bq 0 1 [[nlq]],bq 0 1 [[i 9]],bq 0 0 [[.sl 3 0 t2.2.K9 0]],bq 35 1 t2.2.eh3,bq 0 4 [[i (gL tP (rt tP s.R9) t2.2.D6.toNat).n.x,i (gL tP (rt tP s.R9) t2.2.D6.toNat).n.y,i (gL tP (rt tP s.R9) t2.2.D6.toNat).n.z,i (gL tP (rt tP s.R9) t2.2.D6.toNat).b]]]⟩),(some 0,λp s=>upq (Jb9 p s) [(20,b (decide (s.mb7<p.Na0)))])],Qc7⟩
theorem Qc8:sb5.OkM:=Lo.okMq [sb4.prM] (.cons Qc6 .nil) λp s=>(.sel (Nat.beq s.ph 1) (.ofq @F9) (.ofq @C9))
def Ma4(x:LPq)(y:PLq):ROq:=let y0:=(.tup [nlq,i 9],[]);let t1:=(za8 (rt tP y));let t2:=(W6 (rt tP y));let t3:=(lp (F7 (⟨(↑(List.length x):Int)⟩:Z0)) (⟨0,rt tP y,rt tP t2,rt tLq x,0,0,[]⟩:C0));(sl (okE tP y) (sl (za9 (rt tP y)) (sl (!t1) (some (.tup [eL tLq x,i 0],[])) (sl (okE tP y) (sl (W7 (rt tP y)) (sl ((cnE tP y)&&((cnE tP t2)&&((cnE tLq x)&&true))) (sl (Nat.beq t3.1 1) (some y0) (sl (Nat.beq t3.1 2) (some y0) (sl (Nat.beq t3.1 3) (some (.tup [nlq,i 0],[])) (sl (Nat.beq t3.1 4) (some y0) (sl (Nat.beq t3.1 5) (some y0) (sl (Nat.beq t3.1 6) (sl (decide ((↑t3.2.K9:Int)>200)) (some y0) (some ((.tup [(.tree 1 t3.2.K9 (λk=>g8 t3.2.eh3 (0+k))),i 0]),[]))) none)))))) none) none) none)) none) none)
def ha1(x:LPq)(y:PLq):LPq×Int:=aa3 (two (r1L tLq) r1I) (Ma4 x y)
def gb5(x:LPq)(y:PLq):Bool:=okO (two (r1L tLq) r1I) (Ma4 x y)
def rc5:Sum:=va4 (pa5 tLq) (pa5 tP) (λx y=>.guard (gb5 x y) (.ret ((two (r1L tLq) r1I).enc (ha1 x y),[])))
theorem hd8:l8 prog G 88 rc5:=pd9 (bd b88 Zc4) (two (r1L tLq) r1I) (o:=Ma4) λx y=>Bd4 (.s .p (.s .p (.s .p (.s .p (.s (.s .p (.b (.u sb5.lsM))) .p))))) [sb5.prM] (.cons Qc8 .nil)
def Ac3:List (Nat×Sum):=[(73,qb5),(86,Mc3),(39,Ta5),(87,mc8),(88,rc5)]
theorem rd6:C6 prog G Ac3:=⟨Ab1,Fd2,Ya3,Mc2,hd8,trivial⟩
structure ha2 where
 Yb9:LPq
 uc2:Int
 g7:PLq
structure I5 where
 ph:Nat
 Ec1:Int
 ia9:LPq
def Yb4(p:ha2)(s:I5):St:=⟨ra 8 (.sl 0 0 1 0::ra 19 (eL tLq p.Yb9::i p.uc2::i s.Ec1::ra 14 [])),[bq 35 1 [[eL tP p.g7]]]⟩
def Yb5(p:ha2)(s:I5):St:=⟨ra 8 (eL tLq s.ia9::ra 19 (eL tLq p.Yb9::i p.uc2::i s.Ec1::ra 14 [])),[]⟩
def hd9(p:ha2)(s:I5):St:=(sel (Nat.beq s.ph 1) (Yb5 p s) (Yb4 p s))
def Z1{α:Type}(k:I5->α)(e:Nat->α)(z:α)(p:ha2)(s:I5):α:=let y0:=(gL tLq p.Yb9 s.Ec1.toNat);let t1:=(ha1 [rt tP p.g7] (rt tP y0));(sl (decide (s.Ec1<p.uc2)) (sl (inB s.Ec1 (List.length p.Yb9)) (sl ((okE tP p.g7)&&true) (sl (okE tP y0) (sl (gb5 [rt tP p.g7] (rt tP y0)) (sl (t1.2 != 0) (e 1) (k ⟨1,W (s.Ec1+1),t1.1⟩)) z) z) z) z) (e 2))
def Z2{α:Type}(k:I5->α)(e:Nat->α)(z:α)(p:ha2)(s:I5):α:=let y0:=(gL tLq p.Yb9 s.Ec1.toNat);let t1:=(ha1 (rt tLq s.ia9) (rt tP y0));(sl (decide (s.Ec1<p.uc2)) (sl (inB s.Ec1 (List.length p.Yb9)) (sl (okE tLq s.ia9) (sl (okE tP y0) (sl (gb5 (rt tLq s.ia9) (rt tP y0)) (sl (t1.2 != 0) (e 3) (k ⟨1,W (s.Ec1+1),t1.1⟩)) z) z) z) z) (e 4))
def R6(p:ha2)(s:I5):Stp I5:=(sel (Nat.beq s.ph 1) (Z2 .next .exit .fail p s) (Z1 .next .exit .fail p s))
def Hb8:Lo ha2 I5:=⟨En Ac3,0,ag5,[1,1,1,1,1,0,1,4,4],[8,28,29,30],.p,[⟨ru2 8 (.s (.o (.sl 0 0 (some 0) (some 1)))::ru2 19 (sLq tLq::sIq::sIq::ru2 14 [])),[⟨35,1,true,some [[.c 4 (nL tP)]]⟩],λa H=>(⟨aLq tLq a 28,aIq a 29,hLq tP H 0 0 0⟩,⟨0,aIq a 30,[]⟩)⟩,⟨ru2 8 (sLq tLq::ru2 19 (sLq tLq::sIq::sIq::ru2 14 [])),[],λa H=>(⟨aLq tLq a 28,aIq a 29,[]⟩,⟨1,aIq a 30,aLq tLq a 8⟩)⟩],R6,[(none,λp s=>let t1:=(ha1 [rt tP p.g7] (rt tP (gL tLq p.Yb9 s.Ec1.toNat)));⟨[.tup [nlq,i t1.2]],[]⟩),(some 0,λp s=>upq (Yb4 p s) [(31,b (decide (s.Ec1<p.uc2)))]),(none,λp s=>let t1:=(ha1 (rt tLq s.ia9) (rt tP (gL tLq p.Yb9 s.Ec1.toNat)));⟨[.tup [nlq,i t1.2]],[]⟩),(some 0,λp s=>upq (Yb5 p s) [(31,b (decide (s.Ec1<p.uc2)))])],hd9⟩
theorem id3:Hb8.Ok:=Lo.okq [] .nil λp s=>(.sel (Nat.beq s.ph 1) (.ofq @Z2) (.ofq @Z1))
def eb8(x:PLq)(y:LPq):ROq:=let t1:=(ea0 (rt tP x));let t2:=(Ab5 (rt tLq y));let t3:=(za8 (rt tP x));let t4:=(W6 (rt tP x));let t5:=(lp (R6 (⟨rt tLq y,(↑(List.length y):Int),rt tP t4⟩:ha2)) (⟨0,0,[]⟩:I5));let y0:=(rt tP (gL tLq (rt tLq y) t5.2.Ec1.toNat));let t6:=(ha1 [rt tP (rt tP t4)] y0);let t7:=(ha1 (rt tLq t5.2.ia9) y0);(sl (okE tP x) (sl (Ia6 (rt tP x)) (sl (t1 != 0) (some (.tup [nlq,i t1],[])) (sl (okE tLq y) (sl (Ab6 (rt tLq y)) (sl (t2 != 0) (some (.tup [nlq,i t2],[])) (sl (okE tP x) (sl (za9 (rt tP x)) (sl (!t3) (some (.tup [nlq,i 0],[])) (sl (okE tP x) (sl (W7 (rt tP x)) (sl ((cnE tLq y)&&((cnE tP t4)&&true)) (sl (Nat.beq t5.1 1) (some (.tup [nlq,i t6.2],[])) (sl (Nat.beq t5.1 2) (some (.tup [.sl 0 0 1 0,i 0],[bq 35 1 [[eL tP (rt tP t4)]]])) (sl (Nat.beq t5.1 3) (some (.tup [nlq,i t7.2],[])) (sl (Nat.beq t5.1 4) (some (.tup [eL tLq t5.2.ia9,i 0],[])) none)))) none) none) none)) none) none)) none) none)) none) none)
def cc2(x:PLq)(y:LPq):LPq×Int:=aa3 (two (r1L tLq) r1I) (eb8 x y)
def cc3(x:PLq)(y:LPq):Bool:=okO (two (r1L tLq) r1I) (eb8 x y)
def Mc5:Sum:=va4 (pa5 tP) (pa5 tLq) (λx y=>.guard (cc3 x y) (.ret ((two (r1L tLq) r1I).enc (cc2 x y),[])))
theorem Fd4:l8 prog G 66 Mc5:=pd9 (bd b66 rd6) (two (r1L tLq) r1I) (o:=eb8) λx y=>da5 (.s .p (.s .p (.s .p (.s .p (.s .p (.s (.s .p (.b (.u Hb8.ls))) .p)))))) [Hb8.pr] (.cons id3 .nil)
def rd7:List (Nat×Sum):=[(66,Mc5)]
theorem id4:C6 prog G rd7:=⟨Fd4,trivial⟩
def Ua7(x:LPq)(y:PLq):ROq:=let t1:=(cc2 (rt tP y) (rt tLq x));(sl (okE tP y) (sl (okE tLq x) (sl (cc3 (rt tP y) (rt tLq x)) (sl (t1.2==0) (some (.tup [b ((↑(List.length t1.1):Int)==0),i t1.2],[])) (some (.tup [b false,i t1.2],[]))) none) none) none)
def s4(x:LPq)(y:PLq):Bool×Int:=aa3 (two r1B r1I) (Ua7 x y)
def K0(x:LPq)(y:PLq):Bool:=okO (two r1B r1I) (Ua7 x y)
def Sb1:Sum:=va4 (pa5 tLq) (pa5 tP) (λx y=>.guard (K0 x y) (.ret ((two r1B r1I).enc (s4 x y),[])))
theorem rc6:l8 prog G 29 Sb1:=xc8 (bd b29 id4) (two r1B r1I) (o:=Ua7)
structure Hb9 where
 (j6 g7:PLq)
def id5:List (Nat×Sum):=[(28,rb4)]
theorem Zc5:C6 prog G id5:=⟨Ab3,trivial⟩
def Ib1{α:Type}(kk:na5->α)(x:Hb9):α:=let t1:=(ra6 (rt tP x.g7) (rt tP x.j6));(sl (okE tP x.g7) (sl (okE tP x.j6) (sl (ra7 (rt tP x.g7) (rt tP x.j6)) (kk ⟨1,!t1⟩) (kk ⟨0,false⟩)) (kk ⟨0,false⟩)) (kk ⟨0,false⟩))
def gb6(x:Hb9):na5:=Ib1 (λr=>r) x
def gc3(x:Hb9)(r:na5):DT (c7×List c8):=(Ca8 r.alt 1 (b r.bs0,[bq 0 1 [[eL tP x.g7]]]) .fail)
def rc7:Sum:=Oa2 ⟨[sLq tP,sPq 0],[⟨0,1,true,some [[.c 4 (nL tP)]]⟩],λa H=>(⟨aLq tP a 0,hLq tP H 0 0 0⟩,())⟩ (λx=>gc3 x (gb6 x))
theorem id6:l8 prog G 62 rc7:=K8 (enc:=λx=>⟨[eL tP x.j6,.ptr 0 0 0 0],[bq 0 1 [[eL tP x.g7]]]⟩) (λa H=>by kernel_rfl) (bd b62 Zc5) λx=>va5 (mEq @Ib1 (λr=>(gc3 x r).run) x)
structure ua1 where
 H5:LPq
 g7:PLq
def Qa4:List (Nat×Sum):=[(62,rc7)]
theorem Ib2:C6 prog G Qa4:=⟨id6,trivial⟩
structure C8 where
 is8:Int
 g7:PLq
def Ha8(p:S9)(s:C8):St:=⟨eL tLq p.H5::.fn 62 [.ptr 0 0 0 0]::ra 5 (i p.is7::i s.is8::ra 10 []),[bq 0 1 [[eL tP s.g7]]]⟩
def W8{α:Type}(k:C8->α)(e:Nat->α)(z:α)(p:S9)(s:C8):α:=let t1:=(gb6 ⟨rt tP (gL tLq p.H5 s.is8.toNat),rt tP s.g7⟩);(sl (decide (s.is8<p.is7)) (sl (inB s.is8 (List.length p.H5)) (sl ((cnE tP (gL tLq p.H5 s.is8.toNat))&&((cnE tP s.g7)&&true)) (sl (Nat.beq t1.alt 1) (sl t1.bs0 (e 1) (k ⟨W (s.is8+1),rt tP s.g7⟩)) z) z) z) (e 2))
def O5(p:S9)(s:C8):Stp C8:=W8 .next .exit .fail p s
def pa1:Lo S9 C8:=⟨En Qa4,1,Rf1,[1,0,1,4,4],[0,1,7,8],.p,[⟨sLq tLq::.fn 62 [.o (.ptr 0 0 0 0)]::ru2 5 (sIq::sIq::ru2 10 []),[⟨0,1,true,some [[.c 4 (nL tP)]]⟩],λa H=>(⟨aLq tLq a 0,aIq a 7⟩,⟨aIq a 8,hLq tP H 0 0 0⟩)⟩],O5,[(none,λp s=>⟨[i s.is8],[bq 0 1 [[eL tP (rt tP s.g7)]]]⟩),(some 0,λp s=>upq (Ha8 p s) [(9,b (decide (s.is8<p.is7)))])],Ha8⟩
theorem Db2:pa1.Ok:=Lo.okq [] .nil λp s=>(.ofq @W8)
structure ua2 where
 alt:Nat
 is0:Int
 g7:PLq
def ua3{α:Type}(kk:ua2->α)(x:ua1):α:=let t1:=(lp (O5 (⟨rt tLq x.H5,(↑(List.length x.H5):Int)⟩:S9)) (⟨0,rt tP x.g7⟩:C8));(sl ((cnE tLq x.H5)&&((cnE tP x.g7)&&true)) (sl (Nat.beq t1.1 1) (kk ⟨1,t1.2.is8,rt tP t1.2.g7⟩) (sl (Nat.beq t1.1 2) (kk ⟨1,-1,t1.2.g7⟩) (kk ⟨0,0,[]⟩))) (kk ⟨0,0,[]⟩))
def ea6(x:ua1):ua2:=ua3 (λr=>r) x
def Qa5(x:ua1)(r:ua2):DT (c7×List c8):=(Ca8 r.alt 1 (i r.is0,[bq 0 1 [[eL tP r.g7]]]) .fail)
def Ua8:Sum:=Oa2 ⟨[sLq tLq,.fn 62 [.o (.ptr 0 0 0 0)]],[⟨0,1,true,some [[.c 4 (nL tP)]]⟩],λa H=>(⟨aLq tLq a 0,hLq tP H 0 0 0⟩,())⟩ (λx=>Qa5 x (ea6 x))
theorem Mb6:l8 prog G 77 Ua8:=K8 (enc:=λx=>⟨[eL tLq x.H5,.fn 62 [.ptr 0 0 0 0]],[bq 0 1 [[eL tP x.g7]]]⟩) (λa H=>by kernel_rfl) (bd b77 Ib2) λx=>da5 (.s .p (.s (.s .p (.b (.u pa1.ls))) .p)) [pa1.pr] (.cons Db2 .nil) (mEq @ua3 (λr=>(Qa5 x r).run) x)
def yb2:List (Nat×Sum):=[(77,Ua8)]
theorem ub6:C6 prog G yb2:=⟨Mb6,trivial⟩
structure la0 where
 alt:Nat
 bs0:Bool
 g7:PLq
def la1{α:Type}(kk:la0->α)(x:ua1):α:=let t1:=(ea6 ⟨rt tLq x.H5,rt tP x.g7⟩);(sl ((cnE tLq x.H5)&&((cnE tP x.g7)&&true)) (sl (Nat.beq t1.alt 1) (kk ⟨1,decide (t1.is0>=0),t1.g7⟩) (kk ⟨0,false,[]⟩)) (kk ⟨0,false,[]⟩))
def la2(x:ua1):la0:=la1 (λr=>r) x
def Fa8(x:ua1)(r:la0):DT (c7×List c8):=(Ca8 r.alt 1 (b r.bs0,[bq 0 1 [[eL tP r.g7]]]) .fail)
def Ha9:Sum:=Oa2 ⟨[sLq tLq,.fn 62 [.o (.ptr 0 0 0 0)]],[⟨0,1,true,some [[.c 4 (nL tP)]]⟩],λa H=>(⟨aLq tLq a 0,hLq tP H 0 0 0⟩,())⟩ (λx=>Fa8 x (la2 x))
theorem yb3:l8 prog G 61 Ha9:=K8 (enc:=λx=>⟨[eL tLq x.H5,.fn 62 [.ptr 0 0 0 0]],[bq 0 1 [[eL tP x.g7]]]⟩) (λa H=>by kernel_rfl) (bd b61 ub6) λx=>va5 (mEq @la1 (λr=>(Fa8 x r).run) x)
def Fd5:List (Nat×Sum):=[(61,Ha9)]
theorem rd8:C6 prog G Fd5:=⟨yb3,trivial⟩
def eb9(x:PLq)(y:LPq):ROq:=let t1:=(la2 ⟨rt tLq y,rt tP x⟩);(sl ((cnE tLq y)&&((cnE tP x)&&true)) (sl (Nat.beq t1.alt 1) (some (b (!t1.bs0),[])) none) none)
def M6(x:PLq)(y:LPq):Bool:=aa3 (one r1B) (eb9 x y)
def ka0(x:PLq)(y:LPq):Bool:=okO (one r1B) (eb9 x y)
def fb0:Sum:=va4 (pa5 tP) (pa5 tLq) (λx y=>.guard (ka0 x y) (.ret ((one r1B).enc (M6 x y),[])))
theorem sb6:l8 prog G 27 fb0:=xc8 (bd b27 rd8) (one r1B) (o:=eb9)
end Go.Ev.Ce
namespace Go.Ev
open Go Go.ChangeShapes Go.RowKit
structure Fd6(w w':World):Prop where
 os:w'.os=w.os
 output:w'.output=w.output
 size:w.heap.size<=w'.heap.size
 block:∀k,k<w.heap.size->w'.heap[k]?=w.heap[k]?
theorem Fd6.kept{w w':World}(h:Fd6 w w')(may:MemPlace->Prop):w.keptBut w' may:=by
 refine⟨h.os,h.output,λi hi=>?_⟩
 rw[h.block i hi]
 grind
theorem Fd6.frozen{w w':World}(h:Fd6 w w')(b off:Nat)(hb:b<w.heap.size):w'.frozen? ⟨b,off,none⟩=w.frozen? ⟨b,off,none⟩:=by
 simp only[World.frozen?,h.block b hb]
theorem Fd6.cell{w w':World}(h:Fd6 w w')(b off:Nat)(hb:b<w.heap.size):w'.cell? ⟨b,off,none⟩=w.cell? ⟨b,off,none⟩:=by
 simp only[World.cell?,h.block b hb]
theorem Fd6.same{w w':World}(h:Fd6 w w')(p:MemPlace)(hp:p.block<w.heap.size):w.sameAt w' p:=by
 cases p with
 |cell b off=>exact h.cell b off hp
 |map b=>exact h.block b hp
theorem Ac4{α β:Type}{f:α->Option β}:∀{l:List α} {r:List β},l.mapM f=some r->r.length=l.length/\∀(j:Nat) y,r[j]?=some y->∃x,l[j]?=some x/\f x=some y
 |[],r,h=>by
  simp_all
 |x::l,r,h=>by
  rw[List.mapM_cons] at h;obtain⟨y,h1,h2⟩:=Qjg.1 h;obtain⟨r',h3,h4⟩:=Qjg.1 h2
  have:r=y::r':=by simpa using h4.symm
  subst this;obtain⟨g1,g2⟩:=Ac4 h3
  grind
section
variable{D:Type}{enc:TypeId×Value->D}{P:Program}
theorem Mc6{T:TypeId->Prop}(K:Kids P T)(hsz:∀{t e:TypeId},T t->P.underlying t=some (.slice e)->0<P.cellsOf e){w w':World}{sp:Nat->Bool}(hs:Fd6 w w') :
  ∀{ts:List TypeId} {vs:List Value} {ds:List (DataW D)} {ps:List MemPlace},(∀t∈ts,T t)->DataW.TrodAll enc P w 0 (λ_=>true) true ts vs ds ps->(∀p∈ps,p.block<w.heap.size)->(∀p∈ps,sp p.block=true)->DataW.TrodAll enc P w' 0 sp true ts vs ds ps
 |[],[],[],_,_,h,_,_=>h
 |t::ts,v::vs,d::ds,ps,ht,h,hlt,hsp=>by
  obtain⟨p,q,⟨fuel,h1⟩,h2,rfl⟩:=h;refine⟨p,q,⟨fuel,?_⟩,Mc6 K hsz hs (λt h=>ht t (by simp[h])) h2 (λx hx=>hlt x (by simp[hx])) (λx hx=>hsp x (by simp[hx])),rfl⟩
  exact DataW.trod_stays K hsz (λh=>by cases h) (ht t (by simp)) h1 (λx hx=>hs.same x (hlt x (by simp at hx ⊢;exact .inl hx))) (λx hx=>hsp x (by simp at hx ⊢;exact .inl hx))
 |[],_::_,_,_,_,h,_,_=>h.elim
 |[],[],_::_,_,_,h,_,_=>h.elim
 |_::_,[],_,_,_,h,_,_=>h.elim
 |_::_,_::_,[],_,_,h,_,_=>h.elim
theorem mf6{T:TypeId->Prop}(K:Kids P T)(hsz:∀{t e:TypeId},T t->P.underlying t=some (.slice e)->0<P.cellsOf e){f:Func}{s:ChangeSpec}{apart fresh handsOn again:Bool}{W W':World}{args:Array Value}{ds gs:List (DataW D)}{before:List MemPlace}{tb:TypeId}
  (hT:∀t∈f.params.toList,T t) (hW:DataW.Whole enc P f.params.toList s.vars apart W args.toList ds gs before) (hv:s.vars=[]) (hr:f.resultTypes=#[tb]) (hb:P.underlying tb=some .bool)
  (h1:(s.fn D ds).results=[.lit (.bool true)]) (h2:(s.fn D ds).args=ds) (h3:(s.fn D ds).vars=[]) (hs:Fd6 W W') :
  s.post enc P f apart fresh handsOn again W args (.bool true) W':=by
 have hlt:=hW.lt;obtain⟨pa,pv,hA,hV,hps,hz,hn⟩:=id hW;rw[hv] at hV;have hpv:gs=[]/\pv=[]:=by
  cases gs with
  |nil=>exact⟨rfl,hV⟩
  |cons=>exact hV.elim
 obtain⟨rfl,rfl⟩:=hpv;rw[<- Qbv ds] at h1 h3;have h2:(s.fn D (ds++[])).args=ds:=by rw[Qbv];exact h2
 have hpa:before=pa:=by rw[hps];simp
 subst hpa;have hagain:∀sp:Nat->Bool,(∀p∈before,sp p.block=true)->DataW.TrodAll enc P W' 0 sp true f.params.toList args.toList ds before:=λsp h=>Mc6 K hsz hs hT hA hlt h
 have hres:∀(b:Nat) (sp:Nat->Bool) (hd:Bool),DataW.TrodAll enc P W' b sp hd f.resultTypes.toList ((Value.bool true).resultList f.resultTypes.size) [.lit (.bool true)] []:=λb sp hd=>by
  rw[hr];exact⟨[],[],⟨1,by simp[DataW.trod,hb,Value.cells,Value.resultList]⟩,rfl,rfl⟩
 have hvars:∀sp:Nat->Bool,DataW.TrodVars enc P W' sp s.vars ([]:List (DataW D)) []:=λsp=>by rw[hv];exact rfl
 have hok:∀(j:Nat) (t:TypeId) (r:Value),f.resultTypes[j]?=some t->((Value.bool true).resultList f.resultTypes.size)[j]?=some r->Value.okWide P W' .any 0 t r:=by
  rw[hr];intro j t r h4 h5;cases j with
  |zero =>
   simp at h4
   subst h4
   have:r=.bool true:=by simpa [Value.resultList] using h5.symm
   subst this;exact okWide_bool_mk hb _
  |succ j=>simp at h4
 have hag:DataW.TrodAll enc P W' 0 (λ_=>true) true (f.resultTypes.toList++f.params.toList) ((Value.bool true).resultList f.resultTypes.size++args.toList) (.lit (.bool true)::ds) before:=by
  have:=hagain (λ_=>true) (λ_ _=>rfl)
  rw[hr];exact⟨[],before,⟨1,by simp[DataW.trod,hb,Value.cells,Value.resultList]⟩,this,rfl⟩
 refine⟨ds,[],before,[],before,[],hW,?_,?_,?_,hs.kept _,λ_=>?_⟩
 ·rw[h1];exact hres _ _ _
 ·grind
 ·rw[h3];exact hvars _
 ·refine⟨hok,.lit (.bool true)::ds,[],before,⟨before,[],hag,hvars _,by simp,?_,?_⟩,?_⟩
  ·intro b off hp;rw[hs.frozen b off (hlt _ hp)];exact hz b off (by simpa using hp)
  ·omega
  ·intro p hp _;exact hp
variable{w:World}{base:Nat}{spare:Nat->Bool}{held:Bool}
def de9(w:World):Fz:=λb o=>(w.cell? ⟨b,o,none⟩).isSome
theorem Tf8{fuel:Nat}{t:TypeId}{k:IntKind}{cs:List Value}{x:DataW D×List MemPlace}(ht:P.underlying t=some (.int k))(h:DataW.trod enc P w base spare held fuel t cs=some x) :
  ∃n,cs=[.int k n]/\(Lit.int k n).wf=true/\x.1=.lit (.int k n):=by
 cases fuel with
 |zero=>cases h
 |succ fuel =>
  match cs,h with
  |[],h=>simp[DataW.trod,ht] at h
  |[v],h =>
   cases v with
   |int k' n =>
    simp only[DataW.trod,ht] at h
    grind
   |_=>simp[DataW.trod,ht] at h
  |a::b::r,h=>simp[DataW.trod,ht] at h
theorem Df3{fuel:Nat}{t:TypeId}{cs:List Value}{x:DataW D×List MemPlace}(ht:P.underlying t=some .bool)(h:DataW.trod enc P w base spare held fuel t cs=some x) :
  ∃n,cs=[.bool n]/\x.1=.lit (.bool n):=by
 cases fuel with
 |zero=>cases h
 |succ fuel =>
  match cs,h with
  |[],h=>simp[DataW.trod,ht] at h
  |[v],h =>
   cases v with
   |bool n =>
    simp only[DataW.trod,ht] at h
    grind
   |_=>simp[DataW.trod,ht] at h
  |a::b::r,h=>simp[DataW.trod,ht] at h
theorem se5{fuel:Nat}{t e:TypeId}{n:Nat}{cs:List Value}{x:DataW D×List MemPlace}(ht:P.underlying t=some (.array n e))(h:DataW.trod enc P w base spare held fuel t cs=some x) :
  cs.length=P.cellsOf t/\∃(fuel':Nat) (xs:List (DataW D×List MemPlace)),xs.length=n/\x.1=.agg (xs.map (·.1))/\∀(j:Nat) y,xs[j]?=some y->DataW.trod enc P w base spare held fuel' e ((cs.drop (j*P.cellsOf e)).take (P.cellsOf e))=some y:=by
 cases fuel with
 |zero=>cases h
 |succ fuel =>
  unfold DataW.trod at h;rw[ht] at h
  simp only at h
  split at h
  ·rename_i hl;obtain⟨xs,h1,h2⟩:=Qbl.1 h;have hx:=Ac4 h1;exact⟨hl,fuel,xs,by simpa using hx.1,by rw[<- h2],λj y hy=>by
    obtain⟨a,ha,hb⟩:=hx.2 j y hy
    have:j<n:=by
     have:=(Qab.1 hy).1
     rw[hx.1] at this;simpa using this
    rw[Qjr this] at ha;injection ha with ha;subst ha;exact hb⟩
  ·cases h
theorem Td8{fuel:Nat}{t:TypeId}{fs:Array Field}{cs:List Value}{x:DataW D×List MemPlace}(ht:P.underlying t=some (.struct fs))(h:DataW.trod enc P w base spare held fuel t cs=some x) :
  cs.length=P.cellsOf t/\∃(fuel':Nat) (xs:List (DataW D×List MemPlace)),xs.length=fs.size/\x.1=.agg (xs.map (·.1))/\∀(j:Nat) f,fs[j]?=some f->∃y,xs[j]?=some y/\DataW.trod enc P w base spare held fuel' f.type ((cs.drop f.offset).take (P.cellsOf f.type))=some y:=by
 cases fuel with
 |zero=>cases h
 |succ fuel =>
  unfold DataW.trod at h;rw[ht] at h
  simp only at h
  split at h
  ·rename_i hl;obtain⟨xs,h1,h2⟩:=Qbl.1 h;have hx:=Ac4 h1;refine⟨hl,fuel,xs,by simpa using hx.1,by rw[<- h2],λj f hf=>?_⟩
   grind
  ·cases h
theorem mf7{fuel:Nat}{t e:TypeId}{cs:List Value}{x:DataW D×List MemPlace}(ht:P.underlying t=some (.slice e))(h:DataW.trod enc P w base spare held fuel t cs=some x) :
  cs=[.slice none 0 0]\/∃(a:Addr) (n cap fuel':Nat),cs=[.slice (some a) n cap]/\n<=cap/\cap<=maxLen/\∀j,j<n->∃row y,w.cells? base (a.add (j*P.cellsOf e)) (P.cellsOf e)=some row/\DataW.trod enc P w base spare held fuel' e row=some y:=by
 cases fuel with
 |zero=>cases h
 |succ fuel =>
  match cs,h with
  |[],h=>simp[DataW.trod,ht] at h
  |[v],h =>
   cases v with
   |slice a len cap =>
    cases a with
    |none =>
     simp only[DataW.trod,ht] at h
     grind
    |some a =>
     refine .inr ?_;simp only[DataW.trod,ht] at h
     split at h
     ·rename_i hc;obtain⟨elems,h1,h2⟩:=Qjg.1 h;have hx:=Ac4 h1;refine⟨a,len,cap,fuel,rfl,hc.2.1,hc.2.2,λj hj=>?_⟩
      have hj':j<elems.length:=by rw[hx.1];simpa using hj
      obtain⟨i,hi,hb⟩:=hx.2 j _ (Qaa hj');rw[Qjr hj] at hi;injection hi with hi;subst hi;obtain⟨row,r1,r2⟩:=Qjg.1 hb;exact⟨row,_,r1,r2⟩
     ·cases h
   |_=>simp[DataW.trod,ht] at h
  |a::b::r,h=>simp[DataW.trod,ht] at h
theorem Me4:∀(d:Nat) (t:TypeId) (l:List (Nat×CK)),la9 P d t=some l->∀(fuel:Nat) (cs:List Value) (x:DataW D×List MemPlace),DataW.trod enc P w base spare held fuel t cs=some x->∀p∈l,Xa8 cs.toArray p
 |0,_,_,h,_,_,_,_=>by cases h
 |d+1,t,l,h,fuel,cs,x,hx=>by
  have hpart:∀{off n:Nat} {e:TypeId} {l':List (Nat×CK)} {fuel':Nat} {y:DataW D×List MemPlace},vc0 off n (la9 P d e)=some l'->DataW.trod enc P w base spare held fuel' e ((cs.drop off).take n)=some y->∀p∈l',Xa8 cs.toArray p:=λ{off n e l' fuel' y} h1 h2 p hp=>by
   obtain⟨l2,g1,g2,rfl⟩:=jb1 h1;obtain⟨q,hq,rfl⟩:=Qbr.1 hp
   have:=Me4 d e l2 g1 fuel' _ y h2 q hq
   have hlt:=g2 q hq;unfold Xa8 at this ⊢;simp only[List.getElem?_toArray,Qap,hlt,if_true,Qbf] at this ⊢;exact this
  have hcat:∀{α:Type} (f:α->Option (List (Nat×CK))) (xs:List α) (l:List (Nat×CK)),Aa8 (xs.map f)=some l->∀p∈l,∃a∈xs,∃l',f a=some l'/\p∈l':=λ{α} f xs=>by
   induction xs with
   |nil=>intro l h;simp only[List.map_nil,Aa8] at h;injection h with h;subst h;simp
   |cons a xs ih =>
    intro l h p hp;simp only[Qbo,Aa8] at h;cases h1:f a with
    |none=>simp[h1] at h
    |some l1 =>
    cases h2:Aa8 (xs.map f) with
    |none=>simp[h1,h2] at h
    |some l2 =>
    simp only[h1,h2] at h;injection h with h;subst h
    rcases Qiq.1 hp with hp|hp
    ·exact⟨a,by simp,l1,h1,hp⟩
    ·obtain⟨b,hb,r⟩:=ih l2 h2 p hp;exact⟨b,by simp[hb],r⟩
  unfold la9 at h;cases hu:P.underlying t with
  |none=>simp[hu] at h
  |some u =>
  cases u with
  |int k =>
   simp only[hu] at h;injection h with h;subst h
   obtain⟨n,rfl,_,_⟩:=Tf8 hu hx;intro p hp;simp at hp;subst hp;exact⟨n,rfl⟩
  |bool =>
   simp only[hu] at h;injection h with h;subst h
   obtain⟨n,rfl,_⟩:=Df3 hu hx;intro p hp;simp at hp;subst hp;exact⟨n,rfl⟩
  |struct fs =>
   simp only[hu] at h
   split at h
   ·cases h
   obtain⟨_,fuel',xs,_,_,hxs⟩:=Td8 hu hx;intro p hp;obtain⟨f,hf,l',h1,h2⟩:=hcat _ _ _ h p hp
   split at h1
   ·cases h1
   obtain⟨j,hj⟩:=List.getElem?_of_mem hf;obtain⟨y,_,hy⟩:=hxs j f (by simpa using hj)
   have hc:P.cellsOf f.type=szT P f.type:=by
    unfold Program.cellsOf szT
    grind
   grind
  |array n e =>
   simp only[hu] at h
   split at h
   case isFalse=>cases h
   obtain⟨_,fuel',xs,hn,_,hxs⟩:=se5 hu hx;intro p hp;obtain⟨j,hj,l',h1,h2⟩:=hcat _ _ _ h p hp;have hj':j<xs.length:=by rw[hn];simpa using hj
   have hy:=hxs j _ (Qaa hj');have hc:P.cellsOf e=szT P e:=by
    unfold Program.cellsOf szT;cases P.info? e<;>rfl
   grind
  |_=>simp[hu] at h
def Ac5(k:IntKind)(es:Nat)(g:Nat->Int):List c7:=(List.range es).map λc=>.v (.int k (g c))
def bb5(k:IntKind)(es:Nat):List (Nat×CK):=(List.range es).map λc=>(c,.int k)
theorem Me5{d:Nat}{t:TypeId}{k:IntKind}{es:Nat}(hf:la9 P d t=some (bb5 k es)){fuel:Nat}{cs:List Value}{x:DataW D×List MemPlace}(hx:DataW.trod enc P w base spare held fuel t cs=some x)(hl:cs.length=es) :
  ∃g:Nat->Int,∀c,c<es->cs[c]?=some (.int k (g c)):=by
 have h:=Me4 d t _ hf fuel cs x hx;have h':∀c,∃n:Int,c<es->cs[c]?=some (.int k n):=λc=>by
  by_cases hc:c<es
  ·have:=h (c,.int k) (Qbr.2 ⟨c,by simpa using hc,rfl⟩)
   obtain⟨n,hn⟩:=this;exact⟨n,λ_=>by simpa using hn⟩
  ·exact⟨0,λh=>absurd h hc⟩
 exact⟨λc=>Classical.choose (h' c),λc hc=>Classical.choose_spec (h' c) hc⟩
theorem se6{F:Fz}{w:World}(k:IntKind)(n:Int):ha6 F w (.v (.int k n)) (.int k n):=.v _ rfl
theorem Fd7{k:IntKind}{es:Nat}{g:Nat->Int}{c:Nat}{x:c7}(h:(Ac5 k es g)[c]?=some x):c<es/\x=.v (.int k (g c)):=by
 unfold Ac5 at h
 grind
theorem We3(w:World):K7 (λk=>w.heap.size<=k) (λ_=>⟨0,0,0⟩) [] (de9 w) w :=
 ⟨λid b h=>by simp at h,λid id' b b' h=>by simp at h,λ_ _ h=>h,λ_ h=>h⟩
theorem We4{G:Nat->List Value}{f:FuncId}{S:Sum}(hS:l8 P G f S){aargs:List c7}{args:List Value}(hrun:∃out,(S aargs []).run=some (b true,out))(hl:aargs.length=args.length)
  (ha:∀(i:Nat) x x',aargs[i]?=some x->args[i]?=some x'->qa1 (λ_=>⟨0,0,0⟩) [] (de9 w) w x x') (hG:∀g (c:Nat) x,(G g)[c]?=some x->x.oneCell'=true/\w.cell? ⟨g,c,none⟩=some x) :
  Calls P f args.toArray w λe w'=>e=.returned (.bool true)/\Fd6 w w':=by
 obtain⟨out,hrun⟩:=hrun;obtain⟨_,hc⟩:=hS aargs [] (b true) out hrun (λk=>w.heap.size<=k) (λ_=>⟨0,0,0⟩) (de9 w) w args (We3 w) hl (λi x x' h1 h2=>.val (ha i x x' h1 h2)) (λg c x hx=>by
  obtain⟨h1,h2⟩:=hG g c x hx;exact⟨h1,by unfold de9;rw[h2];rfl,h2⟩)
 refine hc.mono λe w' ⟨r',he,ρ',F',hA,hH,hW⟩=>?_
 have:=ga8 hW
 subst this;exact⟨he,hA.ext.os,hA.ext.output,hA.ext.size,λk hk=>hA.ext.block k hk (by omega)⟩
end
end Go.Ev
namespace Go.Ev.L
open Go Go.Ev
def Rdg{α:Type}(c:Cod α)(x:c7)(a:α):Prop:=c.dec x=some a/\c.grd x=true
section
variable{α β γ δ ε:Type}{c:Cod α}{d:Cod β}{e:Cod γ}{f:Cod δ}{c5:Cod ε}{x y z w v:c7}{a:α}{b':β}{g:γ}{j:δ}{m:ε}{r:c7×List c8}
theorem qg8{k:α->β->DT (c7×List c8)}(h1:Rdg c x a)(h2:Rdg d y b')(h:(k a b').run=some r):(va4 c d k [x,y] []).run=some r:=by
 unfold va4;simp only[h1.1,h1.2,h2.1,h2.2];exact h
end
theorem Tf9{g p:Bool}(hg:g=true)(hp:p=true):(DT.guard g (.ret ((one r1B).enc p,([]:List c8)))).run=some (b true,([]:List c8)):=by subst hg;subst hp;rfl
def eg7:Value->ByteArray
 |.string s=>s
 |_=>⟨#[]⟩
def Db3(H H':List c8):Prop:=∀id g,(blkAt H id g).map (λb=>(b.es,b.elems))=(blkAt H' id g).map (λb=>(b.es,b.elems))
theorem Db3.refl(H:List c8):Db3 H H:=λ_ _=>rfl
theorem Db3.disown(H:List c8)(id:Nat):Db3 (disown H id) H:=λj g=>by
 rw[Vc6];cases blkAt H j g with
 |none=>rfl
 |some b =>
  grind
theorem Db3.trans{H1 H2 H3:List c8}(h:Db3 H1 H2)(k:Db3 H2 H3):Db3 H1 H3:=λid g=>(h id g).trans (k id g)
theorem Db3.symm{H1 H2:List c8}(h:Db3 H1 H2):Db3 H2 H1:=λid g=>(h id g).symm
theorem rd9{H H':List c8}(h:Db3 H H')(x:c7):(freezeCell H x).map (·.1)=(freezeCell H' x).map (·.1)/\∀y H1 H1',freezeCell H x=some (y,H1)->freezeCell H' x=some (y,H1')->Db3 H1 H1':=by
 cases x with
 |v u =>
  simp only[freezeCell]
  grind
 |tree es n get =>
  refine⟨rfl,λy H1 H1' e e'=>?_⟩
  injection e with e;injection e with _ e;injection e' with e';injection e' with _ e'
  subst e e';exact h
 |fn f caps =>
  simp only[freezeCell]
  grind
 |sl id off n g =>
  simp only[freezeCell];have hb:=h id g;cases h1:blkAt H id g with
  |none =>
   grind
  |some b =>
   cases h2:blkAt H' id g with
   |none=>rw[h1,h2] at hb;cases hb
   |some b' =>
    rw[h1,h2] at hb;simp only[Option.map_some] at hb;injection hb with hb;injection hb with e1 e2
    refine⟨by simp only[Option.map_some,ic2,e1,e2],λy H1 H1' e e'=>?_⟩
    injection e with e;injection e with _ e;injection e' with e';injection e' with _ e'
    subst e e';exact (Db3.disown H id).trans (h.trans (Db3.disown H' id).symm)
 |_=>exact⟨rfl,λy H1 H1' e=>by cases e⟩
theorem gc4:∀(cs:List c7) {H H':List c8},Db3 H H'->(freezeCells H cs).map (·.1)=(freezeCells H' cs).map (·.1)
 |[],H,H',h=>rfl
 |x::r,H,H',h=>by
  obtain⟨h1,h2⟩:=rd9 h x;simp only[freezeCells];cases e1:freezeCell H x with
  |none =>
   grind
  |some p =>
   cases e2:freezeCell H' x with
   |none=>rw[e1,e2] at h1;cases h1
   |some q =>
    rw[e1,e2] at h1;obtain⟨y,H1⟩:=p;obtain⟨y',H1'⟩:=q;simp only[Option.map_some] at h1;injection h1 with h1;subst h1
    have:=gc4 r (h2 _ _ _ e1 e2)
    grind
theorem Fd8{H H':List c8}{x y:c7}(h:freezeCell H x=some (y,H')):Dis H H':=by
 cases x with
 |v u =>
  simp only[freezeCell] at h;cases hu:pd1 u with
  |true=>rw[hu] at h;injection h with h;injection h with _ h;subst h;exact .refl
  |false=>rw[hu] at h;cases h
 |tree es n get=>injection h with h;injection h with _ h;subst h;exact .refl
 |fn f caps =>
  simp only[freezeCell] at h;cases hu:Xa4 Sc7 caps with
  |true=>rw[hu] at h;injection h with h;injection h with _ h;subst h;exact .refl
  |false=>rw[hu] at h;cases h
 |sl id off n g =>
  simp only[freezeCell] at h;cases h1:blkAt H id g with
  |none=>rw[h1] at h;cases h
  |some b=>rw[h1] at h;injection h with h;injection h with _ h;subst h;exact .step id .refl
 |_=>cases h
theorem Dis.app{H H1 H2:List c8}(h:Dis H H1)(k:Dis H1 H2):Dis H H2:=by
 induction k with
 |refl=>exact h
 |step id _ ih=>exact .step id ih
theorem rc8:∀{cs l:List c7} {H H':List c8},freezeCells H cs=some (l,H')->Dis H H'
 |[],l,H,H',h=>by
  injection h with h;injection h with _ h;subst h;exact .refl
 |x::r,l,H,H',h=>by
  simp only[freezeCells] at h;cases e1:freezeCell H x with
  |none=>rw[e1] at h;cases h
  |some p =>
   obtain⟨y,H1⟩:=p;rw[e1] at h
   simp only at h
   cases e2:freezeCells H1 r with
   |none=>rw[e2] at h;cases h
   |some q =>
    obtain⟨l2,H2⟩:=q;rw[e2] at h
    simp only at h
    injection h with h;injection h with _ h;subst h
    exact (Fd8 e1).app (rc8 e2)
section
variable{α:Type}(t:Ty α)
def r1S:R1 α where
 enc x:=.agg (t.row x)
 rd H x:=match x with
  |.agg cs=>Option.rec (motive:=λ_=>Option α) none (λp=>Bool.rec (motive:=λ_=>Option α) none (some (t.rd p)) (t.ok p)) ((freezeCells H cs).map (·.1))
  |_=>none
 d:=t.d
 le H x r h:=by
  split at h
  ·rename_i cs;cases hf:freezeCells H cs with
   |none=>rw[hf] at h;cases h
   |some q =>
    obtain⟨l,H'⟩:=q;rw[hf] at h;simp only[Option.map_some] at h;cases hb:t.ok l with
    |false=>rw[hb] at h;cases h
    |true =>
     rw[hb] at h;have h:some (t.rd l)=some r:=h;injection h with h;subst h;have h3:=t.h3 l hb;refine⟨.agg l,H',by simp only[Ia1,hf],rc8 hf,λρ' H2 F w v hv=>?_⟩
     obtain⟨vs,rfl,hl,hr⟩:=Ia0 (.val hv);refine .agg _ _ (by rw[<- h3.length];exact hl) λi y v' hy hv'=>?_
     obtain⟨x,hx,hle⟩:=h3.get i y hy;exact hle.c _ _ _ _ _ (hr i x v' hx hv')
  ·cases h
 dis H id x:=by
  cases x with
  |agg cs=>simp only[gc4 cs (Db3.disown H id)]
  |_=>rfl
def cG:Cod ByteArray where
 enc s:=.v (.string s)
 dec x:=match x with
  |.v (.string s)=>some s
  |_=>none
 grd _:=true
 ok x a hx _:=by
  split at hx
  ·injection hx with hx;subst hx;exact λ_ _ _ _ _ h=>h
  ·cases hx
def Fd9(es:Nat):c7->Bool
 |.tree e _ _=>Nat.beq e es
 |.v (.slice none 0 0)=>true
 |_=>false
def Uf0(sh:List c7->Bool):Cod α where
 enc x:=.agg (t.row x)
 dec x:=match x with
  |.agg cs=>Bool.rec (motive:=λ_=>Option α) none (some (t.rd cs)) (sh cs)
  |_=>none
 grd x:=match x with
  |.agg cs=>t.ok cs
  |_=>false
 ok x a hx hg:=by
  split at hx
  ·rename_i cs;cases hb:sh cs with
   |false=>rw[hb] at hx;cases hx
   |true =>
    rw[hb] at hx;have hx:some (t.rd cs)=some a:=hx;injection hx with hx;subst hx;have h3:=t.h3 cs hg;intro ρ H F w v hv;obtain⟨vs,rfl,hl,hr⟩:=Ia0 hv;refine .val (.agg _ _ (by rw[<- h3.length];exact hl) λi y v' hy hv'=>?_)
    obtain⟨x,hx,hle⟩:=h3.get i y hy;exact hle.c _ _ _ _ _ (hr i x v' hx hv')
  ·cases hx
end
end Go.Ev.L
namespace Go.Ev.Ce
open Go Go.Ev Go.Ev.L Go.Proofs
theorem hd1{x y:c7}(h:wc5 [x] [y]):CLe x y:=by cases h with | cons h _=>exact h
structure Prt where
 nm:ByteArray
 cl:LPq
 wt:List Int
def Lf4:List c7->Bool
 |[.v (.string _),x1,x2]=>Bool.and (tMq.ok [x1]) (Bool.and ((tLs tI).ok [x2]) (true))
 |_=>false
def tJ:Ty Prt where
 es:=3
 row x:=[.v (.string x.nm),eL tLq x.cl,eL tI x.wt]
 rd r:=⟨eg7 (toV (hdA r)),rL tLq (hdA (tlA r)),rL tI (hdA (tlA (tlA r)))⟩
 ok:=Lf4
 cks:=[.any,.sl 1,.sl 1]
 d:=⟨⟨#[]⟩,[],[]⟩
 h0 _:=rfl
 h1 x:=by
  show Prt.mk x.nm (rL tLq (eL tLq x.cl)) (rL tI (eL tI x.wt))=x;rw[show rL tLq (eL tLq x.cl)=x.cl from j8 tLq x.cl,show rL tI (eL tI x.wt)=x.wt from j8 tI x.wt]
 h2 x:=by
  show Bool.and (tMq.ok (tMq.row x.cl)) (Bool.and ((tLs tI).ok ((tLs tI).row x.wt)) (true))=true;rw[tMq.h2 x.cl,(tLs tI).h2 x.wt];rfl
 h3 r h:=by
  unfold Lf4 at h
  split at h
  ·rename_i _ x1 x2;simp only[Qas] at h;obtain⟨h1,h2,_⟩:=h;have c1:=tMq.h3 _ h1;have c2:=(tLs tI).h3 _ h2;exact .cons (.refl _) (.cons (hd1 c1) (.cons (hd1 c2) (.nil)))
  ·cases h
 h4 _:=rfl
 h5 _:=rfl
def r1J:R1 Prt:=r1S tJ
structure Pce where
 su:List Bool
 to:List Bool
 cu:LPq
def Lf5:List c7->Bool
 |[x0,x1,x2]=>Bool.and ((tLs tB).ok [x0]) (Bool.and ((tLs tB).ok [x1]) (Bool.and (tMq.ok [x2]) (true)))
 |_=>false
def tO:Ty Pce where
 es:=3
 row x:=[eL tB x.su,eL tB x.to,eL tLq x.cu]
 rd r:=⟨rL tB (hdA r),rL tB (hdA (tlA r)),rL tLq (hdA (tlA (tlA r)))⟩
 ok:=Lf5
 cks:=[.sl 1,.sl 1,.sl 1]
 d:=⟨[],[],[]⟩
 h0 _:=rfl
 h1 x:=by
  show Pce.mk (rL tB (eL tB x.su)) (rL tB (eL tB x.to)) (rL tLq (eL tLq x.cu))=x;rw[show rL tB (eL tB x.su)=x.su from j8 tB x.su,show rL tB (eL tB x.to)=x.to from j8 tB x.to,show rL tLq (eL tLq x.cu)=x.cu from j8 tLq x.cu]
 h2 x:=by
  show Bool.and ((tLs tB).ok ((tLs tB).row x.su)) (Bool.and ((tLs tB).ok ((tLs tB).row x.to)) (Bool.and (tMq.ok (tMq.row x.cu)) (true)))=true;rw[(tLs tB).h2 x.su,(tLs tB).h2 x.to,tMq.h2 x.cu];rfl
 h3 r h:=by
  unfold Lf5 at h
  split at h
  ·rename_i x0 x1 x2;simp only[Qas] at h;obtain⟨h0,h1,h2,_⟩:=h;have c0:=(tLs tB).h3 _ h0;have c1:=(tLs tB).h3 _ h1;have c2:=tMq.h3 _ h2;exact .cons (hd1 c0) (.cons (hd1 c1) (.cons (hd1 c2) (.nil)))
  ·cases h
 h4 _:=rfl
 h5 _:=rfl
def r1O:R1 Pce:=r1S tO
structure Cse where
 p0:List Int
 p1:List Int
 c0:List (List Int)
 c1:List (List Int)
 t0:List (List Int)
 t1:List (List Int)
 q0:Int
 q1:Int
 q2:Int
 q3:Int
 q4:Int
 q5:Int
def Me6:List c7->Bool
 |[x0,x1,x2,x3,x4,x5,.v (.int .i64 _),.v (.int .i64 _),.v (.int .i64 _),.v (.int .i64 _),.v (.int .i64 _),.v (.int .i64 _)]=>Bool.and ((tLs tI).ok [x0]) (Bool.and ((tLs tI).ok [x1]) (Bool.and ((tLs (tLs tI)).ok [x2]) (Bool.and ((tLs (tLs tI)).ok [x3]) (Bool.and ((tLs (tLs tI)).ok [x4]) (Bool.and ((tLs (tLs tI)).ok [x5]) (true))))))
 |_=>false
def tF:Ty Cse where
 es:=12
 row x:=[eL tI x.p0,eL tI x.p1,eL (tLs tI) x.c0,eL (tLs tI) x.c1,eL (tLs tI) x.t0,eL (tLs tI) x.t1,i x.q0,i x.q1,i x.q2,i x.q3,i x.q4,i x.q5]
 rd r:=⟨rL tI (hdA r),rL tI (hdA (tlA r)),rL (tLs tI) (hdA (tlA (tlA r))),rL (tLs tI) (hdA (tlA (tlA (tlA r)))),rL (tLs tI) (hdA (tlA (tlA (tlA (tlA r))))),rL (tLs tI) (hdA (tlA (tlA (tlA (tlA (tlA r)))))),toI (hdA (tlA (tlA (tlA (tlA (tlA (tlA r))))))),toI (hdA (tlA (tlA (tlA (tlA (tlA (tlA (tlA r)))))))),toI (hdA (tlA (tlA (tlA (tlA (tlA (tlA (tlA (tlA r))))))))),toI (hdA (tlA (tlA (tlA (tlA (tlA (tlA (tlA (tlA (tlA r)))))))))),toI (hdA (tlA (tlA (tlA (tlA (tlA (tlA (tlA (tlA (tlA (tlA r))))))))))),toI (hdA (tlA (tlA (tlA (tlA (tlA (tlA (tlA (tlA (tlA (tlA (tlA r))))))))))))⟩
 ok:=Me6
 cks:=[.sl 1,.sl 1,.sl 1,.sl 1,.sl 1,.sl 1,.int .i64,.int .i64,.int .i64,.int .i64,.int .i64,.int .i64]
 d:=⟨[],[],[],[],[],[],0,0,0,0,0,0⟩
 h0 _:=rfl
 h1 x:=by
  show Cse.mk (rL tI (eL tI x.p0)) (rL tI (eL tI x.p1)) (rL (tLs tI) (eL (tLs tI) x.c0)) (rL (tLs tI) (eL (tLs tI) x.c1)) (rL (tLs tI) (eL (tLs tI) x.t0)) (rL (tLs tI) (eL (tLs tI) x.t1)) x.q0 x.q1 x.q2 x.q3 x.q4 x.q5=x;rw[show rL tI (eL tI x.p0)=x.p0 from j8 tI x.p0,show rL tI (eL tI x.p1)=x.p1 from j8 tI x.p1,show rL (tLs tI) (eL (tLs tI) x.c0)=x.c0 from j8 (tLs tI) x.c0,show rL (tLs tI) (eL (tLs tI) x.c1)=x.c1 from j8 (tLs tI) x.c1,show rL (tLs tI) (eL (tLs tI) x.t0)=x.t0 from j8 (tLs tI) x.t0,show rL (tLs tI) (eL (tLs tI) x.t1)=x.t1 from j8 (tLs tI) x.t1]
 h2 x:=by
  show Bool.and ((tLs tI).ok ((tLs tI).row x.p0)) (Bool.and ((tLs tI).ok ((tLs tI).row x.p1)) (Bool.and ((tLs (tLs tI)).ok ((tLs (tLs tI)).row x.c0)) (Bool.and ((tLs (tLs tI)).ok ((tLs (tLs tI)).row x.c1)) (Bool.and ((tLs (tLs tI)).ok ((tLs (tLs tI)).row x.t0)) (Bool.and ((tLs (tLs tI)).ok ((tLs (tLs tI)).row x.t1)) (true))))))=true;rw[(tLs tI).h2 x.p0,(tLs tI).h2 x.p1,(tLs (tLs tI)).h2 x.c0,(tLs (tLs tI)).h2 x.c1,(tLs (tLs tI)).h2 x.t0,(tLs (tLs tI)).h2 x.t1];rfl
 h3 r h:=by
  unfold Me6 at h
  split at h
  ·rename_i x0 x1 x2 x3 x4 x5 _ _ _ _ _ _;simp only[Qas] at h;obtain⟨h0,h1,h2,h3,h4,h5,_⟩:=h;have c0:=(tLs tI).h3 _ h0;have c1:=(tLs tI).h3 _ h1;have c2:=(tLs (tLs tI)).h3 _ h2;have c3:=(tLs (tLs tI)).h3 _ h3;have c4:=(tLs (tLs tI)).h3 _ h4;have c5:=(tLs (tLs tI)).h3 _ h5;exact .cons (hd1 c0) (.cons (hd1 c1) (.cons (hd1 c2) (.cons (hd1 c3) (.cons (hd1 c4) (.cons (hd1 c5) (.cons (.refl _) (.cons (.refl _) (.cons (.refl _) (.cons (.refl _) (.cons (.refl _) (.cons (.refl _) (.nil))))))))))))
  ·cases h
 h4 _:=rfl
 h5 _:=rfl
def eg8:List c7->Bool
 |[.v (.string _),x1,x2]=>Bool.and (Fd9 1 x1) (Bool.and (Fd9 1 x2) (true))
 |_=>false
def cJ:Cod Prt:=Uf0 tJ eg8
def eg9:List c7->Bool
 |[x0,x1,x2]=>Bool.and (Fd9 1 x0) (Bool.and (Fd9 1 x1) (Bool.and (Fd9 1 x2) (true)))
 |_=>false
def cO:Cod Pce:=Uf0 tO eg9
def Me7:List c7->Bool
 |[x0,x1,x2,x3,x4,x5,.v (.int .i64 _),.v (.int .i64 _),.v (.int .i64 _),.v (.int .i64 _),.v (.int .i64 _),.v (.int .i64 _)]=>Bool.and (Fd9 1 x0) (Bool.and (Fd9 1 x1) (Bool.and (Fd9 1 x2) (Bool.and (Fd9 1 x3) (Bool.and (Fd9 1 x4) (Bool.and (Fd9 1 x5) (true))))))
 |_=>false
def cF:Cod Cse:=Uf0 tF Me7
structure LL where
 u:List Int
 v:List Int
structure L2 where
 u:List Int
 v:List Int
def c2L:Cod L2 where
 enc z:=eL (tLs tI) [z.u,z.v]
 dec x:=match (pa5 (tLs tI)).dec x with
  |some [u,v]=>some ⟨u,v⟩
  |_=>none
 grd x:=(pa5 (tLs tI)).grd x
 ok x a hx hg:=by
  split at hx
  ·rename_i u v h;injection hx with hx;subst hx;exact (pa5 (tLs tI)).ok x [u,v] h hg
  ·cases hx
def dU:c7->Option Int
 |.v (.int .u8 n)=>some n
 |_=>none
theorem fg0{x:c7}{n:Int}(h:dU x=some n):x=.v (.int .u8 n):=by
 unfold dU at h
 split at h
 ·cases h;rfl
 ·cases h
def cU:Cod Int:=⟨λn=>.v (.int .u8 n),dU,λ_=>true,λ_ _ h _=>.of (fg0 h)⟩
set_option maxRecDepth 100000
def Ma5(x:Int):ROq:=(sl (decide (x<1)) (some (b true,[])) (some (b (decide (x>3)),[])))
def gb7(x:Int):Bool:=aa3 (one r1B) (Ma5 x)
def gb8(x:Int):Bool:=okO (one r1B) (Ma5 x)
def rc9:Sum:=ba7 cI (λx=>.guard (gb8 x) (.ret ((one r1B).enc (gb7 x),[])))
theorem id7:l8 prog G 37 rc9:=cb9 (bd b37 Aa9) (one r1B) (o:=Ma5)
structure Fa9 where
 ic0:List Int
def fb1:List (Nat×Sum):=[(37,rc9)]
theorem Vb0:C6 prog G fb1:=⟨id7,trivial⟩
structure X5 where
 ic0:List Int
 is7:Int
def Ua9(p:X5)(s:D1):St:=⟨eL tI p.ic0::.fn 37 []::ra 5 (i p.is7::i s.is8::ra 10 []),[]⟩
def ca7{α:Type}(k:D1->α)(e:Nat->α)(z:α)(p:X5)(s:D1):α:=let t1:=(gb7 (gL tI p.ic0 s.is8.toNat));(sl (decide (s.is8<p.is7)) (sl (inB s.is8 (List.length p.ic0)) (sl (gb8 (gL tI p.ic0 s.is8.toNat)) (sl t1 (e 1) (k ⟨W (s.is8+1)⟩)) z) z) (e 2))
def V5(p:X5)(s:D1):Stp D1:=ca7 .next .exit .fail p s
def ya2:Lo X5 D1:=⟨En fb1,0,ag6,[1,0,1,4,4],[0,1,7,8],.p,[⟨sLq tI::.s (.o (.fn 37))::ru2 5 (sIq::sIq::ru2 10 []),[],λa H=>(⟨aLq tI a 0,aIq a 7⟩,⟨aIq a 8⟩)⟩],V5,[(none,λp s=>⟨[i s.is8],[]⟩),(some 0,λp s=>upq (Ua9 p s) [(9,b (decide (s.is8<p.is7)))])],Ua9⟩
theorem Sb2:ya2.Ok:=Lo.okq [] .nil λp s=>(.ofq @ca7)
def Ga1{α:Type}(kk:va7->α)(x:Fa9):α:=let t1:=(lp (V5 (⟨rt tI x.ic0,(↑(List.length x.ic0):Int)⟩:X5)) (⟨0⟩:D1));(sl ((cnE tI x.ic0)&&true) (sl (Nat.beq t1.1 1) (kk ⟨1,t1.2.is8⟩) (sl (Nat.beq t1.1 2) (kk ⟨1,-1⟩) (kk ⟨0,0⟩))) (kk ⟨0,0⟩))
def ma8(x:Fa9):va7:=Ga1 (λr=>r) x
def fb2(x:Fa9)(r:va7):DT (c7×List c8):=(Ca8 r.alt 1 (i r.is0,[]) .fail)
def kb4:Sum:=Oa2 ⟨[sLq tI,.s (.o (.fn 37))],[],λa H=>(⟨aLq tI a 0⟩,())⟩ (λx=>fb2 x (ma8 x))
theorem cc4:l8 prog G 69 kb4:=K8 (enc:=λx=>⟨[eL tI x.ic0,.fn 37 []],[]⟩) (λa H=>by kernel_rfl) (bd b69 Vb0) λx=>da5 (.s .p (.s (.s .p (.b (.u ya2.ls))) .p)) [ya2.pr] (.cons Sb2 .nil) (mEq @Ga1 (λr=>(fb2 x r).run) x)
def Mb7:List (Nat×Sum):=[(69,kb4)]
theorem Ib3:C6 prog G Mb7:=⟨cc4,trivial⟩
def ua6{α:Type}(kk:na5->α)(x:Fa9):α:=let t1:=(ma8 ⟨rt tI x.ic0⟩);(sl ((cnE tI x.ic0)&&true) (sl (Nat.beq t1.alt 1) (kk ⟨1,decide (t1.is0>=0)⟩) (kk ⟨0,false⟩)) (kk ⟨0,false⟩))
def ea7(x:Fa9):na5:=ua6 (λr=>r) x
def Qa6(x:Fa9)(r:na5):DT (c7×List c8):=(Ca8 r.alt 1 (b r.bs0,[]) .fail)
def Va0:Sum:=Oa2 ⟨[sLq tI,.s (.o (.fn 37))],[],λa H=>(⟨aLq tI a 0⟩,())⟩ (λx=>Qa6 x (ea7 x))
theorem Mb8:l8 prog G 38 Va0:=K8 (enc:=λx=>⟨[eL tI x.ic0,.fn 37 []],[]⟩) (λa H=>by kernel_rfl) (bd b38 Ib3) λx=>va5 (mEq @ua6 (λr=>(Qa6 x r).run) x)
def Ac6:List (Nat×Sum):=[(38,Va0),(39,Ta5),(27,fb0)]
theorem sd0:C6 prog G Ac6:=⟨Mb8,Ya3,sb6,trivial⟩
structure Ma6 where
 ge3:LPq
 Xf3:Int
 E9:ByteArray
 i9:LPq
 m9:List Int
structure aa9 where
 Ga8:Int
def gc5(p:Ma6)(s:aa9):St:=⟨.unk::.ptr 0 0 0 0::ra 28 (eL tLq p.ge3::i p.Xf3::i s.Ga8::ra 17 []),[bq 0 3 [[.v (.string p.E9),eL tLq p.i9,eL tI p.m9]]]⟩
def Qa7{α:Type}(k:aa9->α)(e:Nat->α)(z:α)(p:Ma6)(s:aa9):α:=let y1:=(s.Ga8.toNat-0);let y0:=(gL tLq p.ge3 s.Ga8.toNat);let t1:=(za8 (rt tP y0));let t2:=(M6 (rt tP y0) (lsL tLq y1 (λk=>(λk=>(tLq).row (gL tLq p.i9 k)) (0+k))));(sl (decide (s.Ga8<p.Xf3)) (sl (inB s.Ga8 (List.length p.ge3)) (sl (okE tP y0) (sl (za9 (rt tP y0)) (sl (!t1) (e 1) (sl (inB s.Ga8 ((List.length p.i9)+1)) (sl (okE tP y0) (sl (okL tLq y1 (λk=>(λk=>(tLq).row (gL tLq p.i9 k)) (0+k))) (sl (ka0 (rt tP y0) (lsL tLq y1 (λk=>(λk=>(tLq).row (gL tLq p.i9 k)) (0+k)))) (sl (!t2) (e 1) (k ⟨W (s.Ga8+1)⟩)) z) z) z) z)) z) z) z) (e 2))
def ta1(p:Ma6)(s:aa9):Stp aa9:=Qa7 .next .exit .fail p s
def Ib4:Lo Ma6 aa9:=⟨En Ac6,0,Zf7,[1,1,1,1,0,1,4,4],[1,30,31,32],.p,[⟨sUq::sPq 0::ru2 28 (sLq tLq::sIq::sIq::ru2 17 []),[⟨0,3,true,some [[.o .val,.c 1 (nL tLq),.c 1 (nL tI)]]⟩],λa H=>(⟨aLq tLq a 30,aIq a 31,da2 (slT (rwT (elT H 0) 0) 0),hLq tLq H 0 0 1,hLq tI H 0 0 2⟩,⟨aIq a 32⟩)⟩],ta1,[(none,λp s=>⟨[i 13],[]⟩),(some 1,λp s=>upq (gc5 p s) [(33,b (decide (s.Ga8<p.Xf3)))])],gc5⟩
theorem id8:Ib4.Ok:=Lo.okq [] .nil λp s=>(.ofq @Qa7)
def fb3(x:Prt):ROq:=let y0:=(↑(List.length x.cl):Int);let t1:=(ea7 ⟨rt tI x.wt⟩);let t2:=(lp (ta1 (⟨rt tLq x.cl,y0,x.nm,rt tLq x.cl,rt tI x.wt⟩:Ma6)) (⟨0⟩:aa9));(sl (y0==0) (some (i 2,[])) (sl (decide (y0>16)) (some (i 2,[])) (sl ((↑(List.length x.wt):Int) != y0) (some (i 1,[])) (sl ((cnE tI x.wt)&&true) (sl (Nat.beq t1.alt 1) (sl t1.bs0 (some (i 1,[])) (sl ((cnE tLq x.cl)&&((cnE tLq x.cl)&&((cnE tI x.wt)&&true))) (sl (Nat.beq t2.1 1) (some (i 13,[])) (sl (Nat.beq t2.1 2) (some (i 0,[])) none)) none)) none) none))))
def Ca2(x:Prt):Int:=aa3 (one r1I) (fb3 x)
def Ca3(x:Prt):Bool:=okO (one r1I) (fb3 x)
def cc5:Sum:=ba7 cJ (λx=>.guard (Ca3 x) (.ret ((one r1I).enc (Ca2 x),[])))
theorem Ac7:l8 prog G 12 cc5:=dd5 (bd b12 sd0) (one r1I) (o:=fb3) λx=>da5 (.s .p (.s .p (.s .p (.s .p (.s (.s .p (.b (.u Ib4.ls))) .p))))) [Ib4.pr] (.cons id8 .nil)
def Db4(x:Prt):ROq:=let y0:=(↑(List.length x.cl):Int);let y2:=(List.replicate y0.toNat [b false]);let y1:=(inB y0 (room+1)&&inB y0 (room+1)&&Nat.ble y0.toNat y0.toNat&&Nat.ble (y0.toNat*1) room);(sl y1 (sl y1 (some ((.agg [(.tree 1 y0.toNat (λi=>g8 y2 (0+i))),(.tree 1 y0.toNat (λi=>g8 y2 (0+i))),nlq]),[])) none) none)
def Db5(x:Prt):Pce:=aa3 (one r1O) (Db4 x)
def kb5(x:Prt):Bool:=okO (one r1O) (Db4 x)
def Ac8:Sum:=ba7 cJ (λx=>.guard (kb5 x) (.ret ((one r1O).enc (Db5 x),[])))
theorem Zc6:l8 prog G 15 Ac8:=cb9 (bd b15 Aa9) (one r1O) (o:=Db4)
def gc6:List (Nat×Sum):=[(73,qb5)]
theorem Zc7:C6 prog G gc6:=⟨Ab1,trivial⟩
structure Aa1 where
 zb1:LPq
 is7:Int
def Sb3(p:Aa1)(s:D1):St:=⟨ra 6 (eL tLq p.zb1::i p.is7::i s.is8::ra 9 []),[]⟩
def Da2{α:Type}(k:D1->α)(e:Nat->α)(z:α)(p:Aa1)(s:D1):α:=let y0:=(gL tLq p.zb1 s.is8.toNat);let t1:=(ea0 (rt tP y0));(sl (decide (s.is8<p.is7)) (sl (inB s.is8 (List.length p.zb1)) (sl (okE tP y0) (sl (Ia6 (rt tP y0)) (sl (t1 != 0) (e 1) (k ⟨W (s.is8+1)⟩)) z) z) z) (e 2))
def ua7(p:Aa1)(s:D1):Stp D1:=Da2 .next .exit .fail p s
def sb7:Lo Aa1 D1:=⟨En gc6,0,ag2,[1,0,1,4,4],[6,7,8],.p,[⟨ru2 6 (sLq tLq::sIq::sIq::ru2 9 []),[],λa H=>(⟨aLq tLq a 6,aIq a 7⟩,⟨aIq a 8⟩)⟩],ua7,[(none,λp s=>let t1:=(ea0 (rt tP (gL tLq p.zb1 s.is8.toNat)));⟨[i t1],[]⟩),(some 0,λp s=>upq (Sb3 p s) [(9,b (decide (s.is8<p.is7)))])],Sb3⟩
theorem Qc9:sb7.Ok:=Lo.okq [] .nil λp s=>(.ofq @Da2)
def Ma7(x:LPq):ROq:=let t1:=(lp (ua7 (⟨rt tLq x,(↑(List.length x):Int)⟩:Aa1)) (⟨0⟩:D1));let t2:=(ea0 (rt tP (gL tLq (rt tLq x) t1.2.is8.toNat)));(sl ((cnE tLq x)&&true) (sl (Nat.beq t1.1 1) (some (i t2,[])) (sl (Nat.beq t1.1 2) (some (i 0,[])) none)) none)
def pa2(x:LPq):Int:=aa3 (one r1I) (Ma7 x)
def pa3(x:LPq):Bool:=okO (one r1I) (Ma7 x)
def Ib5:Sum:=ba7 (pa5 tLq) (λx=>.guard (pa3 x) (.ret ((one r1I).enc (pa2 x),[])))
theorem gc7:l8 prog G 45 Ib5:=dd5 (bd b45 Zc7) (one r1I) (o:=Ma7) λx=>da5 (.s .p (.s (.s .p (.b (.u sb7.ls))) .p)) [sb7.pr] (.cons Qc9 .nil)
def sd1:List (Nat×Sum):=[(12,cc5),(45,Ib5)]
theorem id9:C6 prog G sd1:=⟨Ac7,gc7,trivial⟩
def Va1(x:Prt)(y:Pce):ROq:=let y0:=(⟨x.nm,rt tLq x.cl,rt tI x.wt⟩:Prt);let t1:=(Ca2 y0);let t2:=(pa2 (rt tLq y.cu));(sl ((okE tLq x.cl)&&((okE tI x.wt)&&true)) (sl (Ca3 y0) (sl (t1 != 0) (some (i t1,[])) (sl ((↑(List.length y.su):Int) != (↑(List.length x.cl):Int)) (some (i 4,[])) (sl ((↑(List.length y.to):Int) != (↑(List.length x.cl):Int)) (some (i 4,[])) (sl (decide ((↑(List.length y.cu):Int)>24)) (some (i 4,[])) (sl (okE tLq y.cu) (sl (pa3 (rt tLq y.cu)) (sl (t2 != 0) (some (i 4,[])) (some (i 0,[]))) none) none))))) none) none)
def Ga2(x:Prt)(y:Pce):Int:=aa3 (one r1I) (Va1 x y)
def Ga3(x:Prt)(y:Pce):Bool:=okO (one r1I) (Va1 x y)
def sb8:Sum:=va4 cJ cO (λx y=>.guard (Ga3 x y) (.ret ((one r1I).enc (Ga2 x y),[])))
theorem Ib6:l8 prog G 44 sb8:=xc8 (bd b44 id9) (one r1I) (o:=Va1)
structure Df4 where
 j6:PLq
 Yb8:List Pt
 is5:Int
 mb3:PLq
structure Df5 where
 ph:Nat
 (is6 is7:Int)
structure Df6 where
structure Df7 where
 ph:Nat
 j6:PLq
 Yb8:List Pt
 is5:Int
 mb3:PLq
def nd9(l:PLq):Prop:=l.Pairwise LtP
theorem jd0{x y z:Pln}(h1:LtP x y)(h2:LtP y z):LtP x z:=by unfold LtP at *;omega
theorem ee0(x:Pln):¬ LtP x x:=by unfold LtP;omega
theorem Me8(x y:Pln):LtP x y\/x=y\/LtP y x:=by
 by_cases h1:LtP x y
 ·exact .inl h1
 ·by_cases h2:LtP y x
  ·exact .inr (.inr h2)
  ·refine .inr (.inl ?_);unfold LtP at h1 h2;have e1:x.n.x=y.n.x:=by omega
   have e2:x.n.y=y.n.y:=by omega
   have e3:x.n.z=y.n.z:=by omega
   have e4:x.b=y.b:=by omega
   cases x with | mk n b=>cases y with | mk m c=>cases n;cases m;simp_all
theorem Td9:∀{l r:PLq},nd9 l->nd9 r->(∀p,p∈l↔p∈r)->l=r
 |[],[],_,_,_=>rfl
 |[],b::r,_,_,h=>by have:=(h b).2 Qch;cases this
 |a::l,[],_,_,h=>by have:=(h a).1 Qch;cases this
 |a::l,b::r,hl,hr,h=>by
  obtain⟨hl1,hl2⟩:=Qjd.1 hl;obtain⟨hr1,hr2⟩:=Qjd.1 hr;have hab:a=b:=by
   rcases Qbi.1 ((h a).1 Qch) with e|h1
   ·exact e
   ·rcases Qbi.1 ((h b).2 Qch) with e|h2
    ·exact e.symm
    ·exact absurd (jd0 (hr1 a h1) (hl1 b h2)) (ee0 b)
  subst hab;rw[Td9 hl2 hr2 λp=>?_]
  constructor
  ·intro hp
   rcases Qbi.1 ((h p).1 (Qck _ hp)) with e|h1
   ·subst e;exact absurd (hl1 p hp) (ee0 p)
   ·exact h1
  ·intro hp
   rcases Qbi.1 ((h p).2 (Qck _ hp)) with e|h1
   ·subst e;exact absurd (hr1 p hp) (ee0 p)
   ·exact h1
def Md2:PLq->Pln->PLq
 |[],y=>[y]
 |a::l,y=>if Ub7 a y<0 then a::Md2 l y else if eqP a y then a::l else y::a::l
theorem Gd0(y p:Pln):∀x,p∈Md2 x y↔p=y\/p∈x
 |[]=>by simp[Md2]
 |a::l=>by
  unfold Md2;have ih:=Gd0 y p l;split
  ·simp only[Qbi,ih];constructor
   ·rintro (h|h|h)
    ·exact .inr (.inl h)
    ·exact .inl h
    ·exact .inr (.inr h)
   ·rintro (h|h|h)
    ·exact .inr (.inl h)
    ·exact .inl h
    ·exact .inr (.inr h)
  ·split
   ·rename_i h;rw[Yb1] at h;subst h;simp only[Qbi];constructor
    ·exact λh=>.inr h
    ·rintro (h|h)
     ·exact .inl h
     ·exact h
   ·simp only[Qbi]
theorem se7(y:Pln):∀{x},nd9 x->nd9 (Md2 x y)
 |[],_=>Qjh _ _
 |a::l,h=>by
  obtain⟨h1,h2⟩:=Qjd.1 h;unfold Md2;split
  ·rename_i hc;rw[ce2] at hc;refine Qjd.2 ⟨λp hp=>?_,se7 y h2⟩
   rcases (Gd0 y p l).1 hp with e|hp
   ·subst e;exact hc
   ·exact h1 p hp
  ·rename_i hc;rw[ce2] at hc;split
   ·exact h
   ·rename_i hne;have hlt:LtP y a:=by
     rcases Me8 y a with h|h|h
     ·exact h
     ·exact absurd ((Yb1 _ _).2 h.symm) hne
     ·exact absurd h hc
    refine Qjd.2 ⟨λp hp=>?_,h⟩
    rcases Qbi.1 hp with e|hp
    ·subst e;exact hlt
    ·exact jd0 hlt (h1 p hp)
end Go.Ev.Ce
namespace Go.Ev.Ce
def rmZ(p:Pln)(x:Pt):Int:=p.b*x.pw-(p.n.x*x.px+p.n.y*x.py+p.n.z*x.pz)
structure Inr(r:List Pln)(x:Pt):Prop where
 w:0<x.pw
 h:∀p∈r,0<=rmZ p x
def X9(p:Pln):Pln:=⟨⟨-p.n.x,-p.n.y,-p.n.z⟩,-p.b⟩
theorem Aa2(p:Pln)(x:Pt):rmZ (X9 p) x=-rmZ p x:=by unfold rmZ X9;grind
structure Cn(r:List Pln)(x:Pt):Prop extends Inr r x where
 c:∃p q s,p∈r/\q∈r/\s∈r/\mw p q s≠0/\rmZ p x=0/\rmZ q x=0/\rmZ s x=0
def Bdd(r:List Pln):Prop:=∀d:V3,d≠⟨0,0,0⟩->∃p∈r,0<dot p.n d
def go(x:Pt)(q:Pln)(d:V3):Pt:=⟨x.px*dot q.n d+rmZ q x*d.x,x.py*dot q.n d+rmZ q x*d.y,x.pz*dot q.n d+rmZ q x*d.z,x.pw*dot q.n d⟩
theorem se8(p q:Pln)(x:Pt)(d:V3):rmZ p (go x q d)=dot q.n d*rmZ p x-rmZ q x*dot p.n d:=by simp only[rmZ,go,dot];grind
theorem Ab7{a b c:Int}(hc:0<c)(h:a*c<=b*c):a<=b:=Int.le_of_mul_le_mul_right h hc
theorem first(x:Pt)(d:V3):∀r:List Pln,(∀p∈r,0<=rmZ p x)->(∃p∈r,0<dot p.n d)->∃q∈r,0<dot q.n d/\∀p∈r,0<dot p.n d->rmZ q x*dot p.n d<=rmZ p x*dot q.n d
 |[],_,h=>by obtain⟨p,hp,_⟩:=h;cases hp
 |a::r,hx,h=>by
  by_cases hr:∃p∈r,0<dot p.n d
  ·obtain⟨q,hq,h1,h2⟩:=first x d r (λp hp=>hx p (Qck _ hp)) hr
   by_cases ha:0<dot a.n d
   ·by_cases hc:rmZ q x*dot a.n d<=rmZ a x*dot q.n d
    ·grind
    ·refine⟨a,Qch,ha,λp hp h3=>?_⟩
     rcases Qbi.1 hp with rfl|hp
     ·exact Qjs _
     ·have h4:=h2 p hp h3;have h5:rmZ a x*dot q.n d<rmZ q x*dot a.n d:=by omega
      have h6:=Qjj h4 (Qjb ha);have h7:=Int.mul_lt_mul_of_pos_right h5 h3;have e1:rmZ q x*dot p.n d*dot a.n d=rmZ q x*dot a.n d*dot p.n d:=by grind
      have e2:rmZ a x*dot q.n d*dot p.n d=rmZ a x*dot p.n d*dot q.n d:=by grind
      have e3:rmZ p x*dot q.n d*dot a.n d=rmZ p x*dot a.n d*dot q.n d:=by grind
      refine Ab7 h1 ?_;omega
   grind
  grind
theorem step{r:List Pln}{x:Pt}(hx:Inr r x)(d:V3)(h:∃p∈r,0<dot p.n d):∃q∈r,0<dot q.n d/\Inr r (go x q d):=by
 obtain⟨q,hq,h1,h2⟩:=first x d r hx.h h;refine⟨q,hq,h1,⟨Qje hx.w h1,λp hp=>?_⟩⟩
 rw[se8];have h3:=hx.h p hp;have h4:=hx.h q hq;by_cases h5:0<dot p.n d
 ·grind
 ·have h6:=Qjc (Qjb h1) h3;have h7:rmZ q x*dot p.n d<=0:=Int.mul_nonpos_of_nonneg_of_nonpos h4 (by omega)
  omega
theorem mf8{h q:Pln}{x:Pt}{d:V3}(h1:0<=rmZ q x)(h2:0<=dot h.n d):rmZ h (go x q d)*x.pw<=rmZ h x*(go x q d).pw\/x.pw<=0:=by
 rcases Int.lt_or_le 0 x.pw with hw|hw
 ·left;rw[se8]
  have:=Qjc h1 h2
  have h3:=Qjc this (Qjb hw);have e:rmZ h x*(go x q d).pw=dot q.n d*rmZ h x*x.pw:=by unfold go;grind
  grind
 ·exact .inr hw
def neg(d:V3):V3:=⟨-d.x,-d.y,-d.z⟩
theorem Me9(a d:V3):dot a (neg d)=-dot a d:=by unfold dot neg;grind
theorem Uf1{d:V3}(h:d≠⟨0,0,0⟩):neg d≠⟨0,0,0⟩:=λh'=>h (by
 cases d;unfold neg at h';simp only[V3.mk.injEq] at h' ⊢;omega)
theorem turn(h:Pln){d:V3}(hd:d≠⟨0,0,0⟩):∃e,e≠(⟨0,0,0⟩:V3)/\0<=dot h.n e/\∀a,dot a d=0->dot a e=0:=by
 by_cases h1:0<=dot h.n d
 ·grind
 ·exact⟨neg d,Uf1 hd,by rw[Me9];omega,λa h=>by rw[Me9,h];rfl⟩
theorem Uf2{n:V3}(hn:n≠⟨0,0,0⟩):∃d,d≠(⟨0,0,0⟩:V3)/\dot n d=0:=by
 by_cases h:n.x=0/\n.y=0
 ·exact⟨⟨1,0,0⟩,by simp,by unfold dot;simp[h.1]⟩
 ·refine⟨⟨n.y,-n.x,0⟩,λh'=>h ?_,by unfold dot;grind⟩
  simp_all
theorem V3.ext'{a b:V3}(h1:a.x=b.x)(h2:a.y=b.y)(h3:a.z=b.z):a=b:=by cases a;cases b;simp_all
theorem se9{m n d:V3}(hm:m≠⟨0,0,0⟩)(h1:dot m d=0)(h2:dot n d≠0):C7 m n≠⟨0,0,0⟩:=λh=>by
 unfold C7 at h;simp only[V3.mk.injEq] at h;obtain⟨c1,c2,c3⟩:=h;unfold dot at h1 h2;have e1:m.x*(n.x*d.x+n.y*d.y+n.z*d.z)=0:=by grind
 have e2:m.y*(n.x*d.x+n.y*d.y+n.z*d.z)=0:=by grind
 have e3:m.z*(n.x*d.x+n.y*d.y+n.z*d.z)=0:=by grind
 have k:∀{a:Int},a*(n.x*d.x+n.y*d.y+n.z*d.z)=0->a=0:=λh=>(Qjf.1 h).resolve_right h2
 exact hm (V3.ext' (k e1) (k e2) (k e3))
theorem od0(a b:V3):dot a (C7 a b)=0:=by unfold dot C7;grind
theorem od1(a b:V3):dot b (C7 a b)=0:=by unfold dot C7;grind
theorem mf9{p q:Pln}{x:Pt}{d:V3}(h:rmZ p x=0)(h':dot p.n d=0):rmZ p (go x q d)=0:=by rw[se8,h,h'];simp
theorem nf0(q:Pln)(x:Pt)(d:V3):rmZ q (go x q d)=0:=by rw[se8];grind
theorem fg1{q:Pln}{d:V3}(h:0<dot q.n d):q.n≠⟨0,0,0⟩:=λh'=>by rw[h'] at h;unfold dot at h;simp at h
theorem Lf6{a b c u v w:Int}(hu:0<u)(hv:0<v)(hw:0<w)(h1:a*v<=b*u)(h2:b*w<=c*v):a*w<=c*u:=by
 have h3:=Qjj h1 (Qjb hw);have h4:=Qjj h2 (Qjb hu);have e1:a*v*w=a*w*v:=by grind
 have e2:b*u*w=b*w*u:=by grind
 have e3:c*v*u=c*u*v:=by grind
 exact Ab7 hv (by omega)
theorem nf1{r:List Pln}(hb:Bdd r)(h:Pln){x:Pt}(hx:Inr r x):∃v,Cn r v/\rmZ h v*x.pw<=rmZ h x*v.pw:=by
 obtain⟨d0,n0,p0,_⟩:=turn h (d:=⟨1,0,0⟩) (by simp)
 obtain⟨q1,m1,k1,i1⟩:=step hx d0 (hb d0 n0);have l1:=(mf8 (h:=h) (x:=x) (hx.h q1 m1) p0).resolve_right (by have:=hx.w;omega)
 obtain⟨e1,ne1,he1⟩:=Uf2 (fg1 k1);obtain⟨d1,n1,p1,z1⟩:=turn h ne1;obtain⟨q2,m2,k2,i2⟩:=step i1 d1 (hb d1 n1);have l2:=(mf8 (h:=h) (x:=go x q1 d0) (i1.h q2 m2) p1).resolve_right (by have:=i1.w;omega)
 have hc:=se9 (fg1 k1) (z1 _ he1) (n:=q2.n) (by omega)
 obtain⟨d2,n2,p2,z2⟩:=turn h hc;obtain⟨q3,m3,k3,i3⟩:=step i2 d2 (hb d2 n2);have l3:=(mf8 (h:=h) (x:=go (go x q1 d0) q2 d1) (i2.h q3 m3) p2).resolve_right (by have:=i2.w;omega)
 have a1:rmZ q1 (go (go x q1 d0) q2 d1)=0:=mf9 (nf0 _ _ _) (z1 _ he1);refine⟨_,⟨i3,q3,q1,q2,m3,m1,m2,λh0=>?_,nf0 _ _ _,mf9 a1 (z2 _ (od0 _ _)),mf9 (nf0 _ _ _) (z2 _ (od1 _ _))⟩,?_⟩
 ·have:dot q3.n d2=0:=z2 _ h0
  omega
 ·exact Lf6 i3.w i2.w hx.w l3 (Lf6 i2.w i1.w hx.w l2 l1)
theorem Ib7{r:List Pln}(hb:Bdd r){h:Pln}(hv:∀v,Cn r v->0<=rmZ h v){x:Pt}(hx:Inr r x):0<=rmZ h x:=by
 obtain⟨v,h1,h2⟩:=nf1 hb h hx;have h3:=Qjc (hv v h1) (Qjb hx.w);exact Ab7 h1.w (by rw[Qjm];omega)
def mid(x y:Pt):Pt:=⟨x.px*y.pw+y.px*x.pw,x.py*y.pw+y.py*x.pw,x.pz*y.pw+y.pz*x.pw,2*(x.pw*y.pw)⟩
theorem nf2(p:Pln)(x y:Pt):rmZ p (mid x y)=rmZ p x*y.pw+rmZ p y*x.pw:=by unfold rmZ mid;grind
theorem Inr.mid{r:List Pln}{x y:Pt}(hx:Inr r x)(hy:Inr r y):Inr r (mid x y):=⟨by unfold Ce.mid;exact Qje (by decide) (Qje hx.w hy.w),λp hp=>by
 rw[nf2];exact Int.add_nonneg (Qjc (hx.h p hp) (Qjb hy.w)) (Qjc (hy.h p hp) (Qjb hx.w))⟩
def te0(r:List Pln):Prop:=∃x:Pt,0<x.pw/\∀p∈r,0<rmZ p x
theorem Ne0{r:List Pln}:∀(l:List Pln),(∀p∈l,p∈r)->(∃x,Inr r x)->(∀p∈l,∃v,Inr r v/\0<rmZ p v)->∃x,Inr r x/\∀p∈l,0<rmZ p x
 |[],_,h,_=>by obtain⟨x,h⟩:=h;exact⟨x,h,λp hp=>by cases hp⟩
 |a::l,hl,h,hv=>by
  obtain⟨x,h1,h2⟩:=Ne0 l (λp hp=>hl p (Qck _ hp)) h (λp hp=>hv p (Qck _ hp))
  obtain⟨y,h3,h4⟩:=hv a Qch;refine⟨mid x y,h1.mid h3,λp hp=>?_⟩
  rw[nf2]
  rcases Qbi.1 hp with rfl|hp
  ·have:=Qjc (h1.h p (hl p Qch)) (Qjb h3.w)
   have:=Qje h4 h1.w
   omega
  ·have:=Qje (h2 p hp) h3.w
   have:=Qjc (h3.h p (hl p (Qck _ hp))) (Qjb h1.w)
   omega
theorem nf3{r:List Pln}(hb:Bdd r)(h0:r≠[]):te0 r↔∀p∈r,∃v,Cn r v/\0<rmZ p v:=by
 constructor
 ·intro ⟨x,hw,hx⟩ p hp;by_cases h:∃v,Cn r v/\0<rmZ p v
  ·exact h
  ·have hx':Inr r x:=⟨hw,λq hq=>Qjb (hx q hq)⟩
   have:=Ib7 hb (h:=X9 p) (λv hv=>by
    rw[Aa2]
    have:¬ 0<rmZ p v:=λh'=>h ⟨v,hv,h'⟩
    omega) hx'
   rw[Aa2] at this
   have:=hx p hp
   omega
 ·intro h;obtain⟨p,hp⟩:=List.exists_mem_of_ne_nil r h0;obtain⟨v,hv,_⟩:=h p hp;obtain⟨x,h1,h2⟩:=Ne0 r (λ_ h=>h) ⟨v,hv.toInr⟩ λp hp=>by
   obtain⟨v,hv,h⟩:=h p hp;exact⟨v,hv.toInr,h⟩
  exact⟨x,h1.w,h2⟩
structure Eqv(x v:Pt):Prop where
 e1:x.px*v.pw=v.px*x.pw
 e2:x.py*v.pw=v.py*x.pw
 e3:x.pz*v.pw=v.pz*x.pw
theorem Eqv.rm{x v:Pt}(h:Eqv x v)(p:Pln):rmZ p x*v.pw=rmZ p v*x.pw:=by
 obtain⟨e1,e2,e3⟩:=h;unfold rmZ
 grind
theorem Eqv.inr{r:List Pln}{x v:Pt}(h:Eqv x v)(hw:0<x.pw)(hv:Inr r v):Inr r x:=⟨hw,λp hp=>by
 have:=h.rm p
 have h2:=Qjc (hv.h p hp) (Qjb hw);exact Ab7 hv.w (by rw[Qjm];omega)⟩
end Go.Ev.Ce
namespace Go.Ev.Ce
open Go Go.Ev Go.Ev.L Go.Proofs
theorem We5{p:Pln}{x:Pt}(hp:Bd p)(hx:Okx x):rm p x=rmZ p x:=by
 unfold rm rmZ;obtain⟨w1,w2,⟨a1,a2⟩,⟨a3,a4⟩,a5,a6⟩:=hx;have h0:=mb hp.b1 hp.b2 (show -600000000000<=x.pw by omega) w2
 have h1:=mb hp.x1 hp.x2 a1 a2;have h2:=mb hp.y1 hp.y2 a3 a4;have h3:=mb hp.z1 hp.z2 a5 a6;exact ja8 (by omega) (by omega)
theorem Ne1{r:PLq}(hb:Bds r){x:Pt}(hx:Okx x):inn r x=true↔Inr r x:=by
 unfold inn;rw[Qcb];constructor
 ·intro h;refine⟨hx.w1,λp hp=>?_⟩
  have:=h p hp
  rw[We5 (hb p hp) hx] at this;simpa using this
 ·intro h p hp;rw[We5 (hb p hp) hx];simpa using h.h p hp
theorem Lf7{p q s:Pln}(h:(mpt p q s).2=true):mw p q s≠0/\∃k:Int,k≠0/\k*(mpt p q s).1.px=(mv p q s).x/\k*(mpt p q s).1.py=(mv p q s).y/\k*(mpt p q s).1.pz=(mv p q s).z/\k*(mpt p q s).1.pw=mw p q s:=by
 unfold mpt at h ⊢;by_cases h0:mw p q s=0
 ·rw[if_pos h0] at h;cases h
 refine⟨h0,?_⟩;have hg:=Ed0 (v:=mv p q s) h0;have dv:∀{x:Int},(gc (mv p q s) (mw p q s))∣x->gc (mv p q s) (mw p q s)*Int.tdiv x (gc (mv p q s) (mw p q s))=x:=λh=>Int.mul_tdiv_cancel' h
 have d1:gc (mv p q s) (mw p q s)∣(mv p q s).x:=by
  rw[<- Qjn];exact Qji.2 (Qjo (Qjl _ _) (Qjl _ _))
 have d2:gc (mv p q s) (mw p q s)∣(mv p q s).y:=by
  rw[<- Qjn];exact Qji.2 (Qjo (Qjl _ _) (Qjk _ _))
 have d3:gc (mv p q s) (mw p q s)∣(mv p q s).z:=by
  rw[<- Qjn];exact Qji.2 (Qjo (Qjk _ _) (Qjl _ _))
 have d4:gc (mv p q s) (mw p q s)∣mw p q s:=by
  rw[<- Qjn];exact Qji.2 (Qjo (Qjk _ _) (Qjk _ _))
 rw[if_neg h0];by_cases h1:mw p q s<0
 ·rw[if_pos h1];have e:∀{x:Int},(gc (mv p q s) (mw p q s))∣x->-(gc (mv p q s) (mw p q s))*Int.tdiv (-x) (gc (mv p q s) (mw p q s))=x:=λ{x} h=>by
   rw[Int.neg_mul,dv ((Int.dvd_neg).2 h),Int.neg_neg]
  exact⟨-(gc (mv p q s) (mw p q s)),by omega,e d1,e d2,e d3,e d4⟩
 ·rw[if_neg h1];exact⟨gc (mv p q s) (mw p q s),by omega,dv d1,dv d2,dv d3,dv d4⟩
theorem nf4{p q s:Pln}(h:(mpt p q s).2=true):rmZ p (mpt p q s).1=0/\rmZ q (mpt p q s).1=0/\rmZ s (mpt p q s).1=0:=by
 obtain⟨_,k,hk,e1,e2,e3,e4⟩:=Lf7 h;generalize (mpt p q s).1=x at *
 have f:∀a:Pln,a.b*mw p q s-(a.n.x*(mv p q s).x+a.n.y*(mv p q s).y+a.n.z*(mv p q s).z)=0->rmZ a x=0:=λa ha=>by
  rw[<- e1,<- e2,<- e3,<- e4] at ha
  have:k*rmZ a x=0:=by rw[<- ha];unfold rmZ;grind
  exact (Qjf.1 this).resolve_left hk
 refine⟨f p ?_,f q ?_,f s ?_⟩<;>(simp only[mw,mv,dot,C7];grind)
theorem Df8{p q s:Pln}(h:mw p q s≠0):(mpt p q s).2=true:=by
 unfold mpt;rw[if_neg h]
 split<;>rfl
theorem nf5{p q s:Pln}{x:Pt}(h1:rmZ p x=0)(h2:rmZ q x=0)(h3:rmZ s x=0):mw p q s*x.px=(mv p q s).x*x.pw/\mw p q s*x.py=(mv p q s).y*x.pw/\mw p q s*x.pz=(mv p q s).z*x.pw:=by
 have i1:(mv p q s).x*x.pw-mw p q s*x.px=(C7 q.n s.n).x*rmZ p x+(C7 s.n p.n).x*rmZ q x+(C7 p.n q.n).x*rmZ s x:=by simp only[mw,mv,dot,C7,rmZ];grind
 have i2:(mv p q s).y*x.pw-mw p q s*x.py=(C7 q.n s.n).y*rmZ p x+(C7 s.n p.n).y*rmZ q x+(C7 p.n q.n).y*rmZ s x:=by simp only[mw,mv,dot,C7,rmZ];grind
 have i3:(mv p q s).z*x.pw-mw p q s*x.pz=(C7 q.n s.n).z*rmZ p x+(C7 s.n p.n).z*rmZ q x+(C7 p.n q.n).z*rmZ s x:=by simp only[mw,mv,dot,C7,rmZ];grind
 rw[h1,h2,h3] at i1 i2 i3;simp only[Int.mul_zero,Int.add_zero] at i1 i2 i3;omega
theorem Uf3{p q s:Pln}{x v:Pt}(h:mw p q s≠0)(h1:rmZ p x=0)(h2:rmZ q x=0)(h3:rmZ s x=0)(k1:rmZ p v=0)(k2:rmZ q v=0)(k3:rmZ s v=0):Eqv x v:=by
 obtain⟨a1,a2,a3⟩:=nf5 h1 h2 h3;obtain⟨c1,c2,c3⟩:=nf5 k1 k2 k3;have f:∀{a c m:Int},mw p q s*a=m*x.pw->mw p q s*c=m*v.pw->a*v.pw=c*x.pw:=λ{a c m} ha hc=>by
  have:mw p q s*(a*v.pw-c*x.pw)=0:=by grind
  have:=(Qjf.1 this).resolve_left h
  omega
 exact⟨f a1 c1,f a2 c2,f a3 c3⟩
theorem We6{r:PLq}{p q:Pln}{out:List Pt}{s:Pln}{x:Pt}(h:x∈out):x∈Ua4 r p q out s:=by
 unfold Ua4;split
 ·exact Qbj _ h
 ·exact h
theorem Gd1{r:PLq}{p q:Pln}{x:Pt}:∀{l:PLq} {out:List Pt},x∈out->x∈Hb4 r p q l out
 |[],_,h=>h
 |s::l,out,h=>Gd1 (l:=l) (out:=Ua4 r p q out s) (We6 h)
theorem Zc8{r:PLq}{p:Pln}{x:Pt}:∀{l:PLq} {out:List Pt},x∈out->x∈rb8 r p l out
 |[],_,h=>h
 |_::l,_,h=>Zc8 (l:=l) (Gd1 h)
theorem te1{r:PLq}{x:Pt}:∀{l:PLq} {out:List Pt},x∈out->x∈Yc4 r l out
 |[],_,h=>h
 |_::l,_,h=>te1 (l:=l) (Zc8 h)
theorem We7{r:PLq}{p q:Pln}{out:List Pt}{s:Pln}(h1:(mpt p q s).2=true)(h2:inn r (mpt p q s).1=true):(mpt p q s).1∈Ua4 r p q out s:=by
 unfold Ua4;rw[h1,h2];cases h:zc9 out (mpt p q s).1 with
 |true=>simpa using (kf4 _ _).1 h
 |false=>simp
theorem Gd2{r:PLq}{p q s:Pln}(h1:(mpt p q s).2=true)(h2:inn r (mpt p q s).1=true):∀{l:PLq} {out:List Pt},s∈l->(mpt p q s).1∈Hb4 r p q l out
 |[],_,h=>by cases h
 |t::l,out,h=>by
  show _∈Hb4 r p q l (Ua4 r p q out t)
  rcases Qbi.1 h with rfl|h
  ·exact Gd1 (We7 h1 h2)
  ·exact Gd2 h1 h2 h
structure Hit(r:PLq)(Q:Pt->Prop)(p q s:Pln):Prop where
 h1:(mpt p q s).2=true
 h2:inn r (mpt p q s).1=true
 h3:Q (mpt p q s).1
theorem te2{r:PLq}{Q:Pt->Prop}{p q s:Pln}(hq:Hit r Q p q s)(hs:Hit r Q p s q)(hne:q≠s):∀{l:PLq} {out:List Pt},q∈l->s∈l->∃x∈rb8 r p l out,Q x
 |[],_,h,_=>by cases h
 |t::l,out,hql,hsl=>by
  show ∃x∈rb8 r p l (Hb4 r p t l out),Q x
  rcases Qbi.1 hql with rfl|h1
  ·have h2:=(Qbi.1 hsl).resolve_left λh=>hne h.symm
   exact⟨_,Zc8 (Gd2 hq.h1 hq.h2 h2),hq.h3⟩
  ·rcases Qbi.1 hsl with rfl|h2
   ·exact⟨_,Zc8 (Gd2 hs.h1 hs.h2 h1),hs.h3⟩
   ·exact te2 hq hs hne (l:=l) h1 h2
theorem te3{r:PLq}{Q:Pt->Prop}{p q s:Pln}(H:∀a c d,(a=p\/a=q\/a=s)->(c=p\/c=q\/c=s)->(d=p\/d=q\/d=s)->a≠c->c≠d->a≠d->Hit r Q a c d)(h1:p≠q)(h2:q≠s)(h3:p≠s) :
  ∀{l:PLq} {out:List Pt},p∈l->q∈l->s∈l->∃x∈Yc4 r l out,Q x
 |[],_,h,_,_=>by cases h
 |t::l,out,hp,hq,hs=>by
  have fin:∀{a c d:Pln} {out:List Pt},(a=p\/a=q\/a=s)->(c=p\/c=q\/c=s)->(d=p\/d=q\/d=s)->a≠c->c≠d->a≠d->c∈l->d∈l->∃x∈Yc4 r l (rb8 r a l out),Q x:=λha hc hd n1 n2 n3 m1 m2=>by
   obtain⟨x,hx,hQ⟩:=te2 (H _ _ _ ha hc hd n1 n2 n3) (H _ _ _ ha hd hc n3 n2.symm n1) n2 (out:=_) m1 m2;exact⟨x,te1 hx,hQ⟩
  show ∃x∈Yc4 r l (rb8 r t l out),Q x
  rcases Qbi.1 hp with rfl|hp'
  ·exact fin (.inl rfl) (.inr (.inl rfl)) (.inr (.inr rfl)) h1 h2 h3 ((Qbi.1 hq).resolve_left (Ne.symm h1)) ((Qbi.1 hs).resolve_left (Ne.symm h3))
  ·rcases Qbi.1 hq with rfl|hq'
   ·exact fin (.inr (.inl rfl)) (.inl rfl) (.inr (.inr rfl)) (Ne.symm h1) h3 h2 hp' ((Qbi.1 hs).resolve_left (Ne.symm h2))
   ·rcases Qbi.1 hs with rfl|hs'
    ·exact fin (.inr (.inr rfl)) (.inl rfl) (.inr (.inl rfl)) (Ne.symm h3) h1 (Ne.symm h2) hp' hq'
    ·exact te3 H h1 h2 h3 hp' hq' hs'
theorem fg2{p q s:Pln}(h:mw p q s≠0):p≠q/\q≠s/\p≠s:=by
 refine⟨λe=>h ?_,λe=>h ?_,λe=>h ?_⟩<;>(subst e;simp only[mw,dot,C7];grind)
theorem Uf4{r:PLq}(hb:Bds r):∀x∈cor r,Cn r x:=Le7 λp hp q hq s hs h hi=>by
 obtain⟨w1,w2,w3,w4,w5⟩:=De9 (hb p hp) (hb q hq) (hb s hs) h;obtain⟨e1,e2,e3⟩:=nf4 h;exact⟨(Ne1 hb ⟨w1,w5,w2,w3,w4⟩).1 hi,p,q,s,hp,hq,hs,(Lf7 h).1,e1,e2,e3⟩
theorem nf6{r:PLq}(hb:Bds r){v:Pt}(hv:Cn r v):∃x∈cor r,Eqv x v:=by
 obtain⟨p,q,s,hp,hq,hs,hw,e1,e2,e3⟩:=hv.c;obtain⟨n1,n2,n3⟩:=fg2 hw;refine te3 (λa c d ha hc hd m1 m2 m3=>?_) n1 n2 n3 hp hq hs
 have hm:∀{a},(a=p\/a=q\/a=s)->a∈r/\rmZ a v=0:=λh=>by
  rcases h with rfl|rfl|rfl
  ·exact⟨hp,e1⟩
  ·exact⟨hq,e2⟩
  ·exact⟨hs,e3⟩
 have hw':mw a c d≠0:=by
  have k:mw a c d=mw p q s\/mw a c d=-mw p q s:=by
   rcases ha with rfl|rfl|rfl<;>rcases hc with rfl|rfl|rfl<;>rcases hd with rfl|rfl|rfl<;>first|exact absurd rfl m1|exact absurd rfl m2|exact absurd rfl m3|exact .inl rfl|(left;simp only[mw,dot,C7];grind;done)|(right;simp only[mw,dot,C7];grind;done)
  rcases k with k|k<;>omega
 have h:=Df8 hw';obtain⟨w1,w2,w3,w4,w5⟩:=De9 (hb a (hm ha).1) (hb c (hm hc).1) (hb d (hm hd).1) h;obtain⟨f1,f2,f3⟩:=nf4 h;have he:=Uf3 hw' f1 f2 f3 (hm ha).2 (hm hc).2 (hm hd).2;exact⟨h,(Ne1 hb ⟨w1,w5,w2,w3,w4⟩).2 (he.inr w1 hv.toInr),he⟩
theorem jd1(c:PLq):Bdd (c++ws):=λd hd=>by
 have k:∀{n:V3} {m:Int},(⟨n,m⟩:Pln)∈ws->0<dot n d->∃p∈c++ws,0<dot p.n d:=λh h'=>⟨_,Qce _ h,h'⟩
 by_cases h1:0<d.x
 ·exact k (n:=⟨1,0,0⟩) (m:=24) (by simp[ws]) (by unfold dot;simp;omega)
 by_cases h2:d.x<0
 ·exact k (n:=⟨-1,0,0⟩) (m:=24) (by simp[ws]) (by unfold dot;simp;omega)
 by_cases h3:0<d.y
 ·exact k (n:=⟨0,1,0⟩) (m:=24) (by simp[ws]) (by unfold dot;simp;omega)
 by_cases h4:d.y<0
 ·exact k (n:=⟨0,-1,0⟩) (m:=24) (by simp[ws]) (by unfold dot;simp;omega)
 by_cases h5:0<d.z
 ·exact k (n:=⟨0,0,1⟩) (m:=24) (by simp[ws]) (by unfold dot;simp;omega)
 by_cases h6:d.z<0
 ·exact k (n:=⟨0,0,-1⟩) (m:=24) (by simp[ws]) (by unfold dot;simp;omega)
 exact absurd (V3.ext' (by show d.x=0;omega) (by show d.y=0;omega) (by show d.z=0;omega)) hd
theorem Ne2{r:PLq}(hb:Bds r){p:Pln}(hp:Bd p):pos (cor r) p=true↔∃v,Cn r v/\0<rmZ p v:=by
 unfold pos;rw[Qiaa];constructor
 ·rintro⟨x,hx,h⟩;rw[We5 hp (Yc6 hb x hx)] at h;exact⟨x,Uf4 hb x hx,by simpa using h⟩
 ·rintro⟨v,hv,h⟩;obtain⟨x,hx,he⟩:=nf6 hb hv;refine⟨x,hx,?_⟩;rw[We5 hp (Yc6 hb x hx)];have h1:=he.rm p;have h2:=Qje h (Yc6 hb x hx).w1
  have:0<rmZ p x:=Int.lt_of_mul_lt_mul_right (by rw[Qjm];omega:0*v.pw<rmZ p x*v.pw) (Qjb hv.w)
  simpa using this
theorem gc8{r:PLq}(hb:Bds r)(hd:Bdd r)(h0:r≠[]):rd4 r=true↔te0 r:=by
 rw[nf3 hd h0];unfold rd4;rw[Qcb];exact⟨λh p hp=>(Ne2 hb (hb p hp)).1 (h p hp),λh p hp=>(Ne2 hb (hb p hp)).2 (h p hp)⟩
end Go.Ev.Ce
namespace Go.Ev.Ce
def dv(z v:Pt):V3:=⟨v.px*z.pw-z.px*v.pw,v.py*z.pw-z.py*v.pw,v.pz*z.pw-z.pz*v.pw⟩
def thr(n:V3)(z:Pt):Pln:=⟨⟨z.pw*n.x,z.pw*n.y,z.pw*n.z⟩,n.x*z.px+n.y*z.py+n.z*z.pz⟩
theorem nf7(n:V3)(z x:Pt):rmZ (thr n z) x=-dot n (dv z x):=by simp only[rmZ,thr,dot,dv];grind
theorem nf8{p:Pln}{z v:Pt}(hz:rmZ p z≠0)(hv:rmZ p v=0)(hw:0<v.pw):dv z v≠⟨0,0,0⟩:=λh=>by
 unfold dv at h;simp only[V3.mk.injEq] at h;obtain⟨e1,e2,e3⟩:=h
 have:rmZ p z*v.pw=rmZ p v*z.pw:=by unfold rmZ;grind
 rw[hv,Qjm] at this;exact (Qjf.1 this).elim hz (by omega)
theorem Uf5{p:Pln}{z:Pt}(hz:rmZ p z≠0):∀l:List Pt,l.length<=2->(∀v∈l,rmZ p v=0/\0<v.pw)->∃n,n≠(⟨0,0,0⟩:V3)/\∀v∈l,dot n (dv z v)=0
 |[],_,_=>⟨⟨1,0,0⟩,by simp,λv h=>by cases h⟩
 |[v],_,h=>by
  obtain⟨h1,h2⟩:=h v (by simp)
  obtain⟨d,hd,he⟩:=Uf2 (nf8 hz h1 h2);exact⟨d,hd,λu hu=>by rw[Qja.1 hu,<- he];unfold dot;grind⟩
 |[v,u],_,h=>by
  obtain⟨h1,h2⟩:=h v (by simp)
  by_cases hc:C7 (dv z v) (dv z u)=⟨0,0,0⟩
  ·obtain⟨d,hd,he⟩:=Uf2 (nf8 hz h1 h2);have hu:dot (dv z u) d=0:=by
    by_cases h0:dot (dv z u) d=0
    ·exact h0
    ·exact absurd hc (se9 (nf8 hz h1 h2) he h0)
   refine⟨d,hd,λx hx=>?_⟩
   simp only[Qbi,Qiy,or_false] at hx
   rcases hx with rfl|rfl
   ·rw[<- he];unfold dot;grind
   ·rw[<- hu];unfold dot;grind
  ·refine⟨_,hc,λx hx=>?_⟩
   simp only[Qbi,Qiy,or_false] at hx
   rcases hx with rfl|rfl
   ·rw[<- od0 (dv z x) (dv z u)];unfold dot;grind
   ·rw[<- od1 (dv z v) (dv z x)];unfold dot;grind
 |_::_::_::_,h,_=>by simp at h
def Uf6(p:Pln)(z v:Pt):Pt:=⟨rmZ p v*z.px-rmZ p z*v.px,rmZ p v*z.py-rmZ p z*v.py,rmZ p v*z.pz-rmZ p z*v.pz,rmZ p v*z.pw-rmZ p z*v.pw⟩
theorem ee1(p q:Pln)(z v:Pt):rmZ q (Uf6 p z v)=rmZ p v*rmZ q z-rmZ p z*rmZ q v:=by
 generalize ha:rmZ p v=a;generalize hb:rmZ p z=c;simp only[rmZ,Uf6] at *
 rw[ha,hb]
 grind
theorem Df9{r r':List Pln}(hs:∀p∈r',p∈r){v:Pt}(h:Cn r' v)(hi:Inr r v):Cn r v:=by
 obtain⟨p,q,s,hp,hq,hs',hw,e⟩:=h.c;exact⟨hi,p,q,s,hs p hp,hs q hq,hs s hs',hw,e⟩
theorem nf9{r:List Pln}(hb:Bdd r)(hB:te0 r){h:Pln}(hn:h.n≠⟨0,0,0⟩):¬ ∀x,Inr r x->rmZ h x=0:=λH=>by
 obtain⟨x,hw,hx⟩:=hB;have hi:Inr r x:=⟨hw,λp hp=>Qjb (hx p hp)⟩
 obtain⟨q,hq,h1,h2⟩:=step hi h.n (hb h.n hn);have h3:=H _ h2;rw[se8,H _ hi] at h3;have h4:=hx q hq;have h5:0<dot h.n h.n:=by
  have k:∀a:Int,a≠0->0<a*a:=λa ha=>by
   rcases Int.lt_or_gt_of_ne ha with h|h
   ·exact Qjp h h
   ·exact Qje h h
  have k0:∀a:Int,0<=a*a:=λa=>by
   by_cases h:a=0
   ·subst h;decide
   ·exact Qjb (k a h)
  have a1:=k0 h.n.x;have a2:=k0 h.n.y;have a3:=k0 h.n.z;unfold dot;by_cases c1:h.n.x=0
  ·by_cases c2:h.n.y=0
   ·have:=k h.n.z (λc3=>hn (V3.ext' c1 c2 c3));omega
   ·have:=k _ c2;omega
  ·have:=k _ c1;omega
 have:=Qje h4 h5
 omega
theorem fg3{r r':List Pln}{p:Pln}(hb:Bdd r)(hB:te0 r)(hp:p∈r)(hr:∀q∈r,q∈r'\/q=p)
  (l:List Pt) (hl:l.length<=2) (hl0:∀v∈l,rmZ p v=0/\0<v.pw) (hc:∀v,Cn r v->rmZ p v=0->∃x∈l,Eqv x v) {z:Pt} (hz:Inr r' z):Inr r z:=by
 by_cases h0:0<=rmZ p z
 ·exact⟨hz.w,λq hq=>(hr q hq).elim (hz.h q) λe=>e ▸ h0⟩
 exfalso;have hneg:rmZ p z<0:=by omega
 obtain⟨n,hn,hv⟩:=Uf5 (p:=p) (z:=z) (by omega) l hl hl0
 have hn':(thr n z).n≠⟨0,0,0⟩:=λe=>hn (by
  unfold thr at e;simp only[V3.mk.injEq] at e;have k:∀{a:Int},z.pw*a=0->a=0:=λh=>(Qjf.1 h).resolve_left (by have:=hz.w;omega)
  exact V3.ext' (k e.1) (k e.2.1) (k e.2.2))
 -- the face lies in that plane
 have hface:∀u,Inr r u->rmZ p u=0->rmZ (thr n z) u=0:=λu hu hu0=>by
  have hbd:Bdd (X9 p::r):=λd hd=>by
   obtain⟨q,hq,h⟩:=hb d hd;exact⟨q,Qck _ hq,h⟩
  have hiu:Inr (X9 p::r) u:=⟨hu.w,λq hq=>by
   rcases Qbi.1 hq with rfl|hq
   ·rw[Aa2,hu0];decide
   ·exact hu.h q hq⟩
  have hvx:∀v,Cn (X9 p::r) v->rmZ (thr n z) v=0:=λv hcv=>by
   have hir:Inr r v:=⟨hcv.w,λq hq=>hcv.h q (Qck _ hq)⟩
   have hp0:rmZ p v=0:=by
    have h1:=hcv.h (X9 p) Qch;rw[Aa2] at h1;have h2:=hir.h p hp;omega
   obtain⟨a,c,d,ha,hc',hd,hw,e1,e2,e3⟩:=hcv.c
   -- a plane that is turned round gives the same nf1
   have fl:∀{a c d:Pln},mw (X9 a) c d=-mw a c d/\mw c (X9 a) d=-mw c a d/\mw c d (X9 a)=-mw c d a:=λ{a c d}=>by
    refine⟨?_,?_,?_⟩<;>(simp only[mw,dot,C7,X9];grind)
   have hr0:∀{a:Pln},rmZ (X9 a) v=0->rmZ a v=0:=λh=>by rw[Aa2] at h;omega
   have hcn:Cn r v:=by
    refine⟨hir,?_⟩
    rcases Qbi.1 ha with rfl|ha<;>rcases Qbi.1 hc' with rfl|hc'<;>rcases Qbi.1 hd with rfl|hd
    ·exact absurd (by simp only[mw,dot,C7];grind) hw
    ·exact absurd (by simp only[mw,dot,C7];grind) hw
    ·exact absurd (by simp only[mw,dot,C7];grind) hw
    ·exact⟨p,c,d,hp,hc',hd,by have:=(fl (a:=p) (c:=c) (d:=d)).1;omega,hp0,e2,e3⟩
    ·exact absurd (by simp only[mw,dot,C7];grind) hw
    ·exact⟨a,p,d,ha,hp,hd,by have:=(fl (a:=p) (c:=a) (d:=d)).2.1;omega,e1,hp0,e3⟩
    ·exact⟨a,c,p,ha,hc',hp,by have:=(fl (a:=p) (c:=a) (d:=c)).2.2;omega,e1,e2,hp0⟩
    ·exact⟨a,c,d,ha,hc',hd,hw,e1,e2,e3⟩
   obtain⟨x,hx,he⟩:=hc v hcn hp0;have h1:=he.rm (thr n z);rw[nf7 n z x,hv x hx] at h1;have h1:rmZ (thr n z) v*x.pw=0:=by omega
   exact (Qjf.1 h1).resolve_right (by have:=(hl0 x hx).2;omega)
  have a1:=Ib7 hbd (h:=thr n z) (λv hv=>by rw[hvx v hv];decide) hiu
  have a2:=Ib7 hbd (h:=X9 (thr n z)) (λv hv=>by rw[Aa2,hvx v hv];decide) hiu
  rw[Aa2] at a2;omega
 -- so do all vertices
 have hall:∀v,Inr r v->rmZ (thr n z) v=0:=λv hi=>by
  by_cases hv0:rmZ p v=0
  ·exact hface v hi hv0
  have hvp:0<rmZ p v:=by have:=hi.h p hp;omega
  have hu:Inr r (Uf6 p z v):=by
   have w1:=Qje hvp hz.w;have w2:rmZ p z*v.pw<0:=Int.mul_neg_of_neg_of_pos hneg hi.w;refine⟨by show 0<rmZ p v*z.pw-rmZ p z*v.pw;omega,λq hq=>?_⟩
   rw[ee1]
   rcases hr q hq with h|rfl
   ·have b1:=Qjc (Qjb hvp) (hz.h q h);have b2:rmZ p z*rmZ q v<=0:=Int.mul_nonpos_of_nonpos_of_nonneg (Qjb hneg) (hi.h q hq);omega
   ·have:=Int.mul_comm (rmZ q v) (rmZ q z);omega
  have h1:=hface _ hu (by rw[ee1];have:=Int.mul_comm (rmZ p v) (rmZ p z);omega)
  rw[ee1] at h1;have h2:rmZ (thr n z) z=0:=by rw[nf7];simp only[dot,dv];grind
  rw[h2] at h1;have h1:rmZ p z*rmZ (thr n z) v=0:=by omega
  exact (Qjf.1 h1).resolve_left (by omega)
 exact nf9 hb hB hn' hall
end Go.Ev.Ce
namespace Go.Ev.Ce
open Go Go.Ev Go.Ev.L Go.Proofs
theorem Ne3(p:Pln):∀(a:Pln) (l:PLq),p∈a::ddF a l↔p∈a::l
 |a,[]=>by simp[ddF]
 |a,x::l=>by
  have ih:=Ne3 p x l;unfold ddF;split
  ·rename_i h;rw[Yb1] at h;subst h;rw[ih];simp
  ·simp only[Qbi] at ih ⊢;rw[ih]
theorem of0(p:Pln):∀l:PLq,p∈dd l↔p∈l
 |[]=>Iff.rfl
 |x::l=>Ne3 p x l
theorem Ne4:∀(a:Pln) (l:PLq),(a::l).Pairwise (λx y=>(!ltOf Ub7 y x)=true)->nd9 (a::ddF a l)
 |a,[],_=>Qjh _ _
 |a,x::l,h=>by
  obtain⟨h1,h2⟩:=Qjd.1 h;have ih:=Ne4 x l h2;have hle:=h1 x Qch;rw[yb0] at hle;have hle:¬ LtP x a:=by simpa using hle
  unfold ddF;split
  ·rename_i he;rw[Yb1] at he;subst he;exact ih
  ·rename_i hne;have hlt:LtP a x:=by
    rcases Me8 a x with h|h|h
    ·exact h
    ·exact absurd ((Yb1 _ _).2 h.symm) hne
    ·exact absurd h hle
   refine Qjd.2 ⟨λp hp=>?_,ih⟩
   rcases Qbi.1 hp with e|hp'
   ·subst e;exact hlt
   ·exact jd0 hlt ((Qjd.1 ih).1 p hp')
theorem Uf7(l:PLq):nd9 (dd (kb0 l)):=by
 have h:=de5 l;cases hs:kb0 l with
 |nil=>exact .nil
 |cons a l'=>rw[hs] at h;exact Ne4 a l' h
def Ud0(X:List Pt)(out:PLq)(p:Pln):PLq:=if keep X p then Md2 out p else out
theorem Ud1(X:List Pt)(p:Pln):∀(c out:PLq),p∈c.foldl (Ud0 X) out↔p∈out\/p∈c.filter (keep X)
 |[],out=>by simp
 |a::c,out=>by
  rw[List.foldl_cons,Ud1 X p c,Qio];unfold Ud0;split
  ·rw[Gd0,Qbi];constructor
   ·rintro ((h|h)|h)
    ·exact .inr (.inl h)
    ·exact .inl h
    ·exact .inr (.inr h)
   ·rintro (h|h|h)
    ·exact .inl (.inr h)
    ·exact .inl (.inl h)
    ·exact .inr h
  ·exact Iff.rfl
theorem Ud2(X:List Pt):∀(c out:PLq),nd9 out->nd9 (c.foldl (Ud0 X) out)
 |[],_,h=>h
 |a::c,out,h=>by
  rw[List.foldl_cons];refine Ud2 X c _ ?_;unfold Ud0;split
  ·exact se7 a h
  ·exact h
theorem of1(X:List Pt)(c:PLq):c.foldl (Ud0 X) []=dd (kb0 (c.filter (keep X))) :=
 Td9 (Ud2 X c [] .nil) (Uf7 _) λp=>by
  rw[Ud1,of0,(Ed9 _).mem_iff];simp
def Ef0(l:PLq)(p:Pln):Bool:=l.any λq=>eqP q p
theorem te4(l:PLq)(p:Pln):Ef0 l p=true↔p∈l:=by
 unfold Ef0;rw[Qiaa];exact⟨λ⟨q,h,e⟩=>by rw[Yb1] at e;exact e ▸ h,λh=>⟨p,h,(Yb1 p p).2 rfl⟩⟩
def but(r l:PLq):PLq:=r.filter λp=>Ef0 ws p||!Ef0 l p
theorem Mb9(r l:PLq)(p:Pln):p∈but r l↔p∈r/\(p∈ws\/p∉l):=by
 unfold but;rw[Qff,Qcg,te4,Qcc,<- Qiz,te4]
theorem Ne5{c:PLq}(hb:Bds (c++ws))(hB:te0 (c++ws)):∀l:PLq,(∀p∈l,p∈c/\onc (cor (c++ws)) p<=2)->∀z,Inr (but (c++ws) l) z->Inr (c++ws) z
 |[],_,z,hz=>⟨hz.w,λp hp=>hz.h p ((Mb9 _ _ _).2 ⟨hp,.inr (by simp)⟩)⟩
 |a::l,hl,z,hz=>by
  have ih:=Ne5 hb hB l λp hp=>hl p (Qck _ hp)
  refine ih z ?_;obtain⟨ha,hn⟩:=hl a Qch;have har:a∈c++ws:=Qbj _ ha;by_cases h0:a∈ws\/a∈l
  ·refine⟨hz.w,λp hp=>hz.h p ?_⟩
   obtain⟨h1,h2⟩:=(Mb9 _ _ _).1 hp;refine (Mb9 _ _ _).2 ⟨h1,?_⟩
   rcases h2 with h2|h2
   ·exact .inl h2
   ·by_cases hpa:p=a
    ·subst hpa
     rcases h0 with h0|h0
     ·exact .inl h0
     ·exact absurd h0 h2
    ·exact .inr λh=>(Qbi.1 h).elim hpa h2
  ·have hw:a∉ws:=λh=>h0 (.inl h)
   have hal:a∉l:=λh=>h0 (.inr h)
   have sub:∀p∈but (c++ws) l,p∈c++ws:=λp hp=>((Mb9 _ _ _).1 hp).1
   refine fg3 (r:=but (c++ws) l) (r':=but (c++ws) (a::l)) (p:=a) ?_ ?_ ((Mb9 _ _ _).2 ⟨har,.inr hal⟩) ?_ ((cor (c++ws)).filter λx=>rm a x==0) ?_ ?_ ?_ hz
   ·intro d hd;obtain⟨p,hp,h⟩:=jd1 [] d hd;exact⟨p,(Mb9 _ _ _).2 ⟨Qce _ hp,.inl hp⟩,h⟩
   ·obtain⟨x,h1,h2⟩:=hB;exact⟨x,h1,λp hp=>h2 p (sub p hp)⟩
   ·intro q hq;obtain⟨h1,h2⟩:=(Mb9 _ _ _).1 hq;by_cases hqa:q=a
    ·exact .inr hqa
    ·exact .inl ((Mb9 _ _ _).2 ⟨h1,h2.elim .inl λh=>.inr λh'=>(Qbi.1 h').elim hqa h⟩)
   ·rw[<- List.countP_eq_length_filter];exact hn
   ·intro v hv;obtain⟨h1,h2⟩:=Qff.1 hv;have hx:=Yc6 hb v h1;rw[We5 (hb a har) hx] at h2;exact⟨by simpa using h2,hx.w1⟩
   ·intro v hv h0;have hv':Cn (c++ws) v:=Df9 sub hv (ih v hv.toInr);obtain⟨x,hx,he⟩:=nf6 hb hv';have hok:=Yc6 hb x hx;refine⟨x,Qff.2 ⟨hx,?_⟩,he⟩;rw[We5 (hb a har) hok];have h1:=he.rm a;rw[h0,Qjm] at h1
    have:=(Qjf.1 h1).resolve_right (by have:=hv.w;omega)
    simpa using this
theorem te5{c:PLq}(hf:ful c=true):(chk c==0)=true/\Bds (c++ws)/\te0 (c++ws):=by
 unfold ful at hf;rw[Qas] at hf;have hb:=(Mb3 hf.1).1;exact⟨hf.1,hb,(gc8 hb (jd1 c) (by simp[ws])).1 hf.2⟩
theorem te6{c:PLq}(hf:ful c=true)(p:Pln):p∈lean c↔p∈c/\keep (pts c) p=true:=by
 unfold lean;rw[if_pos hf,of0,(Ed9 _).mem_iff,Qff]
theorem Zc9(c:PLq):(lean c).length<=c.length:=by
 unfold lean;split
 ·have h1 : (dd (kb0 (c.filter (keep (pts c))))).length ≤ (kb0 (c.filter (keep (pts c)))).length := by
   cases kb0 (c.filter (keep (pts c))) with
   |nil=>exact Qaf _
   |cons a l=>have:=Me2 a l;simp only[dd,List.length_cons];omega
  rw[Hc4] at h1
  have:=List.length_filter_le (keep (pts c)) c
  omega
 ·exact Qbw _
def qg9(p:Pln)(v:V3):Int:=if okp p&&inV v then (if dot p.n v-p.b<0 then -1 else if dot p.n v-p.b>0 then 1 else 0) else 0
structure Thr(a b c:V3)(p:Pln):Prop where
 ok:okp p=true
 k:∃g:Int,0<g/\g*p.n.x=(C7 (sub b a) (sub c a)).x/\g*p.n.y=(C7 (sub b a) (sub c a)).y/\g*p.n.z=(C7 (sub b a) (sub c a)).z
 o:p.b=dot p.n a
theorem of2{p:Pln}(h:Bd p):Rb7 p=X9 p:=by
 unfold Rb7 gd3 X9
 simp only
 have:=h.x1;have:=h.x2;have:=h.y1;have:=h.y2;have:=h.z1;have:=h.z2;have:=h.b1;have:=h.b2
 rw[ja8 (by omega) (by omega),ja8 (by omega) (by omega),ja8 (by omega) (by omega),ja8 (by omega) (by omega)]
 simp only[Int.zero_sub]
theorem of3{p:Pln}(h:okp p=true):okp (X9 p)=true:=by
 unfold okp X9 g3 at *
 simp only[List.all_cons,List.all_nil,Qii,Qas,ud8,Int.natAbs_neg] at h ⊢;obtain⟨⟨h1,h2,h3⟩,h4,h5⟩:=h;exact⟨⟨h1.neg,h2.neg,h3.neg⟩,h4,h5.neg⟩
theorem Gd3{σ:Type}{step:σ->Stp σ}{mk:Nat->σ}(n:Nat)(c:Nat->Bool)(u fin:Nat)(hn:n<=1000000000)(h:∀j,j<n->step (mk j)=sl (c j) (.exit u) (.next (mk (j+1))))(hf:step (mk n)=.exit fin) :
  ∃j,lp step (mk 0)=(if (List.range n).any c then u else fin,mk j):=by
 have key:=va3 (step:=step) (mk:=λj (_:Unit)=>mk j) n (λj _=>j<=n/\∀i,i<j->c i=false) (λt s=>t=(if (List.range n).any c then u else fin)/\∃j,s=mk j) hn
  (λj _ hj hi=>by
   rw[h j hj];refine Nx.sl (λhc=>.ex ⟨?_,j,rfl⟩) (λhc=>.nx ⟨(),rfl,by omega,λi hi'=>?_⟩)
   ·rw[if_pos (Qiaa.2 ⟨j,Qca.2 hj,hc⟩)]
   ·by_cases e:i=j
    ·rw[e];exact hc
    ·exact hi.2 i (by omega))
  (λj _ hj hi=>by
   have e:j=n:=by omega
   subst e;refine⟨fin,hf,?_,j,rfl⟩;rw[if_neg λhh=>?_]
   obtain⟨i,hi1,hi2⟩:=Qiaa.1 hh;rw[hi.2 i (Qca.1 hi1)] at hi2;cases hi2) 0 () ⟨by omega,by omega⟩
 obtain⟨t,s,h1,rfl,j,rfl⟩:=key;exact⟨j,h1⟩
def hold(p:Pln)(l:List V3):Bool:=!l.any λv=>decide (qg9 p v>0)
def fg4(l:List V3)(a c:Nat)(out:PLq)(k:Nat):PLq :=
  if (Ee5 (gL tV l a) (gL tV l c) (gL tV l k)).2 then
    (if hold (X9 (Ee5 (gL tV l a) (gL tV l c) (gL tV l k)).1) l then Md2 (if hold (Ee5 (gL tV l a) (gL tV l c) (gL tV l k)).1 l then Md2 out (Ee5 (gL tV l a) (gL tV l c) (gL tV l k)).1 else out) (X9 (Ee5 (gL tV l a) (gL tV l c) (gL tV l k)).1)
     else (if hold (Ee5 (gL tV l a) (gL tV l c) (gL tV l k)).1 l then Md2 out (Ee5 (gL tV l a) (gL tV l c) (gL tV l k)).1 else out))
  else out
def F2(l:List V3)(a:Nat)(out:PLq)(c:Nat):PLq:=(List.range c).foldl (fg4 l a c) out
def F1(l:List V3)(out:PLq)(a:Nat):PLq:=(List.range a).foldl (F2 l a) out
def F0(l:List V3):PLq:=(List.range l.length).foldl (F1 l) []
theorem Uf8{p:Pln}(h:okp p=true):g3 p.n=1:=by
 unfold okp at h;simp only[Qas,beq_iff_eq] at h;exact h.2.1
theorem of4{p:Pln}(h:okp p=true):p.n≠⟨0,0,0⟩:=λe=>by
 have:=Uf8 h
 rw[e] at this
 revert this
 decide
structure rg7(l:List V3):Prop where
 h:∃a c k v,a∈l/\c∈l/\k∈l/\v∈l/\dot (C7 (sub c a) (sub k a)) (sub v a)≠0
structure Fct(l:List V3)(p:Pln):Prop where
 ok:okp p=true
 hd:hold p l=true
structure ee2(c:PLq):Prop where
 l:c.length<=47
 v:∀p∈c,okp p=true
 f:te0 (c++ws)
theorem ee2.chk{c:PLq}(h:ee2 c):(chk c==0)=true:=by
 rw[beq_iff_eq,Ua3];exact⟨by have:=h.l;omega,h.v⟩
theorem ee2.bds{c:PLq}(h:ee2 c):Bds (c++ws):=(Mb3 h.chk).1
theorem ee2.ful{c:PLq}(h:ee2 c):ful c=true:=by
 unfold Ce.ful;rw[h.chk,(gc8 h.bds (jd1 c) (by simp[ws])).2 h.f]
 rfl
theorem Uf9(p:Pln)(N:Int)(v x:Pt):rmZ p ⟨N*v.px+x.px,N*v.py+x.py,N*v.pz+x.pz,N*v.pw+x.pw⟩=N*rmZ p v+rmZ p x:=by unfold rmZ;grind
theorem ee2.pts{c:PLq}(h:ee2 c):pts c=cor (c++ws):=by unfold Ce.pts;rw[if_pos h.chk]
structure Ins(r:PLq)(x:Pt):Prop where
 w:0<x.pw
 h:∀p∈r,0<rmZ p x
theorem Ins.inr{r:PLq}{x:Pt}(h:Ins r x):Inr r x:=⟨h.w,λp hp=>Qjb (h.h p hp)⟩
theorem Gd4{r:PLq}:te0 r↔∃x,Ins r x:=⟨λ⟨x,h1,h2⟩=>⟨x,h1,h2⟩,λ⟨x,h⟩=>⟨x,h.w,h.h⟩⟩
theorem Ins.mono{r r':PLq}{x:Pt}(h:Ins r x)(hs:∀p∈r',p∈r):Ins r' x:=⟨h.w,λp hp=>h.h p (hs p hp)⟩
theorem Inr.mono{r r':PLq}{x:Pt}(h:Inr r x)(hs:∀p∈r',p∈r):Inr r' x:=⟨h.w,λp hp=>h.h p (hs p hp)⟩
theorem Ins.app{r r':PLq}{x:Pt}(h:Ins r x)(h':Ins r' x):Ins (r++r') x:=⟨h.w,λp hp=>(Qiq.1 hp).elim (h.h p) (h'.h p)⟩
theorem Inr.app{r r':PLq}{x:Pt}(h:Inr r x)(h':Inr r' x):Inr (r++r') x:=⟨h.w,λp hp=>(Qiq.1 hp).elim (h.h p) (h'.h p)⟩
def tow(N:Int)(y x:Pt):Pt:=⟨N*y.px+x.px,N*y.py+x.py,N*y.pz+x.pz,N*y.pw+x.pw⟩
theorem Vf0(p:Pln)(N:Int)(y x:Pt):rmZ p (tow N y x)=N*rmZ p y+rmZ p x:=Uf9 p N y x
theorem far{f g:Pln->Int}:∀l:PLq,(∀p∈l,0<f p)->∃N:Int,0<=N/\∀M,N<=M->∀p∈l,0<M*f p+g p
 |[],_=>⟨0,Qjs _,λ_ _ p hp=>by cases hp⟩
 |a::l,h=>by
  obtain⟨N,h0,h1⟩:=far l λp hp=>h p (Qck _ hp)
  have ha:=h a Qch;refine⟨max N ((g a).natAbs+1),by omega,λM hM p hp=>?_⟩
  rcases Qbi.1 hp with rfl|hp
  ·have:M*1<=M*f p:=Int.mul_le_mul_of_nonneg_left (by omega) (by omega)
   omega
  ·exact h1 M (by omega) p hp
theorem Vf1{r:PLq}{x y:Pt}(hy:Inr r y)(hx:Ins r x)(l:PLq)(hl:∀p∈l,0<rmZ p y):∃z,Ins (r++l) z:=by
 obtain⟨N,h0,h1⟩:=far (f:=λp=>rmZ p y) (g:=λp=>rmZ p x) l hl
 refine⟨tow N y x,by have:=Qjc h0 (Qjb hy.w);have:=hx.w;unfold tow;simp only;omega,λp hp=>?_⟩
 rw[Vf0]
 rcases Qiq.1 hp with hp|hp
 ·have:=Qjc h0 (hy.h p hp)
  have:=hx.h p hp
  omega
 ·exact h1 N (Qjs _) p hp
def mvd(N:Int)(x:Pt)(d:V3):Pt:=⟨N*x.px+d.x,N*x.py+d.y,N*x.pz+d.z,N*x.pw⟩
theorem ee3(p:Pln)(N:Int)(x:Pt)(d:V3):rmZ p (mvd N x d)=N*rmZ p x+-dot p.n d:=by simp only[rmZ,mvd,dot];grind
theorem of5{r:PLq}{x:Pt}(hx:Ins r x)(d:V3):∃N:Int,0<N/\Ins r (mvd N x d):=by
 obtain⟨N,h0,h1⟩:=far (f:=λp=>rmZ p x) (g:=λp=>-dot p.n d) r hx.h
 refine⟨N+1,by omega,by have:=Qje (show 0<N+1 by omega) hx.w;unfold mvd;simp only;omega,λp hp=>?_⟩
 rw[ee3];exact h1 (N+1) (by omega) p hp
theorem Vf2:∀p∈ws,okp p=true:=Qcb.1 (by decide)
theorem Gd5{n:V3}(h:n≠⟨0,0,0⟩):0<dot n n:=by
 have k:∀a:Int,0<=a*a/\(a≠0->0<a*a):=λa=>by
  rcases Int.lt_trichotomy a 0 with h|h|h
  ·have:=Qjp h h;exact⟨by omega,λ_=>this⟩
  ·subst h;exact⟨by decide,λh=>absurd rfl h⟩
  ·have:=Qje h h;exact⟨by omega,λ_=>this⟩
 unfold dot
 have:=k n.x;have:=k n.y;have:=k n.z
 by_cases hx:n.x=0
 ·by_cases hy:n.y=0
  ·by_cases hz:n.z=0
   ·exact absurd (V3.ext' hx hy hz) h
   ·have:=(k n.z).2 hz;omega
  ·have:=(k n.y).2 hy;omega
 ·have:=(k n.x).2 hx;omega
theorem Zb7{c:PLq}(h:(chk c==0)=true):∀p∈c++ws,okp p=true:=λp hp=>by
 rw[beq_iff_eq,Ua3] at h
 rcases Qiq.1 hp with hp|hp
 ·exact h.2 p hp
 ·exact Vf2 p hp
theorem ca8{c:PLq}:ful c=true↔(chk c==0)=true/\∃x,Ins (c++ws) x:=by
 unfold ful;rw[Qas];constructor
 ·rintro⟨h1,h2⟩;exact⟨h1,Gd4.1 ((gc8 (Mb3 h1).1 (jd1 c) (by simp[ws])).1 h2)⟩
 ·rintro⟨h1,h2⟩;exact⟨h1,(gc8 (Mb3 h1).1 (jd1 c) (by simp[ws])).2 (Gd4.2 h2)⟩
theorem Ya5{a c:PLq}(ha:(chk a==0)=true)(hc:(chk c==0)=true):apart a c=true↔∀z,Ins (a++ws) z->Ins (c++ws) z->False:=by
 unfold apart;rw[ha,hc];have hb:=(re9 ha hc).1;have h:=gc8 (r:=a++c++ws) hb (jd1 (a++c)) (by simp[ws])
 have key:rd4 (a++c++ws)=true↔∃z,Ins (a++ws) z/\Ins (c++ws) z:=by
  rw[h,Gd4];constructor
  ·rintro⟨z,hz⟩;exact⟨z,hz.mono λp hp=>by simp only[Qiq] at hp ⊢;rcases hp with h | h<;>simp[h],hz.mono λp hp=>by simp only[Qiq] at hp ⊢;rcases hp with h | h<;>simp[h]⟩
  ·rintro⟨z,h1,h2⟩;exact⟨z,(h1.app h2).mono λp hp=>by simp only[Qiq] at hp ⊢;rcases hp with (h | h) | h<;>simp[h]⟩
 constructor
 ·intro h z h1 h2;rw[key.2 ⟨z,h1,h2⟩] at h;cases h
 ·intro h;cases hb:rd4 (a++c++ws) with
  |false=>rfl
  |true =>
   obtain⟨z,h1,h2⟩:=key.1 hb;exact (h z h1 h2).elim
theorem gc9{c:PLq}{p:Pln}(h:p∈lean c):p∈c:=by
 cases hf:ful c with
 |true=>exact ((te6 hf p).1 h).1
 |false=>unfold lean at h;rw[hf] at h;cases h
theorem Ef1{c:PLq}(hf:ful c=false):lean c=[]:=by unfold lean;rw[hf];rfl
theorem sb9{c:PLq}(hf:ful c=true){z:Pt}:Inr (lean c++ws) z↔Inr (c++ws) z:=by
 obtain⟨hc,hb,hB⟩:=te5 hf;constructor
 ·intro h;have hpts:pts c=cor (c++ws):=by unfold pts;rw[if_pos hc]
  refine Ne5 hb hB (c.filter λp=>!keep (pts c) p) (λp hp=>?_) z ⟨h.w,λp hp=>?_⟩
  ·obtain⟨h1,h2⟩:=Qff.1 hp;refine⟨h1,?_⟩;rw[hpts] at h2;unfold keep at h2;simp only[Bool.not_not,decide_eq_true_eq] at h2;omega
  ·obtain⟨h1,h2⟩:=(Mb9 _ _ _).1 hp;by_cases hw:p∈ws
   ·exact h.h p (Qce _ hw)
   ·have h2:=h2.resolve_left hw;have h1:=(Qiq.1 h1).resolve_right hw;have hk:keep (pts c) p=true:=by
     cases hk:keep (pts c) p with
     |true=>rfl
     |false=>exact absurd (Qff.2 ⟨h1,by rw[hk];rfl⟩) h2
    exact h.h p (Qbj _ ((te6 hf p).2 ⟨h1,hk⟩))
 ·exact λh=>h.mono λp hp=>(Qiq.1 hp).elim (λh=>Qbj _ (gc9 h)) (Qce _)
theorem Ac9{c:PLq}(hf:ful c=true){z:Pt}:Ins (lean c++ws) z↔Ins (c++ws) z:=by
 obtain⟨hc,hb,hB⟩:=te5 hf;constructor
 ·intro h;refine⟨h.w,λp hp=>?_⟩
  have h0:=((sb9 hf).1 h.inr).h p hp;by_cases hz:rmZ p z=0
  ·exfalso;obtain⟨N,hN,hi⟩:=of5 h p.n;have h1:=((sb9 hf).1 hi.inr).h p hp;rw[ee3,hz] at h1
   have:=Gd5 (of4 (Zb7 hc p hp))
   omega
  ·omega
 ·exact λh=>h.mono λp hp=>(Qiq.1 hp).elim (λh=>Qbj _ (gc9 h)) (Qce _)
theorem te7{c:PLq}(hc:(chk c==0)=true):(chk (lean c)==0)=true:=by
 rw[beq_iff_eq,Ua3] at hc ⊢;exact⟨Qai (Zc9 c) hc.1,λp hp=>hc.2 p (gc9 hp)⟩
theorem te8{c:PLq}(hf:ful c=true):ful (lean c)=true:=by
 obtain⟨h1,x,hx⟩:=ca8.1 hf;exact ca8.2 ⟨te7 h1,x,(Ac9 hf).2 hx⟩
theorem We8{r:PLq}{p:Pln}(hf:ful (r++[X9 p])=true){x:Pt}(hx:Inr (r++ws) x)(h:0<rmZ p x):X9 p∈lean (r++[X9 p]):=by
 apply Qeb;intro hn;have h1:Inr (lean (r++[X9 p])++ws) x:=hx.mono λq hq=>by
  rcases Qiq.1 hq with hq|hq
  ·have:=gc9 hq
   rcases Qiq.1 this with h2|h2
   ·exact Qbj _ h2
   ·rw[Qja.1 h2] at hq;exact absurd hq hn
  ·exact Qce _ hq
 have:=((sb9 hf).1 h1).h (X9 p) (by simp)
 rw[Aa2] at this;omega
def M3(x fs:PLq):Nat->PLq
 |0=>x
 |j+1=>lean (M3 x fs j++[gL tP fs j])
def fb4(x fs:PLq)(j:Nat):PLq:=lean (M3 x fs j++[X9 (gL tP fs j)])
def Va2(x fs:PLq)(j:Nat):LPq:=((List.range j).map (fb4 x fs)).filter λc=>decide (0<c.length)
def Oa9(x fs:PLq):Bool:=(List.range fs.length).all λj=>decide ((M3 x fs j).length<48)
def Va3(q x:PLq):LPq:=if apart x q then [x] else Va2 x (lean q) (lean q).length
def kb6(q x:PLq):Bool:=apart x q||Oa9 x (lean q)
def T6(ps:LPq)(q:PLq):Option LPq :=
 if ful q then (if ps.all (kb6 q)&&decide ((ps.flatMap (Va3 q)).length<=200) then some (ps.flatMap (Va3 q)) else none) else some ps
def Sb4(c:PLq)(s:LPq):Option LPq :=
 s.foldl (λst q=>st.bind λps=>T6 ps q) (some (if ful c then [lean c] else []))
theorem Bc0{x fs:PLq}{n:Nat}{y:PLq}:y∈Va2 x fs n↔∃j,j<n/\y=fb4 x fs j/\y≠[]:=by
 unfold Va2;rw[Qff,Qbr];constructor
 ·rintro⟨⟨j,hj,rfl⟩,h⟩;exact⟨j,Qca.1 hj,rfl,λe=>by rw[e] at h;simp at h⟩
 ·rintro⟨j,hj,rfl,h⟩;exact⟨⟨j,Qca.2 hj,rfl⟩,by simpa using List.length_pos_iff.2 h⟩
section
variable{x fs:PLq}(hx:(chk x==0)=true)(hf:∀p∈fs,okp p=true){z0:Pt}(h1:Ins (x++ws) z0)(h2:Ins (fs++ws) z0)(h48:Oa9 x fs=true)
include hx hf h1 h2 h48
theorem gLp{fs:PLq}{j:Nat}(hj:j<fs.length):gL tP fs j∈fs:=S1 tP hj
theorem te9{j:Nat}(hj:j<fs.length):(M3 x fs j).length<48:=by
 have:=Qcb.1 h48 j (Qca.2 hj)
 simpa using this
theorem ad1:∀j,j<=fs.length->(chk (M3 x fs j)==0)=true/\(∀z,Inr (M3 x fs j++ws) z↔Inr (x++ws) z/\∀i,i<j->0<=rmZ (gL tP fs i) z) /\
  (∀z,Ins (M3 x fs j++ws) z↔Ins (x++ws) z/\∀i,i<j->0<rmZ (gL tP fs i) z)
 |0,_=>⟨hx,λz=>⟨λh=>⟨h,λi hi=>absurd hi (Qjq i)⟩,λh=>h.1⟩,λz=>⟨λh=>⟨h,λi hi=>absurd hi (Qjq i)⟩,λh=>h.1⟩⟩
 |j+1,hj=>by
  obtain⟨k1,k2,k3⟩:=ad1 j (by omega)
  have hl:=te9 hx hf h1 h2 h48 (show j<fs.length by omega)
  have hpj:=hf _ (gLp hx hf h1 h2 h48 (show j<fs.length by omega))
  have hc:(chk (M3 x fs j++[gL tP fs j])==0)=true:=by
   rw[beq_iff_eq,Ua3] at k1 ⊢;refine⟨by rw[Qdc];simp only[List.length_singleton];omega,λp hp=>?_⟩
   rcases Qiq.1 hp with hp|hp
   ·exact k1.2 p hp
   ·rw[Qja.1 hp];exact hpj
  have h0:Ins (M3 x fs j++ws) z0:=(k3 z0).2 ⟨h1,λi hi=>h2.h _ (Qbj _ (gLp hx hf h1 h2 h48 (by omega)))⟩
  have hz:0<rmZ (gL tP fs j) z0:=h2.h _ (Qbj _ (gLp hx hf h1 h2 h48 (by omega)))
  have hful:ful (M3 x fs j++[gL tP fs j])=true:=ca8.2 ⟨hc,z0,h0.w,λp hp=>by
   simp only[Qiq,Qja] at hp
   rcases hp with (hp|rfl)|hp
   ·exact h0.h p (Qbj _ hp)
   ·exact hz
   ·exact h0.h p (Qce _ hp)⟩
  refine⟨te7 hc,λz=>?_,λz=>?_⟩
  ·show Inr (lean (M3 x fs j++[gL tP fs j])++ws) z↔_;rw[sb9 hful];constructor
   ·intro h;obtain⟨a1,a2⟩:=(k2 z).1 (h.mono λp hp=>by simp only[Qiq] at hp ⊢;rcases hp with h|h<;>simp[h])
    refine⟨a1,λi hi=>?_⟩
    by_cases e:i=j
    ·subst e;exact h.h _ (by simp)
    ·exact a2 i (by omega)
   ·rintro⟨a1,a2⟩
    have:=(k2 z).2 ⟨a1,λi hi=>a2 i (by omega)⟩
    refine⟨a1.w,λp hp=>?_⟩
    simp only[Qiq,Qja] at hp
    rcases hp with (hp|rfl)|hp
    ·exact this.h p (Qbj _ hp)
    ·exact a2 j (by omega)
    ·exact this.h p (Qce _ hp)
  ·show Ins (lean (M3 x fs j++[gL tP fs j])++ws) z↔_;rw[Ac9 hful];constructor
   ·intro h;obtain⟨a1,a2⟩:=(k3 z).1 (h.mono λp hp=>by simp only[Qiq] at hp ⊢;rcases hp with h|h<;>simp[h])
    refine⟨a1,λi hi=>?_⟩
    by_cases e:i=j
    ·subst e;exact h.h _ (by simp)
    ·exact a2 i (by omega)
   ·rintro⟨a1,a2⟩
    have:=(k3 z).2 ⟨a1,λi hi=>a2 i (by omega)⟩
    refine⟨a1.w,λp hp=>?_⟩
    simp only[Qiq,Qja] at hp
    rcases hp with (hp|rfl)|hp
    ·exact this.h p (Qbj _ hp)
    ·exact a2 j (by omega)
    ·exact this.h p (Qce _ hp)
theorem ee4{j:Nat}(hj:j<fs.length):(fb4 x fs j=[]↔ful (M3 x fs j++[X9 (gL tP fs j)])=false)/\(fb4 x fs j≠[]->ful (fb4 x fs j)=true /\
  (∀z,Inr (fb4 x fs j++ws) z↔Inr (M3 x fs j++ws) z/\rmZ (gL tP fs j) z<=0)/\∀z,Ins (fb4 x fs j++ws) z↔Ins (M3 x fs j++ws) z/\rmZ (gL tP fs j) z<0):=by
 obtain⟨k1,k2,k3⟩:=ad1 hx hf h1 h2 h48 j (by omega)
 have h0:Ins (M3 x fs j++ws) z0:=(k3 z0).2 ⟨h1,λi hi=>h2.h _ (Qbj _ (gLp hx hf h1 h2 h48 (by omega)))⟩
 have hz:0<rmZ (gL tP fs j) z0:=h2.h _ (Qbj _ (gLp hx hf h1 h2 h48 (by omega)))
 have e:fb4 x fs j=[]↔ful (M3 x fs j++[X9 (gL tP fs j)])=false:=by
  constructor
  ·intro he;cases hq:ful (M3 x fs j++[X9 (gL tP fs j)]) with
   |false=>rfl
   |true =>
    have:=We8 hq h0.inr hz
    unfold fb4 at he;rw[he] at this;cases this
  ·exact Ef1
 refine⟨e,λhne=>?_⟩
 have hful:ful (M3 x fs j++[X9 (gL tP fs j)])=true:=by
  cases hq:ful (M3 x fs j++[X9 (gL tP fs j)]) with
  |true=>rfl
  |false=>exact absurd (e.2 hq) hne
 refine⟨te8 hful,λz=>?_,λz=>?_⟩
 ·unfold fb4;rw[sb9 hful];constructor
  ·intro h;refine⟨h.mono λp hp=>by simp only[Qiq] at hp ⊢;rcases hp with h | h<;>simp[h],?_⟩
   have:=h.h (X9 (gL tP fs j)) (by simp)
   rw[Aa2] at this;omega
  ·rintro⟨a1,a2⟩;refine⟨a1.w,λp hp=>?_⟩
   simp only[Qiq,Qja] at hp
   rcases hp with (hp|rfl)|hp
   ·exact a1.h p (Qbj _ hp)
   ·rw[Aa2];omega
   ·exact a1.h p (Qce _ hp)
 ·unfold fb4;rw[Ac9 hful];constructor
  ·intro h;refine⟨h.mono λp hp=>by simp only[Qiq] at hp ⊢;rcases hp with h | h<;>simp[h],?_⟩
   have:=h.h (X9 (gL tP fs j)) (by simp)
   rw[Aa2] at this;omega
  ·rintro⟨a1,a2⟩;refine⟨a1.w,λp hp=>?_⟩
   simp only[Qiq,Qja] at hp
   rcases hp with (hp|rfl)|hp
   ·exact a1.h p (Qbj _ hp)
   ·rw[Aa2];omega
   ·exact a1.h p (Qce _ hp)
theorem Ne6:∀j,j<=fs.length->∀z,Inr (x++ws) z->(∃y∈Va2 x fs j,Inr (y++ws) z)\/∀i,i<j->0<=rmZ (gL tP fs i) z
 |0,_,z,_=>.inr λi hi=>absurd hi (Qjq i)
 |j+1,hj,z,hz=>by
  rcases Ne6 j (by omega) z hz with⟨y,hy,h⟩|h
  ·obtain⟨i,hi,h3,h4⟩:=Bc0.1 hy;exact .inl ⟨y,Bc0.2 ⟨i,by omega,h3,h4⟩,h⟩
  ·obtain⟨k1,k2,k3⟩:=ad1 hx hf h1 h2 h48 j (by omega)
   have hr:Inr (M3 x fs j++ws) z:=(k2 z).2 ⟨hz,h⟩;by_cases hn:0<=rmZ (gL tP fs j) z
   ·refine .inr λi hi=>?_
    by_cases e:i=j
    ·subst e;exact hn
    ·exact h i (by omega)
   ·left;obtain⟨c1,c2⟩:=ee4 hx hf h1 h2 h48 (show j<fs.length by omega)
    have h0:Ins (M3 x fs j++ws) z0:=(k3 z0).2 ⟨h1,λi hi=>h2.h _ (Qbj _ (gLp hx hf h1 h2 h48 (by omega)))⟩
    obtain⟨y,hy⟩:=Vf1 hr h0 [X9 (gL tP fs j)] (λp hp=>by rw[Qja.1 hp,Aa2];omega)
    have hne:fb4 x fs j≠[]:=λe=>by
     have hq:=c1.1 e;have hl:=te9 hx hf h1 h2 h48 (show j<fs.length by omega)
     have hc:(chk (M3 x fs j++[X9 (gL tP fs j)])==0)=true:=by
      rw[beq_iff_eq,Ua3] at k1 ⊢;refine⟨by rw[Qdc];simp only[List.length_singleton];omega,λp hp=>?_⟩
      rcases Qiq.1 hp with hp|hp
      ·exact k1.2 p hp
      ·rw[Qja.1 hp];exact of3 (hf _ (gLp hx hf h1 h2 h48 (by omega)))
     have hs:∀p∈M3 x fs j++[X9 (gL tP fs j)]++ws,p∈M3 x fs j++ws++[X9 (gL tP fs j)]:=λp hp=>by
      simp only[Qiq] at hp ⊢
      rcases hp with (h|h)|h
      ·exact .inl (.inl h)
      ·exact .inr h
      ·exact .inl (.inr h)
     have:=ca8.2 ⟨hc,y,hy.mono hs⟩
     rw[hq] at this;cases this
    exact⟨_,Bc0.2 ⟨j,by omega,rfl,hne⟩,((c2 hne).2.1 z).2 ⟨hr,by omega⟩⟩
theorem Vf3:(∀y∈Va2 x fs fs.length,ful y=true/\(∀z,Inr (y++ws) z->Inr (x++ws) z)/\∀z,Ins (y++ws) z->Inr (fs++ws) z->False) /\
  (Va2 x fs fs.length).Pairwise λa b=>∀z,Ins (a++ws) z->Ins (b++ws) z->False:=by
 refine⟨λy hy=>?_,?_⟩
 ·obtain⟨j,hj,rfl,hne⟩:=Bc0.1 hy;obtain⟨c1,c2,c3⟩:=(ee4 hx hf h1 h2 h48 hj).2 hne;obtain⟨k1,k2,k3⟩:=ad1 hx hf h1 h2 h48 j (by omega)
  refine⟨c1,λz hz=>((k2 z).1 ((c2 z).1 hz).1).1,λz hz hq=>?_⟩
  have:=((c3 z).1 hz).2
  have:=hq.h _ (Qbj _ (gLp hx hf h1 h2 h48 hj))
  omega
 ·unfold Va2;rw[List.pairwise_filter,List.pairwise_map];refine List.pairwise_lt_range.imp_of_mem λ{a b} ha hb hab p1 p2 z z1 z2=>?_
  have ha:=Qca.1 ha;have hb:=Qca.1 hb;have n1:fb4 x fs a≠[]:=λe=>by rw[e] at p1;simp at p1
  have n2:fb4 x fs b≠[]:=λe=>by rw[e] at p2;simp at p2
  have q1:=(((ee4 hx hf h1 h2 h48 ha).2 n1).2.2 z).1 z1;have q2:=(((ee4 hx hf h1 h2 h48 hb).2 n2).2.2 z).1 z2;have q3:=((ad1 hx hf h1 h2 h48 b (by omega)).2.2 z).1 q2.1
  have:=q3.2 a hab
  omega
end
structure Pcs(c:PLq)(S ps:LPq):Prop where
 ful:∀y∈ps,ful y=true
 sub:∀y∈ps,∀z,Inr (y++ws) z->Inr (c++ws) z
 off:∀y∈ps,∀s∈S,Ce.ful s=true->∀z,Ins (y++ws) z->Inr (s++ws) z->False
 dis:ps.Pairwise λa b=>∀z,Ins (a++ws) z->Ins (b++ws) z->False
 cov:∀z,Inr (c++ws) z->(∃y∈ps,Inr (y++ws) z)\/∃s∈S,Ce.ful s=true/\Inr (s++ws) z
theorem We9{c:PLq}:Pcs c [] (if ful c then [lean c] else [])\/ful c=false:=by
 cases hf:ful c with
 |false=>exact .inr rfl
 |true =>
  refine .inl ⟨λy hy=>?_,λy hy z hz=>?_,λ_ _ s hs=>(by cases hs),?_,λz hz=>.inl ⟨lean c,by simp,(sb9 hf).2 hz⟩⟩
  ·rw[if_pos rfl] at hy;rw[Qja.1 hy];exact te8 hf
  ·rw[if_pos rfl] at hy;rw[Qja.1 hy] at hz;exact (sb9 hf).1 hz
  ·rw[if_pos rfl];exact Qjh _ _
theorem Xe0{a c:PLq}(ha:ful a=true)(hc:ful c=true)(h:apart a c=false):∃z,Ins (a++ws) z/\Ins (c++ws) z:=by
 apply Qeb;intro hn
 have:=(Ya5 (ca8.1 ha).1 (ca8.1 hc).1).2 λz z1 z2=>hn ⟨z,z1,z2⟩
 rw[h] at this;cases this
theorem Ef2{q x:PLq}(hq:ful q=true)(hx:ful x=true)(h48:kb6 q x=true) :
  (∀y∈Va3 q x,ful y=true/\(∀z,Inr (y++ws) z->Inr (x++ws) z)/\∀z,Ins (y++ws) z->Inr (q++ws) z->False) /\
  ((Va3 q x).Pairwise λa b=>∀z,Ins (a++ws) z->Ins (b++ws) z->False) /\
  ∀z,Inr (x++ws) z->(∃y∈Va3 q x,Inr (y++ws) z)\/Inr (q++ws) z:=by
 unfold Va3;cases ha:apart x q with
 |true =>
  rw[if_pos rfl];refine⟨λy hy=>?_,Qjh _ _,λz hz=>.inl ⟨x,by simp,hz⟩⟩
  rw[Qja.1 hy];refine⟨hx,λ_ h=>h,λz z1 z2=>?_⟩
  obtain⟨_,z0,h0⟩:=ca8.1 hq;obtain⟨u,hu⟩:=Vf1 z2 h0 (x++ws) z1.h;exact (Ya5 (ca8.1 hx).1 (ca8.1 hq).1).1 ha u (hu.mono λp hp=>Qce _ hp) (hu.mono λp hp=>Qbj _ hp)
 |false =>
  rw[if_neg (by decide)]
  unfold kb6 at h48;rw[ha,Bool.false_or] at h48;obtain⟨z0,z1,z2⟩:=Xe0 hx hq ha;have hf:∀p∈lean q,okp p=true:=λp hp=>Zb7 (ca8.1 hq).1 p (Qbj _ (gc9 hp))
  obtain⟨o1,o2⟩:=Vf3 (ca8.1 hx).1 hf z1 ((Ac9 hq).2 z2) h48;refine⟨λy hy=>⟨(o1 y hy).1,(o1 y hy).2.1,λz a1 a2=>(o1 y hy).2.2 z a1 ((sb9 hq).2 a2)⟩,o2,λz hz=>?_⟩
  rcases Ne6 (ca8.1 hx).1 hf z1 ((Ac9 hq).2 z2) h48 _ (Qaf _) z hz with h|h
  ·exact .inl h
  ·refine .inr ((sb9 hq).1 ⟨hz.w,λp hp=>?_⟩)
   rcases Qiq.1 hp with hp|hp
   ·obtain⟨i,hi,rfl⟩:=List.getElem_of_mem hp
    have:=h i hi
    rw[show gL tP (lean q) i=(lean q)[i] by simp[gL,Qda,Qaa hi]] at this
    exact this
   ·exact hz.h p (Qce _ hp)
theorem Ee8{c:PLq}{S ps ps':LPq}{q:PLq}(h:Pcs c S ps)(hw:T6 ps q=some ps'):Pcs c (S++[q]) ps':=by
 unfold T6 at hw;cases hq:ful q with
 |false =>
  rw[hq,if_neg (by decide)] at hw
  injection hw with hw;subst hw;refine⟨h.ful,h.sub,λy hy s hs hf=>?_,h.dis,λz hz=>?_⟩
  ·rcases Qiq.1 hs with hs|hs
   ·exact h.off y hy s hs hf
   ·rw[Qja.1 hs,hq] at hf;cases hf
  ·exact (h.cov z hz).imp id λ⟨s,hs,h⟩=>⟨s,Qbj _ hs,h⟩
 |true =>
  rw[hq,if_pos rfl] at hw
  split at hw
  case isFalse=>cases hw
  rename_i hr;injection hw with hw;subst hw;rw[Qas,Qcb] at hr;have hp:=λx (hx:x∈ps)=>Ef2 hq (h.ful x hx) (hr.1 x hx)
  refine⟨λy hy=>?_,λy hy=>?_,λy hy s hs hf z z1 z2=>?_,?_,λz hz=>?_⟩
  ·obtain⟨x,hx,hy⟩:=Qcj.1 hy;exact ((hp x hx).1 y hy).1
  ·obtain⟨x,hx,hy⟩:=Qcj.1 hy;exact λz hz=>h.sub x hx z (((hp x hx).1 y hy).2.1 z hz)
  ·obtain⟨x,hx,hy⟩:=Qcj.1 hy;obtain⟨k1,k2,k3⟩:=(hp x hx).1 y hy
   rcases Qiq.1 hs with hs|hs
   ·-- Vf1 z there are inner points of the piece that are inner points of x
    have zx:Ins (x++ws) z:=by
     obtain⟨_,x0,hx0⟩:=ca8.1 (h.ful x hx);refine⟨z1.w,λp hp=>?_⟩
     have h0:=(k2 z z1.inr).h p hp;by_cases e:rmZ p z=0
     ·exfalso;obtain⟨N,hN,hi⟩:=of5 z1 p.n;have h1:=(k2 _ hi.inr).h p hp;rw[ee3,e] at h1
      have:=Gd5 (of4 (Zb7 (ca8.1 (h.ful x hx)).1 p hp))
      omega
     ·omega
    exact h.off x hx s hs hf z zx z2
   ·rw[Qja.1 hs] at z2;exact k3 z z1 z2
  ·rw[List.pairwise_flatMap];refine⟨λx hx=>(hp x hx).2.1,h.dis.imp_of_mem λ{a b} ha hb hab u hu v hv z z1 z2=>?_⟩
   have up:∀{x u:PLq},x∈ps->u∈Va3 q x->Ins (u++ws) z->Ins (x++ws) z:=λ{x u} hx hu z1=>by
    obtain⟨k1,k2,k3⟩:=(hp x hx).1 u hu;refine⟨z1.w,λp hp=>?_⟩
    have h0:=(k2 z z1.inr).h p hp;by_cases e:rmZ p z=0
    ·exfalso;obtain⟨N,hN,hi⟩:=of5 z1 p.n;have h1:=(k2 _ hi.inr).h p hp;rw[ee3,e] at h1
     have:=Gd5 (of4 (Zb7 (ca8.1 (h.ful x hx)).1 p hp))
     omega
    ·omega
   exact hab z (up ha hu z1) (up hb hv z2)
  ·rcases h.cov z hz with⟨x,hx,hxz⟩|⟨s,hs,h'⟩
   ·rcases (hp x hx).2.2 z hxz with⟨y,hy,hyz⟩|h'
    ·exact .inl ⟨y,Qcj.2 ⟨x,hx,hy⟩,hyz⟩
    ·exact .inr ⟨q,by simp,hq,h'⟩
   ·exact .inr ⟨s,Qbj _ hs,h'⟩
theorem sc0(s:LPq):s.foldl (λst q=>st.bind λps=>T6 ps q) none=none:=by
 induction s with
 |nil=>rfl
 |cons q s ih=>exact ih
theorem Gd6{c:PLq}:∀(s S ps:LPq) (r:LPq),Pcs c S ps->s.foldl (λst q=>st.bind λps=>T6 ps q) (some ps)=some r->Pcs c (S++s) r
 |[],S,ps,r,h,e=>by injection e with e;subst e;rw[Qbv];exact h
 |q::s,S,ps,r,h,e=>by
  have e:s.foldl (λst q=>st.bind λps=>T6 ps q) (T6 ps q)=some r:=e
  cases hw:T6 ps q with
  |none=>rw[hw,sc0] at e;cases e
  |some ps' =>
   rw[hw] at e
   have:=Gd6 s (S++[q]) ps' r (Ee8 h hw) e
   rw[Qim] at this;exact this
theorem of6{c:PLq}{s r:LPq}(hc:ful c=true)(h:Sb4 c s=some r):Pcs c s r:=by
 have hs:Pcs c [] (if ful c then [lean c] else []):=We9.resolve_right (by rw[hc];decide)
 exact Gd6 s [] _ r hs h
theorem Xe1{c:PLq}{s r:LPq}(hc:ful c=true)(h:Sb4 c s=some r):r=[]↔∀z,Inr (c++ws) z->∃q∈s,ful q=true/\Inr (q++ws) z:=by
 have hp:=of6 hc h;constructor
 ·rintro rfl z hz;exact (hp.cov z hz).resolve_left λ⟨_,hy,_⟩=>by cases hy
 ·intro hall;cases r with
  |nil=>rfl
  |cons y r =>
   exfalso;obtain⟨_,z,hz⟩:=ca8.1 (hp.ful y (by simp))
   obtain⟨q,hq,hf,hi⟩:=hall z (hp.sub y (by simp) z hz.inr)
   exact hp.off y (by simp) q hq hf z hz hi
end Go.Ev.Ce
