/- Own work. -/
import Derived.Test.YtigadclidanicaaGreatEvOaEG
import Derived.ChangeStays
import Derived.ChangeSame
import Derived.OpenShut
import Derived.RowKit
set_option linter.all false
noncomputable section
def Qja:=@List.mem_cons
def Qjb:=@List.mem_append
def Qjc:=@List.mem_append_left
def Qjd:=@List.mem_append_right
def Qje:=@List.mem_singleton
def Qjf:=@List.mem_cons_of_mem
def Qjg:=@Int.le_of_lt
def Qjh:=@List.mem_cons_self
def Qji:=@List.getElem?_eq_getElem
def Qjj:=@Int.mul_nonneg
def Qjk:=@List.pairwise_cons
def Qjl:=@Bool.and_eq_true
def Qjm:=@Int.mul_pos
def Qjn:=@Int.mul_eq_zero
def Qjo:=@List.mem_filter
def Qjp:=@List.mem_range
def Qjq:=@Option.bind_eq_some_iff
def Qjr:=@List.pairwise_singleton
def Qjs:=@Int.natCast_dvd_natCast
def Qjt:=@Int.mul_le_mul_of_nonneg_right
def Qju:=@List.all_eq_true
def Qjv:=@Nat.gcd_dvd_right
def Qjw:=@Nat.gcd_dvd_left
def Qjx:=@List.any_eq_true
def Qjy:=@List.mem_flatMap
def Qjz:=@Int.zero_mul
def Qjaa:=@List.getElem?_range
def Qjab:=@Int.dvd_natAbs
def Qjac:=@Nat.dvd_trans
def Qjad:=@Int.mul_pos_of_neg_of_neg
def Qjae:=@Classical.byContradiction
def Qjaf:=@List.append_nil
def Qjag:=@Nat.not_lt_zero
def Qjah:=@Option.map_eq_some_iff
def Qjai:=@Int.le_refl
namespace Go.Ev.Ce
open Go Go.Ev Go.Ev.L Go.Proofs
set_option maxRecDepth 100000
def tc4:List (Nat×Sum):=[(73,jb9)]
theorem md6:i9 prog G tc4:=⟨sb2,trivial⟩
structure La0 where
 xc3:LPq
 K3:Int
structure Y8 where
 s8:Int
def Yb6(p:La0)(s:Y8):St:=⟨ra 9 (eL tLq p.xc3::i p.K3::i s.s8::ra 9 []),[]⟩
def za0{α:Type}(k:Y8->α)(e:Nat->α)(z:α)(p:La0)(s:Y8):α:=let y0:=(gL tLq p.xc3 s.s8.toNat);let t1:=(da2 (rt tP y0));(sl (decide (s.s8<p.K3)) (sl (inB s.s8 (List.length p.xc3)) (sl (okE tP y0) (sl (Ga5 (rt tP y0)) (sl (t1 != 0) (e 1) (k ⟨W (s.s8+1)⟩)) z) z) z) (e 2))
def Ea7(p:La0)(s:Y8):Stp Y8:=za0 .next .exit .fail p s
def zb5:Lo La0 Y8:=⟨En tc4,0,Yf2,[1,1,0,1,4,4],[9,10,11],.p,[⟨ru2 9 (sLq tLq::sIq::sIq::ru2 9 []),[],λa H=>(⟨aLq tLq a 9,aIq a 10⟩,⟨aIq a 11⟩)⟩],Ea7,[(none,λp s=>let t1:=(da2 (rt tP (gL tLq p.xc3 s.s8.toNat)));⟨[i t1],[]⟩),(some 0,λp s=>upq (Yb6 p s) [(12,b (decide (s.s8<p.K3)))])],Yb6⟩
theorem bd6:zb5.Ok:=Lo.ok [] (by kernel_rfl) .nil rfl (.cons (λa H=>by kernel_rfl) .nil) λp s=>(.of @za0 (λF _ _ _ _ _=>by unfold za0;(repeat' apply j6 (f:=F))<;>rfl) (by kernel_rfl))
def bb1(x:LPq):ROq:=let t1:=(lp (Ea7 (⟨rt tLq x,(↑(List.length x):Int)⟩:La0)) (⟨0⟩:Y8));let t2:=(da2 (rt tP (gL tLq (rt tLq x) t1.2.s8.toNat)));(sl (decide ((↑(List.length x):Int)>16)) (some (i 2,[])) (sl ((cnE tLq x)&&true) (sl (Nat.beq t1.1 1) (some (i t2,[])) (sl (Nat.beq t1.1 2) (some (i 0,[])) none)) none))
def sb6(x:LPq):Int:=ba8 (one r1I) (bb1 x)
def sb7(x:LPq):Bool:=okO (one r1I) (bb1 x)
def Gc0:Sum:=ga4 (ta2 tLq) (λx=>.guard (sb7 x) (.ret ((one r1I).enc (sb6 x),[])))
theorem Bd1:g9 prog G 86 Gc0:=db8 (bd b86 md6) (one r1I) (o:=bb1) λx=>Ia8 (.s .p (.s .p (.s (.s .p (.b (.u zb5.ls))) .p))) [zb5.pr] (by kernel_rfl) (.cons bd6 .nil) (by kernel_rfl)
def tc5:List (Nat×Sum):=[]
theorem md7:i9 prog G tc5:=trivial
@[reducible] noncomputable def Gc1:Sum:=Wb0 (En tc5) Hf2
theorem Bd2:g9 prog G 112 Gc1:=bd kg2 md7
def qb3:List (Nat×Sum):=[(39,Ra5),(87,fc4),(28,Db3),(134,Sc0),(79,Na2),(112,Gc1)]
theorem Tc3:i9 prog G qb3:=⟨Va6,Fc9,Ub1,Id5,kb2,Bd2,trivial⟩
structure C4 where
 E7:PLq
 K3:Int
 (ee4 ee5:PLq)
 rd2:LPq
 (Ff0 ve2:Int)
structure j8 where
 ph:Nat
 gb1:PLq
 s8:Int
 F7:Nat
 eh3:List (List c7)
def Ab9(p:C4)(s:j8):St:=⟨ra 4 (eL tP s.gb1::ra 4 (eL tP p.E7::i p.K3::i s.s8::ra 31 (i 0::.unk::eL tP p.ee4::.unk::.unk::.ptr 0 0 0 0::.ptr 1 0 0 0::eL tP p.ee5::.ptr 2 0 0 0::ra 9 (eL tLq p.rd2::i p.Ff0::i p.ve2::ra 25 [])))),[⟨0,1,[[.v (.slice none 0 0)]],true,false,0⟩,⟨0,1,[[i 0]],true,false,0⟩,⟨0,0,[[.v (.slice none 0 0)]],true,false,0⟩]⟩
def Bb0(p:C4)(s:j8):St:=⟨ra 4 (eL tP s.gb1::ra 4 (eL tP p.E7::i p.K3::i s.s8::ra 31 (i 0::.unk::eL tP p.ee4::.unk::.unk::.ptr 0 0 0 0::.ptr 1 0 0 0::eL tP p.ee5::.ptr 2 0 0 0::ra 9 (eL tLq p.rd2::i p.Ff0::i p.ve2::ra 25 [])))),[⟨0,1,[[.v (.slice none 0 0)]],true,false,0⟩,⟨0,1,[[i 0]],true,false,0⟩,⟨0,0,[[.sl 3 0 s.F7 0]],true,false,0⟩,⟨35,1,s.eh3,true,false,0⟩]⟩
def Kc4(p:C4)(s:j8):St:=(sel (Nat.beq s.ph 1) (Bb0 p s) (Ab9 p s))
def D0{α:Type}(k:j8->α)(e:Nat->α)(z:α)(p:C4)(s:j8):α:=let y5:=(U2 []);let y2:=(W (s.s8+1));let y1:=((okE tP s.gb1)&&true);let t1:=(kb7 (gL tP p.E7 s.s8.toNat));let t2:=(A2 [rt tP s.gb1,[t1]]);let t3:=(U1 []);let y3:=(↑(List.length t3):Int);let t4:=(A2 [rt tP s.gb1,[gL tP p.E7 s.s8.toNat]]);let y8:=(Nat.beq t4.alt 2);let y7:=(Nat.beq t4.alt 1);let y6:=(okS tP t4.eh0 0 t4.ns0);let y0:=(U2 (slR tP t4.eh0 0 t4.ns0));let t5:=(U1 (slR tP t4.eh0 0 t4.ns0));let t6:=(U1 (slR tP t2.eh0 0 t2.ns0));let y4:=(↑(List.length t6):Int);let w0:α:=(sl y1 (sl y7 (sl y5 (k ⟨0,t3,y2,0,[]⟩) z) (sl y8 (sl y6 (sl y0 (k ⟨0,t5,y2,0,[]⟩) z) z) z)) z);(sl (decide (s.s8<p.K3)) (sl (inB s.s8 (List.length p.E7)) (sl (decide ((↑(List.length s.gb1):Int)>=48)) (e 1) (sl y1 (sl (Nat.beq t2.alt 1) (sl y5 (sl (decide (y3>0)) (sl (decide (y3>0)) (sl ((!(Nat.beq (List.length t3) 0))&&true) (sl y1 (sl y7 (sl y5 (k ⟨1,t3,y2,1,[[eL tP t3]]⟩) z) (sl y8 (sl y6 (sl y0 (k ⟨1,t5,y2,1,[[eL tP t3]]⟩) z) z) z)) z) z) w0) (sl (decide (y3>0)) z w0)) z) (sl (Nat.beq t2.alt 2) (sl (okS tP t2.eh0 0 t2.ns0) (sl (U2 (slR tP t2.eh0 0 t2.ns0)) (sl (decide (y4>0)) (sl (decide (y4>0)) (sl ((!(Nat.beq (List.length t6) 0))&&true) (sl y1 (sl y7 (sl y5 (k ⟨1,t3,y2,1,[[eL tP t6]]⟩) z) (sl y8 (sl y6 (sl y0 (k ⟨1,t5,y2,1,[[eL tP t6]]⟩) z) z) z)) z) z) w0) (sl (decide (y4>0)) z w0)) z) z) z)) z)) z) (e 2))
def D1{α:Type}(k:j8->α)(e:Nat->α)(z:α)(p:C4)(s:j8):α:=let y6:=(U2 []);let y3:=(W (s.s8+1));let y2:=(Nat.beq s.F7 (len s.eh3)&&Nat.ble ((s.F7+1)*24) room);let y1:=((okE tP s.gb1)&&true);let t1:=(kb7 (gL tP p.E7 s.s8.toNat));let t2:=(A2 [rt tP s.gb1,[t1]]);let t3:=(U1 []);let y4:=(↑(List.length t3):Int);let t4:=(A2 [rt tP s.gb1,[gL tP p.E7 s.s8.toNat]]);let y9:=(Nat.beq t4.alt 2);let y8:=(Nat.beq t4.alt 1);let y7:=(okS tP t4.eh0 0 t4.ns0);let y0:=(U2 (slR tP t4.eh0 0 t4.ns0));let t5:=(U1 (slR tP t4.eh0 0 t4.ns0));let t6:=(U1 (slR tP t2.eh0 0 t2.ns0));let y5:=(↑(List.length t6):Int);let w0:α:=(sl y1 (sl y8 (sl y6 (k ⟨1,t3,y3,s.F7,s.eh3⟩) z) (sl y9 (sl y7 (sl y0 (k ⟨1,t5,y3,s.F7,s.eh3⟩) z) z) z)) z);(sl (decide (s.s8<p.K3)) (sl (inB s.s8 (List.length p.E7)) (sl (decide ((↑(List.length s.gb1):Int)>=48)) (e 3) (sl y1 (sl (Nat.beq t2.alt 1) (sl y6 (sl (decide (y4>0)) (sl (decide (y4>0)) (sl ((!(Nat.beq (List.length t3) 0))&&true) (sl y2 (sl y1 (sl y8 (sl y6 (k ⟨1,t3,y3,s.F7+1,app s.eh3 [[eL tP t3]]⟩) z) (sl y9 (sl y7 (sl y0 (k ⟨1,t5,y3,s.F7+1,app s.eh3 [[eL tP t3]]⟩) z) z) z)) z) z) z) w0) (sl (decide (y4>0)) z w0)) z) (sl (Nat.beq t2.alt 2) (sl (okS tP t2.eh0 0 t2.ns0) (sl (U2 (slR tP t2.eh0 0 t2.ns0)) (sl (decide (y5>0)) (sl (decide (y5>0)) (sl ((!(Nat.beq (List.length t6) 0))&&true) (sl y2 (sl y1 (sl y8 (sl y6 (k ⟨1,t3,y3,s.F7+1,app s.eh3 [[eL tP t6]]⟩) z) (sl y9 (sl y7 (sl y0 (k ⟨1,t5,y3,s.F7+1,app s.eh3 [[eL tP t6]]⟩) z) z) z)) z) z) z) w0) (sl (decide (y5>0)) z w0)) z) z) z)) z)) z) (e 4))
def m8(p:C4)(s:j8):Stp j8:=(sel (Nat.beq s.ph 1) (D1 .next .exit .fail p s) (D0 .next .exit .fail p s))
def lb2:Lo C4 j8:=⟨En qb3,0,Pf2,[1,1,1,1,0,1,4,4,1,1,0,4,1,1,1,4,4,1,1,4,4],[4,9,10,11,43,45,48,49,50,51,61,62,63],.p,[⟨ru2 4 (sLq tP::ru2 4 (sLq tP::sIq::sIq::ru2 31 (.s (.o (.lit .i64 0))::sUq::sLq tP::sUq::sUq::sPq 0::sPq 1::sLq tP::sPq 2::ru2 9 (sLq tLq::sIq::sIq::ru2 25 [])))),[⟨0,1,true,some [[.o .nil]]⟩,⟨0,1,true,some [[.o (.lit .i64 0)]]⟩,⟨0,0,true,some [[.o .nil]]⟩],λa H=>(⟨aLq tP a 9,aIq a 10,aLq tP a 45,aLq tP a 50,aLq tLq a 61,aIq a 62,aIq a 63⟩,⟨0,aLq tP a 4,aIq a 11,0,[]⟩)⟩,⟨ru2 4 (sLq tP::ru2 4 (sLq tP::sIq::sIq::ru2 31 (.s (.o (.lit .i64 0))::sUq::sLq tP::sUq::sUq::sPq 0::sPq 1::sLq tP::sPq 2::ru2 9 (sLq tLq::sIq::sIq::ru2 25 [])))),[⟨0,1,true,some [[.o .nil]]⟩,⟨0,1,true,some [[.o (.lit .i64 0)]]⟩,⟨0,0,true,some [[.o (.sl 3 0 (some 0) none)]]⟩,⟨35,1,true,none⟩],λa H=>(⟨aLq tP a 9,aIq a 10,aLq tP a 45,aLq tP a 50,aLq tLq a 61,aIq a 62,aIq a 63⟩,⟨1,aLq tP a 4,aIq a 11,slN (slT (rwT (elT H 2) 0) 0),elT H 3⟩)⟩],m8,[(none,λp s=>⟨ra 4 (eL tP s.gb1::.unk::.ptr 3 0 0 0::.unk::.unk::eL tP p.E7::i p.K3::i s.s8::b (decide (s.s8<p.K3))::.tptr [i (gL tP p.E7 s.s8.toNat).n.x,i (gL tP p.E7 s.s8.toNat).n.y,i (gL tP p.E7 s.s8.toNat).n.z,i (gL tP p.E7 s.s8.toNat).b]::.agg [i (gL tP p.E7 s.s8.toNat).n.x,i (gL tP p.E7 s.s8.toNat).n.y,i (gL tP p.E7 s.s8.toNat).n.z,i (gL tP p.E7 s.s8.toNat).b]::eL tP s.gb1::i (↑(List.length s.gb1):Int)::b (decide ((↑(List.length s.gb1):Int)>=48))::.unk::b false::ra 23 (i 1::.unk::eL tP p.ee4::.unk::.unk::.ptr 0 0 0 0::.ptr 1 0 0 0::eL tP p.ee5::.ptr 2 0 0 0::ra 9 (eL tLq p.rd2::i p.Ff0::i p.ve2::ra 25 []))),[⟨0,1,[[.v (.slice none 0 0)]],true,false,0⟩,⟨0,1,[[i 9]],true,false,0⟩,⟨0,0,[[.v (.slice none 0 0)]],true,false,0⟩,⟨0,4,[[i (gL tP p.E7 s.s8.toNat).n.x,i (gL tP p.E7 s.s8.toNat).n.y,i (gL tP p.E7 s.s8.toNat).n.z,i (gL tP p.E7 s.s8.toNat).b]],true,false,0⟩]⟩),(some 0,λp s=>upq (Ab9 p s) [(12,b (decide (s.s8<p.K3)))]),(none,λp s=>⟨ra 4 (eL tP s.gb1::.unk::.ptr 4 0 0 0::.unk::.unk::eL tP p.E7::i p.K3::i s.s8::b (decide (s.s8<p.K3))::.tptr [i (gL tP p.E7 s.s8.toNat).n.x,i (gL tP p.E7 s.s8.toNat).n.y,i (gL tP p.E7 s.s8.toNat).n.z,i (gL tP p.E7 s.s8.toNat).b]::.agg [i (gL tP p.E7 s.s8.toNat).n.x,i (gL tP p.E7 s.s8.toNat).n.y,i (gL tP p.E7 s.s8.toNat).n.z,i (gL tP p.E7 s.s8.toNat).b]::eL tP s.gb1::i (↑(List.length s.gb1):Int)::b (decide ((↑(List.length s.gb1):Int)>=48))::.unk::b false::ra 23 (i 1::.unk::eL tP p.ee4::.unk::.unk::.ptr 0 0 0 0::.ptr 1 0 0 0::eL tP p.ee5::.ptr 2 0 0 0::ra 9 (eL tLq p.rd2::i p.Ff0::i p.ve2::ra 25 []))),[⟨0,1,[[.v (.slice none 0 0)]],true,false,0⟩,⟨0,1,[[i 9]],true,false,0⟩,⟨0,0,[[.sl 3 0 s.F7 0]],true,false,0⟩,⟨35,1,s.eh3,true,false,0⟩,⟨0,4,[[i (gL tP p.E7 s.s8.toNat).n.x,i (gL tP p.E7 s.s8.toNat).n.y,i (gL tP p.E7 s.s8.toNat).n.z,i (gL tP p.E7 s.s8.toNat).b]],true,false,0⟩]⟩),(some 0,λp s=>upq (Bb0 p s) [(12,b (decide (s.s8<p.K3)))])],Kc4⟩
theorem Kc5:lb2.OkM:=Lo.okM [] (by kernel_rfl) .nil rfl (.cons (λa H=>by kernel_rfl) (.cons (λa H=>by kernel_rfl) .nil)) λp s=>(.sel (Nat.beq s.ph 1) (.of @D1 (λF _ _ _ _ _=>by unfold D1;(repeat' apply j6 (f:=F))<;>rfl) (by kernel_rfl)) (.of @D0 (λF _ _ _ _ _=>by unfold D0;(repeat' apply j6 (f:=F))<;>rfl) (by kernel_rfl)))
structure V9 where
 La7:Int
structure p5 where
 ph:Nat
 (ba9 P8:PLq)
 ba6:LPq
 gb4:Int
 F7:Nat
 eh3:List (List c7)
def Bb1(p:V9)(s:p5):St:=⟨.unk::eL tP s.ba9::.unk::.unk::.ptr 0 0 0 0::.ptr 1 0 0 0::eL tP s.P8::.ptr 2 0 0 0::ra 9 (eL tLq s.ba6::i p.La7::i s.gb4::ra 25 []),[⟨0,1,[[.v (.slice none 0 0)]],true,false,0⟩,⟨0,1,[[i 0]],true,false,0⟩,⟨0,0,[[.v (.slice none 0 0)]],true,false,0⟩]⟩
def Bb2(p:V9)(s:p5):St:=⟨.unk::eL tP s.ba9::.unk::.unk::.ptr 0 0 0 0::.ptr 1 0 0 0::eL tP s.P8::.ptr 2 0 0 0::ra 9 (eL tLq s.ba6::i p.La7::i s.gb4::ra 25 []),[⟨0,1,[[.v (.slice none 0 0)]],true,false,0⟩,⟨0,1,[[i 0]],true,false,0⟩,⟨0,0,[[.sl 3 0 s.F7 0]],true,false,0⟩,⟨35,1,s.eh3,true,false,0⟩]⟩
def Kc6(p:V9)(s:p5):St:=(sel (Nat.beq s.ph 1) (Bb2 p s) (Bb1 p s))
def o8{α:Type}(k:p5->α)(e:Nat->α)(z:α)(p:V9)(s:p5):α:=let y1:=(rt tLq s.ba6);let y0:=(gL tLq s.ba6 s.gb4.toNat);let t1:=(Ha2 (rt tP y0) (rt tP s.ba9));let t2:=(lp (m8 (⟨rt tP s.P8,(↑(List.length s.P8):Int),rt tP s.ba9,rt tP s.P8,y1,p.La7,s.gb4⟩:C4)) (⟨0,rt tP y0,0,0,[]⟩:j8));(sl (decide (s.gb4<p.La7)) (sl (inB s.gb4 (List.length s.ba6)) (sl (okE tP y0) (sl (okE tP s.ba9) (sl (Ha3 (rt tP y0) (rt tP s.ba9)) (sl t1 (k ⟨1,s.ba9,s.P8,s.ba6,W (s.gb4+1),1,[[eL tP y0]]⟩) (sl ((cnE tP y0)&&((cnE tP s.P8)&&((cnE tP s.ba9)&&((cnE tP s.P8)&&((cnE tLq s.ba6)&&true))))) (sl (Nat.beq t2.1 1) (e 1) (sl (Nat.beq t2.1 2) (k ⟨0,rt tP s.ba9,rt tP s.P8,y1,W (s.gb4+1),0,[]⟩) (sl (Nat.beq t2.1 3) (e 2) (sl (Nat.beq t2.1 4) (k ⟨1,rt tP s.ba9,rt tP s.P8,y1,W (s.gb4+1),t2.2.F7,t2.2.eh3⟩) z)))) z)) z) z) z) z) (e 3))
def v8{α:Type}(k:p5->α)(e:Nat->α)(z:α)(p:V9)(s:p5):α:=let y1:=(rt tLq s.ba6);let y0:=(gL tLq s.ba6 s.gb4.toNat);let t1:=(Ha2 (rt tP y0) (rt tP s.ba9));let t2:=(lp (m8 (⟨rt tP s.P8,(↑(List.length s.P8):Int),rt tP s.ba9,rt tP s.P8,y1,p.La7,s.gb4⟩:C4)) (⟨1,rt tP y0,0,s.F7,s.eh3⟩:j8));(sl (decide (s.gb4<p.La7)) (sl (inB s.gb4 (List.length s.ba6)) (sl (okE tP y0) (sl (okE tP s.ba9) (sl (Ha3 (rt tP y0) (rt tP s.ba9)) (sl t1 (sl (Nat.beq s.F7 (len s.eh3)&&Nat.ble ((s.F7+1)*24) room) (k ⟨1,s.ba9,s.P8,s.ba6,W (s.gb4+1),s.F7+1,app s.eh3 [[eL tP y0]]⟩) z) (sl ((cnE tP y0)&&((cnE tP s.P8)&&((cnE tP s.ba9)&&((cnE tP s.P8)&&((cnE tLq s.ba6)&&true))))) (sl (Nat.beq t2.1 1) (e 4) (sl (Nat.beq t2.1 2) (k ⟨0,rt tP s.ba9,rt tP s.P8,y1,W (s.gb4+1),0,[]⟩) (sl (Nat.beq t2.1 3) (e 5) (sl (Nat.beq t2.1 4) (k ⟨1,rt tP s.ba9,rt tP s.P8,y1,W (s.gb4+1),t2.2.F7,t2.2.eh3⟩) z)))) z)) z) z) z) z) (e 6))
def A6(p:V9)(s:p5):Stp p5:=(sel (Nat.beq s.ph 1) (v8 .next .exit .fail p s) (o8 .next .exit .fail p s))
def lb3:Lo V9 p5:=⟨En qb3,0,Pf2,[1,1,1,1,0,1,4,4],[1,4,5,6,7,17,18,19],.s .p (.s .p (.s (.b (.s .p (.s .p (.s .p (.b (.i (.s .p (.s .p (.b (.u lb2.lsM)))))))))) .p)),[⟨sUq::sLq tP::sUq::sUq::sPq 0::sPq 1::sLq tP::sPq 2::ru2 9 (sLq tLq::sIq::sIq::ru2 25 []),[⟨0,1,true,some [[.o .nil]]⟩,⟨0,1,true,some [[.o (.lit .i64 0)]]⟩,⟨0,0,true,some [[.o .nil]]⟩],λa H=>(⟨aIq a 18⟩,⟨0,aLq tP a 1,aLq tP a 6,aLq tLq a 17,aIq a 19,0,[]⟩)⟩,⟨sUq::sLq tP::sUq::sUq::sPq 0::sPq 1::sLq tP::sPq 2::ru2 9 (sLq tLq::sIq::sIq::ru2 25 []),[⟨0,1,true,some [[.o .nil]]⟩,⟨0,1,true,some [[.o (.lit .i64 0)]]⟩,⟨0,0,true,some [[.o (.sl 3 0 (some 0) none)]]⟩,⟨35,1,true,none⟩],λa H=>(⟨aIq a 18⟩,⟨1,aLq tP a 1,aLq tP a 6,aLq tLq a 17,aIq a 19,slN (slT (rwT (elT H 2) 0) 0),elT H 3⟩)⟩],A6,[(none,λp s=>let t2:=(lp (m8 (⟨rt tP s.P8,(↑(List.length s.P8):Int),rt tP s.ba9,rt tP s.P8,rt tLq s.ba6,p.La7,s.gb4⟩:C4)) (⟨0,rt tP (gL tLq s.ba6 s.gb4.toNat),0,0,[]⟩:j8));⟨.unk::eL tP (rt tP s.ba9)::.unk::.unk::.ptr 0 0 0 0::.ptr 1 0 0 0::eL tP (rt tP s.P8)::.ptr 2 0 0 0::ra 9 (eL tLq (rt tLq s.ba6)::i p.La7::i s.gb4::ra 25 []),[⟨0,1,[[.v (.slice none 0 0)]],true,false,0⟩,⟨0,1,[[i 9]],true,false,0⟩,⟨0,0,[[.v (.slice none 0 0)]],true,false,0⟩,⟨0,4,[[i (gL tP (rt tP s.P8) t2.2.s8.toNat).n.x,i (gL tP (rt tP s.P8) t2.2.s8.toNat).n.y,i (gL tP (rt tP s.P8) t2.2.s8.toNat).n.z,i (gL tP (rt tP s.P8) t2.2.s8.toNat).b]],true,false,0⟩]⟩),(none,λp s=>let t2:=(lp (m8 (⟨rt tP s.P8,(↑(List.length s.P8):Int),rt tP s.ba9,rt tP s.P8,rt tLq s.ba6,p.La7,s.gb4⟩:C4)) (⟨0,rt tP (gL tLq s.ba6 s.gb4.toNat),0,0,[]⟩:j8));⟨.unk::eL tP (rt tP s.ba9)::.unk::.unk::.ptr 0 0 0 0::.ptr 1 0 0 0::eL tP (rt tP s.P8)::.ptr 2 0 0 0::ra 9 (eL tLq (rt tLq s.ba6)::i p.La7::i s.gb4::ra 25 []),[⟨0,1,[[.v (.slice none 0 0)]],true,false,0⟩,⟨0,1,[[i 9]],true,false,0⟩,⟨0,0,[[.sl 3 0 t2.2.F7 0]],true,false,0⟩,⟨35,1,t2.2.eh3,true,false,0⟩,⟨0,4,[[i (gL tP (rt tP s.P8) t2.2.s8.toNat).n.x,i (gL tP (rt tP s.P8) t2.2.s8.toNat).n.y,i (gL tP (rt tP s.P8) t2.2.s8.toNat).n.z,i (gL tP (rt tP s.P8) t2.2.s8.toNat).b]],true,false,0⟩]⟩),(some 0,λp s=>upq (Bb1 p s) [(20,b (decide (s.gb4<p.La7)))]),(none,λp s=>let t2:=(lp (m8 (⟨rt tP s.P8,(↑(List.length s.P8):Int),rt tP s.ba9,rt tP s.P8,rt tLq s.ba6,p.La7,s.gb4⟩:C4)) (⟨1,rt tP (gL tLq s.ba6 s.gb4.toNat),0,s.F7,s.eh3⟩:j8));⟨.unk::eL tP (rt tP s.ba9)::.unk::.unk::.ptr 0 0 0 0::.ptr 1 0 0 0::eL tP (rt tP s.P8)::.ptr 2 0 0 0::ra 9 (eL tLq (rt tLq s.ba6)::i p.La7::i s.gb4::ra 25 []),[⟨0,1,[[.v (.slice none 0 0)]],true,false,0⟩,⟨0,1,[[i 9]],true,false,0⟩,⟨0,0,[[.v (.slice none 0 0)]],true,false,0⟩,⟨0,4,[[i (gL tP (rt tP s.P8) t2.2.s8.toNat).n.x,i (gL tP (rt tP s.P8) t2.2.s8.toNat).n.y,i (gL tP (rt tP s.P8) t2.2.s8.toNat).n.z,i (gL tP (rt tP s.P8) t2.2.s8.toNat).b]],true,false,0⟩]⟩),(none,λp s=>let t2:=(lp (m8 (⟨rt tP s.P8,(↑(List.length s.P8):Int),rt tP s.ba9,rt tP s.P8,rt tLq s.ba6,p.La7,s.gb4⟩:C4)) (⟨1,rt tP (gL tLq s.ba6 s.gb4.toNat),0,s.F7,s.eh3⟩:j8));⟨.unk::eL tP (rt tP s.ba9)::.unk::.unk::.ptr 0 0 0 0::.ptr 1 0 0 0::eL tP (rt tP s.P8)::.ptr 2 0 0 0::ra 9 (eL tLq (rt tLq s.ba6)::i p.La7::i s.gb4::ra 25 []),[⟨0,1,[[.v (.slice none 0 0)]],true,false,0⟩,⟨0,1,[[i 9]],true,false,0⟩,⟨0,0,[[.sl 3 0 t2.2.F7 0]],true,false,0⟩,⟨35,1,t2.2.eh3,true,false,0⟩,⟨0,4,[[i (gL tP (rt tP s.P8) t2.2.s8.toNat).n.x,i (gL tP (rt tP s.P8) t2.2.s8.toNat).n.y,i (gL tP (rt tP s.P8) t2.2.s8.toNat).n.z,i (gL tP (rt tP s.P8) t2.2.s8.toNat).b]],true,false,0⟩]⟩),(some 0,λp s=>upq (Bb2 p s) [(20,b (decide (s.gb4<p.La7)))])],Kc6⟩
theorem Kc7:lb3.OkM:=Lo.okM [lb2.prM] (by kernel_rfl) (.cons Kc5 .nil) rfl (.cons (λa H=>by kernel_rfl) (.cons (λa H=>by kernel_rfl) .nil)) λp s=>(.sel (Nat.beq s.ph 1) (.of @v8 (λF _ _ _ _ _=>by unfold v8;(repeat' apply j6 (f:=F))<;>rfl) (by kernel_rfl)) (.of @o8 (λF _ _ _ _ _=>by unfold o8;(repeat' apply j6 (f:=F))<;>rfl) (by kernel_rfl)))
def La1(x:LPq)(y:PLq):ROq:=let y0:=(.tup [.v (.slice none 0 0),i 9],[]);let t1:=(ya5 (rt tP y));let t2:=(U1 (rt tP y));let t3:=(lp (A6 (⟨(↑(List.length x):Int)⟩:V9)) (⟨0,rt tP y,rt tP t2,rt tLq x,0,0,[]⟩:p5));(sl (okE tP y) (sl (ya6 (rt tP y)) (sl (!t1) (some (.tup [eL tLq x,i 0],[])) (sl (okE tP y) (sl (U2 (rt tP y)) (sl ((cnE tP y)&&((cnE tP t2)&&((cnE tLq x)&&true))) (sl (Nat.beq t3.1 1) (some y0) (sl (Nat.beq t3.1 2) (some y0) (sl (Nat.beq t3.1 3) (some (.tup [.v (.slice none 0 0),i 0],[])) (sl (Nat.beq t3.1 4) (some y0) (sl (Nat.beq t3.1 5) (some y0) (sl (Nat.beq t3.1 6) (sl (decide ((↑t3.2.F7:Int)>200)) (some y0) (some ((.tup [(.tree 1 t3.2.F7 (λk=>d9 t3.2.eh3 (0+k))),i 0]),[]))) none)))))) none) none) none)) none) none)
def ga7(x:LPq)(y:PLq):LPq×Int:=ba8 (two (r1L tLq) r1I) (La1 x y)
def cb5(x:LPq)(y:PLq):Bool:=okO (two (r1L tLq) r1I) (La1 x y)
def kc0:Sum:=Aa5 (ta2 tLq) (ta2 tP) (λx y=>.guard (cb5 x y) (.ret ((two (r1L tLq) r1I).enc (ga7 x y),[])))
theorem bd7:g9 prog G 88 kc0:=Sb2 (bd b88 Tc3) (two (r1L tLq) r1I) (o:=La1) λx y=>Od9 (.s .p (.s .p (.s .p (.s .p (.s (.s .p (.b (.u lb3.lsM))) .p))))) [lb3.prM] (by kernel_rfl) (.cons Kc7 .nil) (by kernel_rfl)
def tc6:List (Nat×Sum):=[(73,jb9),(86,Gc0),(39,Ra5),(87,fc4),(88,kc0)]
theorem md8:i9 prog G tc6:=⟨sb2,Bd1,Va6,Fc9,bd7,trivial⟩
structure ga8 where
 Rb3:LPq
 nc3:Int
 d7:PLq
structure C8 where
 ph:Nat
 xc4:Int
 ka6:LPq
def Qb8(p:ga8)(s:C8):St:=⟨ra 8 (.sl 0 0 1 0::ra 19 (eL tLq p.Rb3::i p.nc3::i s.xc4::ra 14 [])),[⟨35,1,[[eL tP p.d7]],true,false,0⟩]⟩
def Qb9(p:ga8)(s:C8):St:=⟨ra 8 (eL tLq s.ka6::ra 19 (eL tLq p.Rb3::i p.nc3::i s.xc4::ra 14 [])),[]⟩
def bd8(p:ga8)(s:C8):St:=(sel (Nat.beq s.ph 1) (Qb9 p s) (Qb8 p s))
def R4{α:Type}(k:C8->α)(e:Nat->α)(z:α)(p:ga8)(s:C8):α:=let y0:=(gL tLq p.Rb3 s.xc4.toNat);let t1:=(ga7 [rt tP p.d7] (rt tP y0));(sl (decide (s.xc4<p.nc3)) (sl (inB s.xc4 (List.length p.Rb3)) (sl ((okE tP p.d7)&&true) (sl (okE tP y0) (sl (cb5 [rt tP p.d7] (rt tP y0)) (sl (t1.2 != 0) (e 1) (k ⟨1,W (s.xc4+1),t1.1⟩)) z) z) z) z) (e 2))
def R5{α:Type}(k:C8->α)(e:Nat->α)(z:α)(p:ga8)(s:C8):α:=let y0:=(gL tLq p.Rb3 s.xc4.toNat);let t1:=(ga7 (rt tLq s.ka6) (rt tP y0));(sl (decide (s.xc4<p.nc3)) (sl (inB s.xc4 (List.length p.Rb3)) (sl (okE tLq s.ka6) (sl (okE tP y0) (sl (cb5 (rt tLq s.ka6) (rt tP y0)) (sl (t1.2 != 0) (e 3) (k ⟨1,W (s.xc4+1),t1.1⟩)) z) z) z) z) (e 4))
def P6(p:ga8)(s:C8):Stp C8:=(sel (Nat.beq s.ph 1) (R5 .next .exit .fail p s) (R4 .next .exit .fail p s))
def zb6:Lo ga8 C8:=⟨En tc6,0,Xf9,[1,1,1,1,1,0,1,4,4],[8,28,29,30],.p,[⟨ru2 8 (.s (.o (.sl 0 0 (some 0) (some 1)))::ru2 19 (sLq tLq::sIq::sIq::ru2 14 [])),[⟨35,1,true,some [[.c 4 (nL tP)]]⟩],λa H=>(⟨aLq tLq a 28,aIq a 29,hLq tP H 0 0 0⟩,⟨0,aIq a 30,[]⟩)⟩,⟨ru2 8 (sLq tLq::ru2 19 (sLq tLq::sIq::sIq::ru2 14 [])),[],λa H=>(⟨aLq tLq a 28,aIq a 29,[]⟩,⟨1,aIq a 30,aLq tLq a 8⟩)⟩],P6,[(none,λp s=>let t1:=(ga7 [rt tP p.d7] (rt tP (gL tLq p.Rb3 s.xc4.toNat)));⟨[.tup [.v (.slice none 0 0),i t1.2]],[]⟩),(some 0,λp s=>upq (Qb8 p s) [(31,b (decide (s.xc4<p.nc3)))]),(none,λp s=>let t1:=(ga7 (rt tLq s.ka6) (rt tP (gL tLq p.Rb3 s.xc4.toNat)));⟨[.tup [.v (.slice none 0 0),i t1.2]],[]⟩),(some 0,λp s=>upq (Qb9 p s) [(31,b (decide (s.xc4<p.nc3)))])],bd8⟩
theorem bd9:zb6.Ok:=Lo.ok [] (by kernel_rfl) .nil rfl (.cons (λa H=>by kernel_rfl) (.cons (λa H=>by kernel_rfl) .nil)) λp s=>(.sel (Nat.beq s.ph 1) (.of @R5 (λF _ _ _ _ _=>by unfold R5;(repeat' apply j6 (f:=F))<;>rfl) (by kernel_rfl)) (.of @R4 (λF _ _ _ _ _=>by unfold R4;(repeat' apply j6 (f:=F))<;>rfl) (by kernel_rfl)))
def bb2(x:PLq)(y:LPq):ROq:=let t1:=(da2 (rt tP x));let t2:=(sb6 (rt tLq y));let t3:=(ya5 (rt tP x));let t4:=(U1 (rt tP x));let t5:=(lp (P6 (⟨rt tLq y,(↑(List.length y):Int),rt tP t4⟩:ga8)) (⟨0,0,[]⟩:C8));let y0:=(rt tP (gL tLq (rt tLq y) t5.2.xc4.toNat));let t6:=(ga7 [rt tP (rt tP t4)] y0);let t7:=(ga7 (rt tLq t5.2.ka6) y0);(sl (okE tP x) (sl (Ga5 (rt tP x)) (sl (t1 != 0) (some (.tup [.v (.slice none 0 0),i t1],[])) (sl (okE tLq y) (sl (sb7 (rt tLq y)) (sl (t2 != 0) (some (.tup [.v (.slice none 0 0),i t2],[])) (sl (okE tP x) (sl (ya6 (rt tP x)) (sl (!t3) (some (.tup [.v (.slice none 0 0),i 0],[])) (sl (okE tP x) (sl (U2 (rt tP x)) (sl ((cnE tLq y)&&((cnE tP t4)&&true)) (sl (Nat.beq t5.1 1) (some (.tup [.v (.slice none 0 0),i t6.2],[])) (sl (Nat.beq t5.1 2) (some (.tup [.sl 0 0 1 0,i 0],[⟨35,1,[[eL tP (rt tP t4)]],true,false,0⟩])) (sl (Nat.beq t5.1 3) (some (.tup [.v (.slice none 0 0),i t7.2],[])) (sl (Nat.beq t5.1 4) (some (.tup [eL tLq t5.2.ka6,i 0],[])) none)))) none) none) none)) none) none)) none) none)) none) none)
def Ub6(x:PLq)(y:LPq):LPq×Int:=ba8 (two (r1L tLq) r1I) (bb2 x y)
def Ub7(x:PLq)(y:LPq):Bool:=okO (two (r1L tLq) r1I) (bb2 x y)
def Gc2:Sum:=Aa5 (ta2 tP) (ta2 tLq) (λx y=>.guard (Ub7 x y) (.ret ((two (r1L tLq) r1I).enc (Ub6 x y),[])))
theorem Bd3:g9 prog G 66 Gc2:=Sb2 (bd b66 md8) (two (r1L tLq) r1I) (o:=bb2) λx y=>Ia8 (.s .p (.s .p (.s .p (.s .p (.s .p (.s (.s .p (.b (.u zb6.ls))) .p)))))) [zb6.pr] (by kernel_rfl) (.cons bd9 .nil) (by kernel_rfl)
def md9:List (Nat×Sum):=[(66,Gc2)]
theorem cd0:i9 prog G md9:=⟨Bd3,trivial⟩
def Sa4(x:LPq)(y:PLq):ROq:=let t1:=(Ub6 (rt tP y) (rt tLq x));(sl (okE tP y) (sl (okE tLq x) (sl (Ub7 (rt tP y) (rt tLq x)) (sl (t1.2==0) (some (.tup [b ((↑(List.length t1.1):Int)==0),i t1.2],[])) (some (.tup [b false,i t1.2],[]))) none) none) none)
def p9(x:LPq)(y:PLq):Bool×Int:=ba8 (two r1B r1I) (Sa4 x y)
def ua7(x:LPq)(y:PLq):Bool:=okO (two r1B r1I) (Sa4 x y)
def tc7:Sum:=Aa5 (ta2 tLq) (ta2 tP) (λx y=>.guard (ua7 x y) (.ret ((two r1B r1I).enc (p9 x y),[])))
theorem nd0:g9 prog G 29 tc7:=Sb2 (bd b29 cd0) (two r1B r1I) (o:=Sa4) λx y=>B7 (by kernel_rfl)
structure cb6 where
 (g7 d7:PLq)
def cd1:List (Nat×Sum):=[(28,Db3)]
theorem Tc4:i9 prog G cd1:=⟨Ub1,trivial⟩
structure cb7 where
 alt:Nat
 bs0:Bool
def xa0{α:Type}(kk:cb7->α)(x:cb6):α:=let t1:=(Ha2 (rt tP x.d7) (rt tP x.g7));(sl (okE tP x.d7) (sl (okE tP x.g7) (sl (Ha3 (rt tP x.d7) (rt tP x.g7)) (kk ⟨1,!t1⟩) (kk ⟨0,false⟩)) (kk ⟨0,false⟩)) (kk ⟨0,false⟩))
def cb8(x:cb6):cb7:=xa0 (λr=>r) x
def qb4(x:cb6)(r:cb7):DT (c7×List c8):=(.ite (Nat.beq r.alt 1) (.ret (b r.bs0,[⟨0,1,[[eL tP x.d7]],true,false,0⟩])) .fail)
theorem nd1{α β:Type}(F:α->β)(kk:cb7->α)(x:cb6):F (xa0 kk x)=xa0 (λr=>F (kk r)) x:=by unfold xa0;(repeat' apply j6 (f:=F))<;>rfl
def kc4:Sum:=Ma9 ⟨[sLq tP,sPq 0],[⟨0,1,true,some [[.c 4 (nL tP)]]⟩],λa H=>(⟨aLq tP a 0,hLq tP H 0 0 0⟩,())⟩ (λx=>qb4 x (cb8 x))
theorem cd2:g9 prog G 62 kc4:=F6 (enc:=λx=>⟨[eL tP x.g7,.ptr 0 0 0 0],[⟨0,1,[[eL tP x.d7]],true,false,0⟩]⟩) (λa H=>by kernel_rfl) (bd b62 Tc4) λx=>B7 (Eq.trans (b:=xa0 (λr=>(qb4 x r).run) x) (by kernel_rfl) (nd1 (λr=>(qb4 x r).run) (λr=>r) x).symm)
structure ea0 where
 C0:LPq
 d7:PLq
def Oa5:List (Nat×Sum):=[(62,kc4)]
theorem zb7:i9 prog G Oa5:=⟨cd2,trivial⟩
structure O7 where
 C0:LPq
 is7:Int
structure q8 where
 is8:Int
 d7:PLq
def Fa8(p:O7)(s:q8):St:=⟨eL tLq p.C0::.fn 62 [.ptr 0 0 0 0]::ra 5 (i p.is7::i s.is8::ra 10 []),[⟨0,1,[[eL tP s.d7]],true,false,0⟩]⟩
def K6{α:Type}(k:q8->α)(e:Nat->α)(z:α)(p:O7)(s:q8):α:=let t1:=(cb8 ⟨rt tP (gL tLq p.C0 s.is8.toNat),rt tP s.d7⟩);(sl (decide (s.is8<p.is7)) (sl (inB s.is8 (List.length p.C0)) (sl ((cnE tP (gL tLq p.C0 s.is8.toNat))&&((cnE tP s.d7)&&true)) (sl (Nat.beq t1.alt 1) (sl t1.bs0 (e 1) (k ⟨W (s.is8+1),rt tP s.d7⟩)) z) z) z) (e 2))
def M4(p:O7)(s:q8):Stp q8:=K6 .next .exit .fail p s
def pa0:Lo O7 q8:=⟨En Oa5,1,Pf0,[1,0,1,4,4],[0,1,7,8],.p,[⟨sLq tLq::.fn 62 [.o (.ptr 0 0 0 0)]::ru2 5 (sIq::sIq::ru2 10 []),[⟨0,1,true,some [[.c 4 (nL tP)]]⟩],λa H=>(⟨aLq tLq a 0,aIq a 7⟩,⟨aIq a 8,hLq tP H 0 0 0⟩)⟩],M4,[(none,λp s=>⟨[i s.is8],[⟨0,1,[[eL tP (rt tP s.d7)]],true,false,0⟩]⟩),(some 0,λp s=>upq (Fa8 p s) [(9,b (decide (s.is8<p.is7)))])],Fa8⟩
theorem vb5:pa0.Ok:=Lo.ok [] (by kernel_rfl) .nil rfl (.cons (λa H=>by kernel_rfl) .nil) λp s=>(.of @K6 (λF _ _ _ _ _=>by unfold K6;(repeat' apply j6 (f:=F))<;>rfl) (by kernel_rfl))
structure ea1 where
 alt:Nat
 is0:Int
 d7:PLq
def K7{α:Type}(kk:ea1->α)(x:ea0):α:=let t1:=(lp (M4 (⟨rt tLq x.C0,(↑(List.length x.C0):Int)⟩:O7)) (⟨0,rt tP x.d7⟩:q8));(sl ((cnE tLq x.C0)&&((cnE tP x.d7)&&true)) (sl (Nat.beq t1.1 1) (kk ⟨1,t1.2.is8,rt tP t1.2.d7⟩) (sl (Nat.beq t1.1 2) (kk ⟨1,-1,t1.2.d7⟩) (kk ⟨0,0,[]⟩))) (kk ⟨0,0,[]⟩))
def ea2(x:ea0):ea1:=K7 (λr=>r) x
def sa4(x:ea0)(r:ea1):DT (c7×List c8):=(.ite (Nat.beq r.alt 1) (.ret (i r.is0,[⟨0,1,[[eL tP r.d7]],true,false,0⟩])) .fail)
theorem Kb2{α β:Type}(F:α->β)(kk:ea1->α)(x:ea0):F (K7 kk x)=K7 (λr=>F (kk r)) x:=by unfold K7;(repeat' apply j6 (f:=F))<;>rfl
def Sa5:Sum:=Ma9 ⟨[sLq tLq,.fn 62 [.o (.ptr 0 0 0 0)]],[⟨0,1,true,some [[.c 4 (nL tP)]]⟩],λa H=>(⟨aLq tLq a 0,hLq tP H 0 0 0⟩,())⟩ (λx=>sa4 x (ea2 x))
theorem Db9:g9 prog G 77 Sa5:=F6 (enc:=λx=>⟨[eL tLq x.C0,.fn 62 [.ptr 0 0 0 0]],[⟨0,1,[[eL tP x.d7]],true,false,0⟩]⟩) (λa H=>by kernel_rfl) (bd b77 zb7) λx=>Ia8 (.s .p (.s (.s .p (.b (.u pa0.ls))) .p)) [pa0.pr] (by kernel_rfl) (.cons vb5 .nil) (Eq.trans (b:=K7 (λr=>(sa4 x r).run) x) (by kernel_rfl) (Kb2 (λr=>(sa4 x r).run) (λr=>r) x).symm)
structure W4 where
 C0:LPq
 d7:PLq
def qb5:List (Nat×Sum):=[(77,Sa5)]
theorem nb0:i9 prog G qb5:=⟨Db9,trivial⟩
structure W5 where
 alt:Nat
 bs0:Bool
 d7:PLq
def E9{α:Type}(kk:W5->α)(x:W4):α:=let t1:=(ea2 ⟨rt tLq x.C0,rt tP x.d7⟩);(sl ((cnE tLq x.C0)&&((cnE tP x.d7)&&true)) (sl (Nat.beq t1.alt 1) (kk ⟨1,decide (t1.is0>=0),t1.d7⟩) (kk ⟨0,false,[]⟩)) (kk ⟨0,false,[]⟩))
def ma9(x:W4):W5:=E9 (λr=>r) x
def ka0(x:W4)(r:W5):DT (c7×List c8):=(.ite (Nat.beq r.alt 1) (.ret (b r.bs0,[⟨0,1,[[eL tP r.d7]],true,false,0⟩])) .fail)
theorem vb6{α β:Type}(F:α->β)(kk:W5->α)(x:W4):F (E9 kk x)=E9 (λr=>F (kk r)) x:=by unfold E9;(repeat' apply j6 (f:=F))<;>rfl
def Fa9:Sum:=Ma9 ⟨[sLq tLq,.fn 62 [.o (.ptr 0 0 0 0)]],[⟨0,1,true,some [[.c 4 (nL tP)]]⟩],λa H=>(⟨aLq tLq a 0,hLq tP H 0 0 0⟩,())⟩ (λx=>ka0 x (ma9 x))
theorem qb6:g9 prog G 61 Fa9:=F6 (enc:=λx=>⟨[eL tLq x.C0,.fn 62 [.ptr 0 0 0 0]],[⟨0,1,[[eL tP x.d7]],true,false,0⟩]⟩) (λa H=>by kernel_rfl) (bd b61 nb0) λx=>B7 (Eq.trans (b:=E9 (λr=>(ka0 x r).run) x) (by kernel_rfl) (vb6 (λr=>(ka0 x r).run) (λr=>r) x).symm)
def Bd4:List (Nat×Sum):=[(61,Fa9)]
theorem nd2:i9 prog G Bd4:=⟨qb6,trivial⟩
def bb3(x:PLq)(y:LPq):ROq:=let t1:=(ma9 ⟨rt tLq y,rt tP x⟩);(sl ((cnE tLq y)&&((cnE tP x)&&true)) (sl (Nat.beq t1.alt 1) (some (b (!t1.bs0),[])) none) none)
def P7(x:PLq)(y:LPq):Bool:=ba8 (one r1B) (bb3 x y)
def Ba3(x:PLq)(y:LPq):Bool:=okO (one r1B) (bb3 x y)
def sb8:Sum:=Aa5 (ta2 tP) (ta2 tLq) (λx y=>.guard (Ba3 x y) (.ret ((one r1B).enc (P7 x y),[])))
theorem Kb3:g9 prog G 27 sb8:=Sb2 (bd b27 nd2) (one r1B) (o:=bb3) λx y=>B7 (by kernel_rfl)
end Go.Ev.Ce
namespace Go.Ev
open Go Go.ChangeShapes Go.RowKit
structure Bd5(w w':World):Prop where
 os:w'.os=w.os
 output:w'.output=w.output
 size:w.heap.size<=w'.heap.size
 block:∀k,k<w.heap.size->w'.heap[k]?=w.heap[k]?
theorem Bd5.kept{w w':World}(h:Bd5 w w')(may:MemPlace->Prop):w.keptBut w' may:=by
 refine⟨h.os,h.output,λi hi=>?_⟩
 rw[h.block i hi];cases w.heap[i]? with
 |none=>rfl
 |some o=>cases o<;>first | exact⟨rfl,rfl,rfl,λ_ _=>rfl⟩ | exact .inr ⟨rfl,rfl⟩ | rfl
theorem Bd5.frozen{w w':World}(h:Bd5 w w')(b off:Nat)(hb:b<w.heap.size):w'.frozen? ⟨b,off,none⟩=w.frozen? ⟨b,off,none⟩:=by
 simp only[World.frozen?,h.block b hb]
theorem Bd5.cell{w w':World}(h:Bd5 w w')(b off:Nat)(hb:b<w.heap.size):w'.cell? ⟨b,off,none⟩=w.cell? ⟨b,off,none⟩:=by
 simp only[World.cell?,h.block b hb]
theorem Bd5.same{w w':World}(h:Bd5 w w')(p:MemPlace)(hp:p.block<w.heap.size):w.sameAt w' p:=by
 cases p with
 |cell b off=>exact h.cell b off hp
 |map b=>exact h.block b hp
theorem tc8{α β:Type}{f:α->Option β}:∀{l:List α} {r:List β},l.mapM f=some r->r.length=l.length/\∀(j:Nat) y,r[j]?=some y->∃x,l[j]?=some x/\f x=some y
 |[],r,h=>by
  have:r=[]:=by simpa using h.symm
  subst this;simp
 |x::l,r,h=>by
  rw[List.mapM_cons] at h;obtain⟨y,h1,h2⟩:=Qjq.1 h;obtain⟨r',h3,h4⟩:=Qjq.1 h2
  have:r=y::r':=by simpa using h4.symm
  subst this;obtain⟨g1,g2⟩:=tc8 h3;refine⟨by simp[g1],λj z hz=>?_⟩
  cases j with
  |zero=>simp at hz;subst hz;exact⟨x,rfl,h1⟩
  |succ j=>simpa using g2 j z (by simpa using hz)
section
variable{D:Type}{enc:TypeId×Value->D}{P:Program}
theorem Gc3{T:TypeId->Prop}(K:Kids P T)(hsz:∀{t e:TypeId},T t->P.underlying t=some (.slice e)->0<P.cellsOf e){w w':World}{sp:Nat->Bool}(hs:Bd5 w w') :
  ∀{ts:List TypeId} {vs:List Value} {ds:List (DataW D)} {ps:List MemPlace},(∀t∈ts,T t)->DataW.TrodAll enc P w 0 (λ_=>true) true ts vs ds ps->(∀p∈ps,p.block<w.heap.size)->(∀p∈ps,sp p.block=true)->DataW.TrodAll enc P w' 0 sp true ts vs ds ps
 |[],[],[],_,_,h,_,_=>h
 |t::ts,v::vs,d::ds,ps,ht,h,hlt,hsp=>by
  obtain⟨p,q,⟨fuel,h1⟩,h2,rfl⟩:=h;refine⟨p,q,⟨fuel,?_⟩,Gc3 K hsz hs (λt h=>ht t (by simp[h])) h2 (λx hx=>hlt x (by simp[hx])) (λx hx=>hsp x (by simp[hx])),rfl⟩
  exact DataW.trod_stays K hsz (λh=>by cases h) (ht t (by simp)) h1 (λx hx=>hs.same x (hlt x (by simp at hx ⊢;exact .inl hx))) (λx hx=>hsp x (by simp at hx ⊢;exact .inl hx))
 |[],_::_,_,_,_,h,_,_=>h.elim
 |[],[],_::_,_,_,h,_,_=>h.elim
 |_::_,[],_,_,_,h,_,_=>h.elim
 |_::_,_::_,[],_,_,h,_,_=>h.elim
theorem kf2{T:TypeId->Prop}(K:Kids P T)(hsz:∀{t e:TypeId},T t->P.underlying t=some (.slice e)->0<P.cellsOf e){f:Func}{s:ChangeSpec}{apart fresh handsOn again:Bool}{W W':World}{args:Array Value}{ds gs:List (DataW D)}{before:List MemPlace}{tb:TypeId}
  (hT:∀t∈f.params.toList,T t) (hW:DataW.Whole enc P f.params.toList s.vars apart W args.toList ds gs before) (hv:s.vars=[]) (hr:f.resultTypes=#[tb]) (hb:P.underlying tb=some .bool)
  (h1:(s.fn D ds).results=[.lit (.bool true)]) (h2:(s.fn D ds).args=ds) (h3:(s.fn D ds).vars=[]) (hs:Bd5 W W') :
  s.post enc P f apart fresh handsOn again W args (.bool true) W':=by
 have hlt:=hW.lt;obtain⟨pa,pv,hA,hV,hps,hz,hn⟩:=id hW;rw[hv] at hV;have hpv:gs=[]/\pv=[]:=by
  cases gs with
  |nil=>exact⟨rfl,hV⟩
  |cons=>exact hV.elim
 obtain⟨rfl,rfl⟩:=hpv;rw[<- Qjaf ds] at h1 h3;have h2:(s.fn D (ds++[])).args=ds:=by rw[Qjaf];exact h2
 have hpa:before=pa:=by rw[hps];simp
 subst hpa;have hagain:∀sp:Nat->Bool,(∀p∈before,sp p.block=true)->DataW.TrodAll enc P W' 0 sp true f.params.toList args.toList ds before:=λsp h=>Gc3 K hsz hs hT hA hlt h
 have hres:∀(b:Nat) (sp:Nat->Bool) (hd:Bool),DataW.TrodAll enc P W' b sp hd f.resultTypes.toList ((Value.bool true).resultList f.resultTypes.size) [.lit (.bool true)] []:=λb sp hd=>by
  rw[hr];exact⟨[],[],⟨1,by simp[DataW.trod,hb,Value.cells,Value.resultList]⟩,rfl,rfl⟩
 have hvars:∀sp:Nat->Bool,DataW.TrodVars enc P W' sp s.vars ([]:List (DataW D)) []:=λsp=>by rw[hv];exact rfl
 have hok:∀(j:Nat) (t:TypeId) (r:Value),f.resultTypes[j]?=some t->((Value.bool true).resultList f.resultTypes.size)[j]?=some r->Value.okWide P W' .any 0 t r:=by
  rw[hr];intro j t r h4 h5;cases j with
  |zero =>
   simp at h4
   subst h4
   have:r=.bool true:=by simpa [Value.resultList] using h5.symm
   subst this;exact okWide_bool_mk hb _
  |succ j=>simp at h4
 have hag:DataW.TrodAll enc P W' 0 (λ_=>true) true (f.resultTypes.toList++f.params.toList) ((Value.bool true).resultList f.resultTypes.size++args.toList) (.lit (.bool true)::ds) before:=by
  have:=hagain (λ_=>true) (λ_ _=>rfl)
  rw[hr];exact⟨[],before,⟨1,by simp[DataW.trod,hb,Value.cells,Value.resultList]⟩,this,rfl⟩
 refine⟨ds,[],before,[],before,[],hW,?_,?_,?_,hs.kept _,λ_=>?_⟩
 ·rw[h1];exact hres _ _ _
 ·rw[h2];exact hagain _ λp hp=>by simpa using hlt p hp
 ·rw[h3];exact hvars _
 ·refine⟨hok,.lit (.bool true)::ds,[],before,⟨before,[],hag,hvars _,by simp,?_,?_⟩,?_⟩
  ·intro b off hp;rw[hs.frozen b off (hlt _ hp)];exact hz b off (by simpa using hp)
  ·intro ha;simpa using hn ha
  ·intro p hp _;exact hp
variable{w:World}{base:Nat}{spare:Nat->Bool}{held:Bool}
def be8(w:World):Fz:=λb o=>(w.cell? ⟨b,o,none⟩).isSome
theorem Rf7{fuel:Nat}{t:TypeId}{k:IntKind}{cs:List Value}{x:DataW D×List MemPlace}(ht:P.underlying t=some (.int k))(h:DataW.trod enc P w base spare held fuel t cs=some x) :
  ∃n,cs=[.int k n]/\(Lit.int k n).wf=true/\x.1=.lit (.int k n):=by
 cases fuel with
 |zero=>cases h
 |succ fuel =>
  match cs,h with
  |[],h=>simp[DataW.trod,ht] at h
  |[v],h =>
   cases v with
   |int k' n =>
    simp only[DataW.trod,ht] at h
    split at h
    ·rename_i hk;obtain⟨rfl,hw⟩:=hk;injection h with h;subst h
     exact⟨n,rfl,hw,rfl⟩
    ·cases h
   |_=>simp[DataW.trod,ht] at h
  |a::b::r,h=>simp[DataW.trod,ht] at h
theorem Af5{fuel:Nat}{t:TypeId}{cs:List Value}{x:DataW D×List MemPlace}(ht:P.underlying t=some .bool)(h:DataW.trod enc P w base spare held fuel t cs=some x) :
  ∃n,cs=[.bool n]/\x.1=.lit (.bool n):=by
 cases fuel with
 |zero=>cases h
 |succ fuel =>
  match cs,h with
  |[],h=>simp[DataW.trod,ht] at h
  |[v],h =>
   cases v with
   |bool n =>
    simp only[DataW.trod,ht] at h;injection h with h;subst h
    exact⟨n,rfl,rfl⟩
   |_=>simp[DataW.trod,ht] at h
  |a::b::r,h=>simp[DataW.trod,ht] at h
theorem re3{fuel:Nat}{t e:TypeId}{n:Nat}{cs:List Value}{x:DataW D×List MemPlace}(ht:P.underlying t=some (.array n e))(h:DataW.trod enc P w base spare held fuel t cs=some x) :
  cs.length=P.cellsOf t/\∃(fuel':Nat) (xs:List (DataW D×List MemPlace)),xs.length=n/\x.1=.agg (xs.map (·.1))/\∀(j:Nat) y,xs[j]?=some y->DataW.trod enc P w base spare held fuel' e ((cs.drop (j*P.cellsOf e)).take (P.cellsOf e))=some y:=by
 cases fuel with
 |zero=>cases h
 |succ fuel =>
  unfold DataW.trod at h;rw[ht] at h
  simp only at h
  split at h
  ·rename_i hl;obtain⟨xs,h1,h2⟩:=Qjah.1 h;have hx:=tc8 h1;exact⟨hl,fuel,xs,by simpa using hx.1,by rw[<- h2],λj y hy=>by
    obtain⟨a,ha,hb⟩:=hx.2 j y hy
    have:j<n:=by
     have:=(List.getElem?_eq_some_iff.1 hy).1
     rw[hx.1] at this;simpa using this
    rw[Qjaa this] at ha;injection ha with ha;subst ha;exact hb⟩
  ·cases h
theorem Ue8{fuel:Nat}{t:TypeId}{fs:Array Field}{cs:List Value}{x:DataW D×List MemPlace}(ht:P.underlying t=some (.struct fs))(h:DataW.trod enc P w base spare held fuel t cs=some x) :
  cs.length=P.cellsOf t/\∃(fuel':Nat) (xs:List (DataW D×List MemPlace)),xs.length=fs.size/\x.1=.agg (xs.map (·.1))/\∀(j:Nat) f,fs[j]?=some f->∃y,xs[j]?=some y/\DataW.trod enc P w base spare held fuel' f.type ((cs.drop f.offset).take (P.cellsOf f.type))=some y:=by
 cases fuel with
 |zero=>cases h
 |succ fuel =>
  unfold DataW.trod at h;rw[ht] at h
  simp only at h
  split at h
  ·rename_i hl;obtain⟨xs,h1,h2⟩:=Qjah.1 h;have hx:=tc8 h1;refine⟨hl,fuel,xs,by simpa using hx.1,by rw[<- h2],λj f hf=>?_⟩
   have hj:j<xs.length:=by
    rw[hx.1];simpa using (Array.getElem?_eq_some_iff.1 hf).1
   obtain⟨a,ha,hb⟩:=hx.2 j _ (Qji hj)
   have:a=f:=by
    have:fs.toList[j]?=some f:=by simpa using hf
    exact Option.some.inj (ha.symm.trans this)
   subst this;exact⟨_,Qji hj,hb⟩
  ·cases h
theorem kf3{fuel:Nat}{t e:TypeId}{cs:List Value}{x:DataW D×List MemPlace}(ht:P.underlying t=some (.slice e))(h:DataW.trod enc P w base spare held fuel t cs=some x) :
  cs=[.slice none 0 0]\/∃(a:Addr) (n cap fuel':Nat),cs=[.slice (some a) n cap]/\n<=cap/\cap<=maxLen/\∀j,j<n->∃row y,w.cells? base (a.add (j*P.cellsOf e)) (P.cellsOf e)=some row/\DataW.trod enc P w base spare held fuel' e row=some y:=by
 cases fuel with
 |zero=>cases h
 |succ fuel =>
  match cs,h with
  |[],h=>simp[DataW.trod,ht] at h
  |[v],h =>
   cases v with
   |slice a len cap =>
    cases a with
    |none =>
     simp only[DataW.trod,ht] at h
     split at h<;>first | (rename_i e1;cases e1;done) | skip
     all_goals first | exact .inl rfl | (simp_all;done) | skip
    |some a =>
     refine .inr ?_;simp only[DataW.trod,ht] at h
     split at h
     ·rename_i hc;obtain⟨elems,h1,h2⟩:=Qjq.1 h;have hx:=tc8 h1;refine⟨a,len,cap,fuel,rfl,hc.2.1,hc.2.2,λj hj=>?_⟩
      have hj':j<elems.length:=by rw[hx.1];simpa using hj
      obtain⟨i,hi,hb⟩:=hx.2 j _ (Qji hj');rw[Qjaa hj] at hi;injection hi with hi;subst hi;obtain⟨row,r1,r2⟩:=Qjq.1 hb;exact⟨row,_,r1,r2⟩
     ·cases h
   |_=>simp[DataW.trod,ht] at h
  |a::b::r,h=>simp[DataW.trod,ht] at h
theorem Le2:∀(d:Nat) (t:TypeId) (l:List (Nat×CK)),pa4 P d t=some l->∀(fuel:Nat) (cs:List Value) (x:DataW D×List MemPlace),DataW.trod enc P w base spare held fuel t cs=some x->∀p∈l,Va2 cs.toArray p
 |0,_,_,h,_,_,_,_=>by cases h
 |d+1,t,l,h,fuel,cs,x,hx=>by
  have hpart:∀{off n:Nat} {e:TypeId} {l':List (Nat×CK)} {fuel':Nat} {y:DataW D×List MemPlace},oc2 off n (pa4 P d e)=some l'->DataW.trod enc P w base spare held fuel' e ((cs.drop off).take n)=some y->∀p∈l',Va2 cs.toArray p:=λ{off n e l' fuel' y} h1 h2 p hp=>by
   obtain⟨l2,g1,g2,rfl⟩:=eb4 h1;obtain⟨q,hq,rfl⟩:=List.mem_map.1 hp
   have:=Le2 d e l2 g1 fuel' _ y h2 q hq
   have hlt:=g2 q hq;unfold Va2 at this ⊢;simp only[List.getElem?_toArray,List.getElem?_take,hlt,if_true,List.getElem?_drop] at this ⊢;exact this
  have hcat:∀{α:Type} (f:α->Option (List (Nat×CK))) (xs:List α) (l:List (Nat×CK)),Aa4 (xs.map f)=some l->∀p∈l,∃a∈xs,∃l',f a=some l'/\p∈l':=λ{α} f xs=>by
   induction xs with
   |nil=>intro l h;simp only[List.map_nil,Aa4] at h;injection h with h;subst h;simp
   |cons a xs ih =>
    intro l h p hp;simp only[List.map_cons,Aa4] at h;cases h1:f a with
    |none=>simp[h1] at h
    |some l1 =>
    cases h2:Aa4 (xs.map f) with
    |none=>simp[h1,h2] at h
    |some l2 =>
    simp only[h1,h2] at h;injection h with h;subst h
    rcases Qjb.1 hp with hp|hp
    ·exact⟨a,by simp,l1,h1,hp⟩
    ·obtain⟨b,hb,r⟩:=ih l2 h2 p hp;exact⟨b,by simp[hb],r⟩
  unfold pa4 at h;cases hu:P.underlying t with
  |none=>simp[hu] at h
  |some u =>
  cases u with
  |int k =>
   simp only[hu] at h;injection h with h;subst h
   obtain⟨n,rfl,_,_⟩:=Rf7 hu hx;intro p hp;simp at hp;subst hp;exact⟨n,rfl⟩
  |bool =>
   simp only[hu] at h;injection h with h;subst h
   obtain⟨n,rfl,_⟩:=Af5 hu hx;intro p hp;simp at hp;subst hp;exact⟨n,rfl⟩
  |struct fs =>
   simp only[hu] at h
   split at h
   ·cases h
   obtain⟨_,fuel',xs,_,_,hxs⟩:=Ue8 hu hx;intro p hp;obtain⟨f,hf,l',h1,h2⟩:=hcat _ _ _ h p hp
   split at h1
   ·cases h1
   obtain⟨j,hj⟩:=List.getElem?_of_mem hf;obtain⟨y,_,hy⟩:=hxs j f (by simpa using hj)
   have hc:P.cellsOf f.type=szT P f.type:=by
    unfold Program.cellsOf szT;cases P.info? f.type<;>rfl
   rw[hc] at hy;exact hpart h1 hy p h2
  |array n e =>
   simp only[hu] at h
   split at h
   case isFalse=>cases h
   obtain⟨_,fuel',xs,hn,_,hxs⟩:=re3 hu hx;intro p hp;obtain⟨j,hj,l',h1,h2⟩:=hcat _ _ _ h p hp;have hj':j<xs.length:=by rw[hn];simpa using hj
   have hy:=hxs j _ (Qji hj');have hc:P.cellsOf e=szT P e:=by
    unfold Program.cellsOf szT;cases P.info? e<;>rfl
   rw[hc] at hy;exact hpart h1 hy p h2
  |_=>simp[hu] at h
def lb4(k:IntKind)(es:Nat)(g:Nat->Int):List c7:=(List.range es).map λc=>.v (.int k (g c))
def db7(k:IntKind)(es:Nat):List (Nat×CK):=(List.range es).map λc=>(c,.int k)
theorem Af6{d:Nat}{t:TypeId}{k:IntKind}{es:Nat}(hf:pa4 P d t=some (db7 k es)){fuel:Nat}{cs:List Value}{x:DataW D×List MemPlace}(hx:DataW.trod enc P w base spare held fuel t cs=some x)(hl:cs.length=es) :
  ∃g:Nat->Int,∀c,c<es->cs[c]?=some (.int k (g c)):=by
 have h:=Le2 d t _ hf fuel cs x hx;have h':∀c,∃n:Int,c<es->cs[c]?=some (.int k n):=λc=>by
  by_cases hc:c<es
  ·have:=h (c,.int k) (List.mem_map.2 ⟨c,by simpa using hc,rfl⟩)
   obtain⟨n,hn⟩:=this;exact⟨n,λ_=>by simpa using hn⟩
  ·exact⟨0,λh=>absurd h hc⟩
 exact⟨λc=>Classical.choose (h' c),λc hc=>Classical.choose_spec (h' c) hc⟩
theorem kf4{F:Fz}{w:World}(k:IntKind)(n:Int):ia7 F w (.v (.int k n)) (.int k n):=.v _ rfl
theorem De8{k:IntKind}{es:Nat}{g:Nat->Int}{c:Nat}{x:c7}(h:(lb4 k es g)[c]?=some x):c<es/\x=.v (.int k (g c)):=by
 unfold lb4 at h;obtain⟨h1,h2⟩:=Pa5 h;exact⟨h1,h2.symm⟩
theorem Jd2{t e:TypeId}{k:IntKind}{es d:Nat}(ht:P.underlying t=some (.slice e))(hf:pa4 P d e=some (db7 k es))(hes:P.cellsOf e=es)(h0:0<es){fuel:Nat}{cs:List Value}{x:DataW D×List MemPlace}(hx:DataW.trod enc P w 0 spare held fuel t cs=some x) :
  ∃(v:Value) (n:Nat) (g:Nat->Nat->Int),cs=[v]/\n<=maxLen/\ia7 (be8 w) w (.tree es n λj=>lb4 k es (g j)) v:=by
 rcases kf3 ht hx with rfl|⟨a,n,cap,fuel',rfl,hn,hc,hel⟩
 ·exact⟨_,0,λ_ _=>0,rfl,Nat.zero_le _,.nil _ _⟩
 ·rw[hes] at hel;have hcell:∀j,j<n->∃g:Nat->Int,∀c,c<es->w.cell? ((a.add (j*es)).add c)=some (.int k (g c)):=λj hj=>by
   obtain⟨row,y,h1,h2⟩:=hel j hj;unfold World.cells? at h1
   split at h1
   ·obtain⟨l1,l2⟩:=tc8 h1;have hl:row.length=es:=by simpa using l1
    obtain⟨g,hg⟩:=Af6 hf h2 hl;refine⟨g,λc hc=>?_⟩
    obtain⟨i,hi,hi2⟩:=l2 c _ (hg c hc);rw[Qjaa hc] at hi;injection hi with hi;subst hi;exact hi2
   ·cases h1
  have hg:∀j,∃g:Nat->Int,j<n->∀c,c<es->w.cell? ((a.add (j*es)).add c)=some (.int k (g c)):=λj=>by
   by_cases hj:j<n
   ·obtain⟨g,hg⟩:=hcell j hj;exact⟨g,λ_=>hg⟩
   ·exact⟨λ_=>0,λh=>absurd h hj⟩
  obtain⟨g,hg⟩:=Classical.axiomOfChoice hg;have hspot:0<n->a.spot=none:=λhn=>by
   have:=hg 0 hn 0 h0
   simpa [Addr.add] using World.cell?_spot this
  have hw:∀j c,j<n->c<es->w.cell? ⟨a.block,a.off+(j*es+c),none⟩=some (.int k (g j c)):=λj c hj hc=>by
   have:=hg j hj c hc
   rw[Z8 (hspot (by omega)),Z8 rfl] at this
   simpa [Nat.add_assoc] using this
  refine⟨_,n,g,rfl,Nat.le_trans hn hc,.tree es n _ a cap (λj c=>.int k (g j c)) hspot hn (λi hi=>by simp[lb4]) (λi c hi hc=>?_) hw λi c hi hc=>?_⟩
  ·unfold be8;rw[hw i c hi hc];rfl
  ·have:=(De8 (Qji hc)).2
   rw[this];exact kf4 _ _
theorem Ue9(w:World):F5 (λk=>w.heap.size<=k) (λ_=>⟨0,0,0⟩) [] (be8 w) w :=
 ⟨λid b h=>by simp at h,λid id' b b' h=>by simp at h,λ_ _ h=>h,λ_ h=>h⟩
theorem Ve0{G:Nat->List Value}{f:FuncId}{S:Sum}(hS:g9 P G f S){aargs:List c7}{args:List Value}(hrun:∃out,(S aargs []).run=some (b true,out))(hl:aargs.length=args.length)
  (ha:∀(i:Nat) x x',aargs[i]?=some x->args[i]?=some x'->qa6 (λ_=>⟨0,0,0⟩) [] (be8 w) w x x') (hG:∀g (c:Nat) x,(G g)[c]?=some x->x.oneCell'=true/\w.cell? ⟨g,c,none⟩=some x) :
  Calls P f args.toArray w λe w'=>e=.returned (.bool true)/\Bd5 w w':=by
 obtain⟨out,hrun⟩:=hrun;obtain⟨_,hc⟩:=hS aargs [] (b true) out hrun (λk=>w.heap.size<=k) (λ_=>⟨0,0,0⟩) (be8 w) w args (Ue9 w) hl (λi x x' h1 h2=>.val (ha i x x' h1 h2)) (λg c x hx=>by
  obtain⟨h1,h2⟩:=hG g c x hx;exact⟨h1,by unfold be8;rw[h2];rfl,h2⟩)
 refine hc.mono λe w' ⟨r',he,ρ',F',hA,hH,hW⟩=>?_
 have:=ga5 hW
 subst this;exact⟨he,hA.ext.os,hA.ext.output,hA.ext.size,λk hk=>hA.ext.block k hk (by omega)⟩
theorem Af7{ρ:Rho}{H:List c8}{t e u:TypeId}{k:IntKind}{es d:Nat}{v:Value}{dd:DataW D}{pp:List MemPlace}{bs:Nat}{r:Reach}(ht:P.underlying t=some (.array 2 e))(he:P.underlying e=some (.slice u))(hf:pa4 P d u=some (db7 k es))(hes:P.cellsOf u=es)(hce:P.cellsOf e=1)(hct:P.cellsOf t=2)(h0:0<es)
  (hok:Value.okWide P w r bs t v) (h:DataW.Trod enc P w 0 spare held t v dd pp):∃(m n:Nat) (g j:Nat->Nat->Int),qa6 ρ H (be8 w) w (.agg [.tree es m λi=>lb4 k es (g i),.tree es n λi=>lb4 k es (j i)]) v:=by
 have hv:∃cs:Array Value,v=.agg cs/\cs.size=P.cellsOf t:=by
  unfold Value.okWide at hok;rw[ht] at hok;obtain⟨cs,h1,h2,_⟩:=hok;exact⟨cs,h1,h2⟩
 obtain⟨cs,rfl,hsz⟩:=hv;rw[hct] at hsz;obtain⟨fuel,hx⟩:=h;have hx:DataW.trod enc P w 0 spare held fuel t cs.toList=some (dd,pp):=hx;obtain⟨_,f1,xs,hl,_,hxs⟩:=re3 ht hx;have hp:∀i,i<2->∃(n:Nat) (g:Nat->Nat->Int),∀x',cs[i]?=some x'->ia7 (be8 w) w (.tree es n λj=>lb4 k es (g j)) x':=λi hi=>by
  have hi':i<xs.length:=by omega
  have h1:=hxs i _ (Qji hi');rw[hce] at h1;obtain⟨v',n,g,e1,_,e3⟩:=Jd2 he hf hes h0 h1;refine⟨n,g,λx' hx'=>?_⟩
  have e4:=congrArg (λl=>l[0]?) e1
  simp only[List.getElem?_take,List.getElem?_drop,Nat.mul_one,Nat.add_zero,Nat.lt_add_one,if_true,List.getElem?_cons_zero,Array.getElem?_toList] at e4
  have:x'=v':=Option.some.inj (hx'.symm.trans (by simpa using e4))
  subst this;exact e3
 obtain⟨m,g,hm⟩:=hp 0 (by omega)
 obtain⟨n,j,hn⟩:=hp 1 (by omega)
 refine⟨m,n,g,j,.agg _ _ (by simp[hsz]) λi x x' hx hx'=>?_⟩
 match i,hx with
 |0,hx=>cases hx;exact .mem (hm x' hx')
 |1,hx=>cases hx;exact .mem (hn x' hx')
end
end Go.Ev
namespace Go.Ev.L
open Go Go.Ev
def Rdg{α:Type}(c:Cod α)(x:c7)(a:α):Prop:=c.dec x=some a/\c.grd x=true
section
variable{α β γ δ ε:Type}{c:Cod α}{d:Cod β}{e:Cod γ}{f:Cod δ}{c5:Cod ε}{x y z w v:c7}{a:α}{b':β}{g:γ}{j:δ}{m:ε}{r:c7×List c8}
theorem ng6{k:α->β->DT (c7×List c8)}(h1:Rdg c x a)(h2:Rdg d y b')(h:(k a b').run=some r):(Aa5 c d k [x,y] []).run=some r:=by
 unfold Aa5;simp only[h1.1,h1.2,h2.1,h2.2];exact h
end
theorem Rf8{g p:Bool}(hg:g=true)(hp:p=true):(DT.guard g (.ret ((one r1B).enc p,([]:List c8)))).run=some (b true,([]:List c8)):=by subst hg;subst hp;rfl
def cg0:Value->ByteArray
 |.string s=>s
 |_=>⟨#[]⟩
def vb7(H H':List c8):Prop:=∀id g,(blkAt H id g).map (λb=>(b.es,b.elems))=(blkAt H' id g).map (λb=>(b.es,b.elems))
theorem vb7.refl(H:List c8):vb7 H H:=λ_ _=>rfl
theorem vb7.disown(H:List c8)(id:Nat):vb7 (disown H id) H:=λj g=>by
 rw[Pc4];cases blkAt H j g with
 |none=>rfl
 |some b =>
  simp only[Option.map_some]
  split<;>rfl
theorem vb7.trans{H1 H2 H3:List c8}(h:vb7 H1 H2)(k:vb7 H2 H3):vb7 H1 H3:=λid g=>(h id g).trans (k id g)
theorem vb7.symm{H1 H2:List c8}(h:vb7 H1 H2):vb7 H2 H1:=λid g=>(h id g).symm
theorem nd3{H H':List c8}(h:vb7 H H')(x:c7):(freezeCell H x).map (·.1)=(freezeCell H' x).map (·.1)/\∀y H1 H1',freezeCell H x=some (y,H1)->freezeCell H' x=some (y,H1')->vb7 H1 H1':=by
 cases x with
 |v u =>
  simp only[freezeCell];cases Mc4 u with
  |true =>
   refine⟨rfl,λy H1 H1' e e'=>?_⟩
   injection e with e;injection e with _ e;injection e' with e';injection e' with _ e'
   subst e e';exact h
  |false=>exact⟨rfl,λy H1 H1' e=>by cases e⟩
 |tree es n get =>
  refine⟨rfl,λy H1 H1' e e'=>?_⟩
  injection e with e;injection e with _ e;injection e' with e';injection e' with _ e'
  subst e e';exact h
 |fn f caps =>
  simp only[freezeCell];cases Oa9 nc5 caps with
  |true =>
   refine⟨rfl,λy H1 H1' e e'=>?_⟩
   injection e with e;injection e with _ e;injection e' with e';injection e' with _ e'
   subst e e';exact h
  |false=>exact⟨rfl,λy H1 H1' e=>by cases e⟩
 |sl id off n g =>
  simp only[freezeCell];have hb:=h id g;cases h1:blkAt H id g with
  |none =>
   cases h2:blkAt H' id g with
   |none=>exact⟨rfl,λy H1 H1' e=>by cases e⟩
   |some b'=>rw[h1,h2] at hb;cases hb
  |some b =>
   cases h2:blkAt H' id g with
   |none=>rw[h1,h2] at hb;cases hb
   |some b' =>
    rw[h1,h2] at hb;simp only[Option.map_some] at hb;injection hb with hb;injection hb with e1 e2
    refine⟨by simp only[Option.map_some,ac4,e1,e2],λy H1 H1' e e'=>?_⟩
    injection e with e;injection e with _ e;injection e' with e';injection e' with _ e'
    subst e e';exact (vb7.disown H id).trans (h.trans (vb7.disown H' id).symm)
 |_=>exact⟨rfl,λy H1 H1' e=>by cases e⟩
theorem Yb7:∀(cs:List c7) {H H':List c8},vb7 H H'->(freezeCells H cs).map (·.1)=(freezeCells H' cs).map (·.1)
 |[],H,H',h=>rfl
 |x::r,H,H',h=>by
  obtain⟨h1,h2⟩:=nd3 h x;simp only[freezeCells];cases e1:freezeCell H x with
  |none =>
   cases e2:freezeCell H' x with
   |none=>rfl
   |some q=>rw[e1,e2] at h1;cases h1
  |some p =>
   cases e2:freezeCell H' x with
   |none=>rw[e1,e2] at h1;cases h1
   |some q =>
    rw[e1,e2] at h1;obtain⟨y,H1⟩:=p;obtain⟨y',H1'⟩:=q;simp only[Option.map_some] at h1;injection h1 with h1;subst h1
    have:=Yb7 r (h2 _ _ _ e1 e2)
    simp only
    cases e3:freezeCells H1 r with
    |none =>
     cases e4:freezeCells H1' r with
     |none=>rfl
     |some q=>rw[e3,e4] at this;cases this
    |some p =>
     cases e4:freezeCells H1' r with
     |none=>rw[e3,e4] at this;cases this
     |some q =>
      rw[e3,e4] at this;simp only[Option.map_some] at this;injection this with this;simp[this]
theorem Bd6{H H':List c8}{x y:c7}(h:freezeCell H x=some (y,H')):Dis H H':=by
 cases x with
 |v u =>
  simp only[freezeCell] at h;cases hu:Mc4 u with
  |true=>rw[hu] at h;injection h with h;injection h with _ h;subst h;exact .refl
  |false=>rw[hu] at h;cases h
 |tree es n get=>injection h with h;injection h with _ h;subst h;exact .refl
 |fn f caps =>
  simp only[freezeCell] at h;cases hu:Oa9 nc5 caps with
  |true=>rw[hu] at h;injection h with h;injection h with _ h;subst h;exact .refl
  |false=>rw[hu] at h;cases h
 |sl id off n g =>
  simp only[freezeCell] at h;cases h1:blkAt H id g with
  |none=>rw[h1] at h;cases h
  |some b=>rw[h1] at h;injection h with h;injection h with _ h;subst h;exact .step id .refl
 |_=>cases h
theorem Dis.app{H H1 H2:List c8}(h:Dis H H1)(k:Dis H1 H2):Dis H H2:=by
 induction k with
 |refl=>exact h
 |step id _ ih=>exact .step id ih
theorem kc5:∀{cs l:List c7} {H H':List c8},freezeCells H cs=some (l,H')->Dis H H'
 |[],l,H,H',h=>by
  injection h with h;injection h with _ h;subst h;exact .refl
 |x::r,l,H,H',h=>by
  simp only[freezeCells] at h;cases e1:freezeCell H x with
  |none=>rw[e1] at h;cases h
  |some p =>
   obtain⟨y,H1⟩:=p;rw[e1] at h
   simp only at h
   cases e2:freezeCells H1 r with
   |none=>rw[e2] at h;cases h
   |some q =>
    obtain⟨l2,H2⟩:=q;rw[e2] at h
    simp only at h
    injection h with h;injection h with _ h;subst h
    exact (Bd6 e1).app (kc5 e2)
section
variable{α:Type}(t:Ty α)
def r1S:R1 α where
 enc x:=.agg (t.row x)
 rd H x:=match x with
  |.agg cs=>Option.rec (motive:=λ_=>Option α) none (λp=>Bool.rec (motive:=λ_=>Option α) none (some (t.rd p)) (t.ok p)) ((freezeCells H cs).map (·.1))
  |_=>none
 d:=t.d
 le H x r h:=by
  split at h
  ·rename_i cs;cases hf:freezeCells H cs with
   |none=>rw[hf] at h;cases h
   |some q =>
    obtain⟨l,H'⟩:=q;rw[hf] at h;simp only[Option.map_some] at h;cases hb:t.ok l with
    |false=>rw[hb] at h;cases h
    |true =>
     rw[hb] at h;have h:some (t.rd l)=some r:=h;injection h with h;subst h;have h3:=t.h3 l hb;refine⟨.agg l,H',by simp only[Ga1,hf],kc5 hf,λρ' H2 F w v hv=>?_⟩
     obtain⟨vs,rfl,hl,hr⟩:=Ga0 (.val hv);refine .agg _ _ (by rw[<- h3.length];exact hl) λi y v' hy hv'=>?_
     obtain⟨x,hx,hle⟩:=h3.get i y hy;exact hle.c _ _ _ _ _ (hr i x v' hx hv')
  ·cases h
 dis H id x:=by
  cases x with
  |agg cs=>simp only[Yb7 cs (vb7.disown H id)]
  |_=>rfl
def cG:Cod ByteArray where
 enc s:=.v (.string s)
 dec x:=match x with
  |.v (.string s)=>some s
  |_=>none
 grd _:=true
 ok x a hx _:=by
  split at hx
  ·injection hx with hx;subst hx;exact λ_ _ _ _ _ h=>h
  ·cases hx
def De9(es:Nat):c7->Bool
 |.tree e _ _=>Nat.beq e es
 |.v (.slice none 0 0)=>true
 |_=>false
def Rf9(sh:List c7->Bool):Cod α where
 enc x:=.agg (t.row x)
 dec x:=match x with
  |.agg cs=>Bool.rec (motive:=λ_=>Option α) none (some (t.rd cs)) (sh cs)
  |_=>none
 grd x:=match x with
  |.agg cs=>t.ok cs
  |_=>false
 ok x a hx hg:=by
  split at hx
  ·rename_i cs;cases hb:sh cs with
   |false=>rw[hb] at hx;cases hx
   |true =>
    rw[hb] at hx;have hx:some (t.rd cs)=some a:=hx;injection hx with hx;subst hx;have h3:=t.h3 cs hg;intro ρ H F w v hv;obtain⟨vs,rfl,hl,hr⟩:=Ga0 hv;refine .val (.agg _ _ (by rw[<- h3.length];exact hl) λi y v' hy hv'=>?_)
    obtain⟨x,hx,hle⟩:=h3.get i y hy;exact hle.c _ _ _ _ _ (hr i x v' hx hv')
  ·cases hx
end
end Go.Ev.L
namespace Go.Ev.Ce
open Go Go.Ev Go.Ev.L Go.Proofs
theorem hd1{x y:c7}(h:pc6 [x] [y]):CLe x y:=by cases h with | cons h _=>exact h
structure Prt where
 nm:ByteArray
 cl:LPq
 wt:List Int
def Jf4:List c7->Bool
 |[.v (.string _),x1,x2]=>Bool.and (tMq.ok [x1]) (Bool.and ((tLs tI).ok [x2]) (true))
 |_=>false
def tJ:Ty Prt where
 es:=3
 row x:=[.v (.string x.nm),eL tLq x.cl,eL tI x.wt]
 rd r:=⟨cg0 (toV (hdA r)),rL tLq (hdA (tlA r)),rL tI (hdA (tlA (tlA r)))⟩
 ok:=Jf4
 cks:=[.any,.sl 1,.sl 1]
 d:=⟨⟨#[]⟩,[],[]⟩
 h0 _:=rfl
 h1 x:=by
  show Prt.mk x.nm (rL tLq (eL tLq x.cl)) (rL tI (eL tI x.wt))=x;rw[show rL tLq (eL tLq x.cl)=x.cl from i6 tLq x.cl,show rL tI (eL tI x.wt)=x.wt from i6 tI x.wt]
 h2 x:=by
  show Bool.and (tMq.ok (tMq.row x.cl)) (Bool.and ((tLs tI).ok ((tLs tI).row x.wt)) (true))=true;rw[tMq.h2 x.cl,(tLs tI).h2 x.wt];rfl
 h3 r h:=by
  unfold Jf4 at h
  split at h
  ·rename_i _ x1 x2;simp only[Qjl] at h;obtain⟨h1,h2,_⟩:=h;have c1:=tMq.h3 _ h1;have c2:=(tLs tI).h3 _ h2;exact .cons (.refl _) (.cons (hd1 c1) (.cons (hd1 c2) (.nil)))
  ·cases h
 h4 _:=rfl
 h5 _:=rfl
def r1J:R1 Prt:=r1S tJ
structure Pce where
 su:List Bool
 to:List Bool
 cu:LPq
def Jf5:List c7->Bool
 |[x0,x1,x2]=>Bool.and ((tLs tB).ok [x0]) (Bool.and ((tLs tB).ok [x1]) (Bool.and (tMq.ok [x2]) (true)))
 |_=>false
def tO:Ty Pce where
 es:=3
 row x:=[eL tB x.su,eL tB x.to,eL tLq x.cu]
 rd r:=⟨rL tB (hdA r),rL tB (hdA (tlA r)),rL tLq (hdA (tlA (tlA r)))⟩
 ok:=Jf5
 cks:=[.sl 1,.sl 1,.sl 1]
 d:=⟨[],[],[]⟩
 h0 _:=rfl
 h1 x:=by
  show Pce.mk (rL tB (eL tB x.su)) (rL tB (eL tB x.to)) (rL tLq (eL tLq x.cu))=x;rw[show rL tB (eL tB x.su)=x.su from i6 tB x.su,show rL tB (eL tB x.to)=x.to from i6 tB x.to,show rL tLq (eL tLq x.cu)=x.cu from i6 tLq x.cu]
 h2 x:=by
  show Bool.and ((tLs tB).ok ((tLs tB).row x.su)) (Bool.and ((tLs tB).ok ((tLs tB).row x.to)) (Bool.and (tMq.ok (tMq.row x.cu)) (true)))=true;rw[(tLs tB).h2 x.su,(tLs tB).h2 x.to,tMq.h2 x.cu];rfl
 h3 r h:=by
  unfold Jf5 at h
  split at h
  ·rename_i x0 x1 x2;simp only[Qjl] at h;obtain⟨h0,h1,h2,_⟩:=h;have c0:=(tLs tB).h3 _ h0;have c1:=(tLs tB).h3 _ h1;have c2:=tMq.h3 _ h2;exact .cons (hd1 c0) (.cons (hd1 c1) (.cons (hd1 c2) (.nil)))
  ·cases h
 h4 _:=rfl
 h5 _:=rfl
def r1O:R1 Pce:=r1S tO
structure Cse where
 p0:List Int
 p1:List Int
 c0:List (List Int)
 c1:List (List Int)
 t0:List (List Int)
 t1:List (List Int)
 q0:Int
 q1:Int
 q2:Int
 q3:Int
 q4:Int
 q5:Int
def cg1:List c7->Bool
 |[.v (.string _),x1,x2]=>Bool.and (De9 1 x1) (Bool.and (De9 1 x2) (true))
 |_=>false
def cJ:Cod Prt:=Rf9 tJ cg1
def cg2:List c7->Bool
 |[x0,x1,x2]=>Bool.and (De9 1 x0) (Bool.and (De9 1 x1) (Bool.and (De9 1 x2) (true)))
 |_=>false
def cO:Cod Pce:=Rf9 tO cg2
structure LL where
 u:List Int
 v:List Int
def cg3:List c7->Bool
 |[x0,x1]=>Bool.and ((tLs tI).ok [x0]) (Bool.and ((tLs tI).ok [x1]) (true))
 |_=>false
def tZ:Ty LL where
 es:=2
 row x:=[eL tI x.u,eL tI x.v]
 rd r:=⟨rL tI (hdA r),rL tI (hdA (tlA r))⟩
 ok:=cg3
 cks:=[.sl 1,.sl 1]
 d:=⟨[],[]⟩
 h0 _:=rfl
 h1 x:=by
  show LL.mk (rL tI (eL tI x.u)) (rL tI (eL tI x.v))=x;rw[show rL tI (eL tI x.u)=x.u from i6 tI x.u,show rL tI (eL tI x.v)=x.v from i6 tI x.v]
 h2 x:=by
  show Bool.and ((tLs tI).ok ((tLs tI).row x.u)) (Bool.and ((tLs tI).ok ((tLs tI).row x.v)) (true))=true;rw[(tLs tI).h2 x.u,(tLs tI).h2 x.v];rfl
 h3 r h:=by
  unfold cg3 at h
  split at h
  ·rename_i x0 x1;simp only[Qjl] at h;obtain⟨h0,h1,_⟩:=h;exact .cons (hd1 ((tLs tI).h3 _ h0)) (.cons (hd1 ((tLs tI).h3 _ h1)) .nil)
  ·cases h
 h4 _:=rfl
 h5 _:=rfl
def ng7:List c7->Bool
 |[x0,x1]=>Bool.and (De9 1 x0) (Bool.and (De9 1 x1) (true))
 |_=>false
def cZ:Cod LL:=Rf9 tZ ng7
structure L2 where
 u:List Int
 v:List Int
def c2L:Cod L2 where
 enc z:=eL (tLs tI) [z.u,z.v]
 dec x:=match (ta2 (tLs tI)).dec x with
  |some [u,v]=>some ⟨u,v⟩
  |_=>none
 grd x:=(ta2 (tLs tI)).grd x
 ok x a hx hg:=by
  split at hx
  ·rename_i u v h;injection hx with hx;subst hx;exact (ta2 (tLs tI)).ok x [u,v] h hg
  ·cases hx
def dU:c7->Option Int
 |.v (.int .u8 n)=>some n
 |_=>none
theorem cg4{x:c7}{n:Int}(h:dU x=some n):x=.v (.int .u8 n):=by
 unfold dU at h
 split at h
 ·cases h;rfl
 ·cases h
def cU:Cod Int:=⟨λn=>.v (.int .u8 n),dU,λ_=>true,λ_ _ h _=>.of (cg4 h)⟩
set_option maxRecDepth 100000
def cd3:List (Nat×Sum):=[]
theorem Tc5:i9 prog G cd3:=trivial
def La2(x:Int):ROq:=(sl (decide (x<1)) (some (b true,[])) (some (b (decide (x>3)),[])))
def cb9(x:Int):Bool:=ba8 (one r1B) (La2 x)
def db0(x:Int):Bool:=okO (one r1B) (La2 x)
def kc6:Sum:=ga4 cI (λx=>.guard (db0 x) (.ret ((one r1B).enc (cb9 x),[])))
theorem cd4:g9 prog G 37 kc6:=db8 (bd b37 Tc5) (one r1B) (o:=La2) λx=>B7 (by kernel_rfl)
structure na5 where
 Zb9:List Int
def bb4:List (Nat×Sum):=[(37,kc6)]
theorem Nb7:i9 prog G bb4:=⟨cd4,trivial⟩
structure U9 where
 Zb9:List Int
 is7:Int
structure A0 where
 is8:Int
def Sa6(p:U9)(s:A0):St:=⟨eL tI p.Zb9::.fn 37 []::ra 5 (i p.is7::i s.is8::ra 10 []),[]⟩
def R6{α:Type}(k:A0->α)(e:Nat->α)(z:α)(p:U9)(s:A0):α:=let t1:=(cb9 (gL tI p.Zb9 s.is8.toNat));(sl (decide (s.is8<p.is7)) (sl (inB s.is8 (List.length p.Zb9)) (sl (db0 (gL tI p.Zb9 s.is8.toNat)) (sl t1 (e 1) (k ⟨W (s.is8+1)⟩)) z) z) (e 2))
def S9(p:U9)(s:A0):Stp A0:=R6 .next .exit .fail p s
def wa6:Lo U9 A0:=⟨En bb4,0,Yf0,[1,0,1,4,4],[0,1,7,8],.p,[⟨sLq tI::.s (.o (.fn 37))::ru2 5 (sIq::sIq::ru2 10 []),[],λa H=>(⟨aLq tI a 0,aIq a 7⟩,⟨aIq a 8⟩)⟩],S9,[(none,λp s=>⟨[i s.is8],[]⟩),(some 0,λp s=>upq (Sa6 p s) [(9,b (decide (s.is8<p.is7)))])],Sa6⟩
theorem Kb4:wa6.Ok:=Lo.ok [] (by kernel_rfl) .nil rfl (.cons (λa H=>by kernel_rfl) .nil) λp s=>(.of @R6 (λF _ _ _ _ _=>by unfold R6;(repeat' apply j6 (f:=F))<;>rfl) (by kernel_rfl))
structure na6 where
 alt:Nat
 is0:Int
def S3{α:Type}(kk:na6->α)(x:na5):α:=let t1:=(lp (S9 (⟨rt tI x.Zb9,(↑(List.length x.Zb9):Int)⟩:U9)) (⟨0⟩:A0));(sl ((cnE tI x.Zb9)&&true) (sl (Nat.beq t1.1 1) (kk ⟨1,t1.2.is8⟩) (sl (Nat.beq t1.1 2) (kk ⟨1,-1⟩) (kk ⟨0,0⟩))) (kk ⟨0,0⟩))
def na7(x:na5):na6:=S3 (λr=>r) x
def Ba4(x:na5)(r:na6):DT (c7×List c8):=(.ite (Nat.beq r.alt 1) (.ret (i r.is0,[])) .fail)
theorem Yb8{α β:Type}(F:α->β)(kk:na6->α)(x:na5):F (S3 kk x)=S3 (λr=>F (kk r)) x:=by unfold S3;(repeat' apply j6 (f:=F))<;>rfl
def fb4:Sum:=Ma9 ⟨[sLq tI,.s (.o (.fn 37))],[],λa H=>(⟨aLq tI a 0⟩,())⟩ (λx=>Ba4 x (na7 x))
theorem Ub8:g9 prog G 69 fb4:=F6 (enc:=λx=>⟨[eL tI x.Zb9,.fn 37 []],[]⟩) (λa H=>by kernel_rfl) (bd b69 Nb7) λx=>Ia8 (.s .p (.s (.s .p (.b (.u wa6.ls))) .p)) [wa6.pr] (by kernel_rfl) (.cons Kb4 .nil) (Eq.trans (b:=S3 (λr=>(Ba4 x r).run) x) (by kernel_rfl) (Yb8 (λr=>(Ba4 x r).run) (λr=>r) x).symm)
structure ea3 where
 Zb9:List Int
def Eb0:List (Nat×Sum):=[(69,fb4)]
theorem zb8:i9 prog G Eb0:=⟨Ub8,trivial⟩
structure ea4 where
 alt:Nat
 bs0:Bool
def K8{α:Type}(kk:ea4->α)(x:ea3):α:=let t1:=(na7 ⟨rt tI x.Zb9⟩);(sl ((cnE tI x.Zb9)&&true) (sl (Nat.beq t1.alt 1) (kk ⟨1,decide (t1.is0>=0)⟩) (kk ⟨0,false⟩)) (kk ⟨0,false⟩))
def ea5(x:ea3):ea4:=K8 (λr=>r) x
def sa5(x:ea3)(r:ea4):DT (c7×List c8):=(.ite (Nat.beq r.alt 1) (.ret (b r.bs0,[])) .fail)
theorem Kb5{α β:Type}(F:α->β)(kk:ea4->α)(x:ea3):F (K8 kk x)=K8 (λr=>F (kk r)) x:=by unfold K8;(repeat' apply j6 (f:=F))<;>rfl
def Sa7:Sum:=Ma9 ⟨[sLq tI,.s (.o (.fn 37))],[],λa H=>(⟨aLq tI a 0⟩,())⟩ (λx=>sa5 x (ea5 x))
theorem Eb1:g9 prog G 38 Sa7:=F6 (enc:=λx=>⟨[eL tI x.Zb9,.fn 37 []],[]⟩) (λa H=>by kernel_rfl) (bd b38 zb8) λx=>B7 (Eq.trans (b:=K8 (λr=>(sa5 x r).run) x) (by kernel_rfl) (Kb5 (λr=>(sa5 x r).run) (λr=>r) x).symm)
def tc9:List (Nat×Sum):=[(38,Sa7),(39,Ra5),(27,sb8)]
theorem nd4:i9 prog G tc9:=⟨Eb1,Va6,Kb3,trivial⟩
structure La3 where
 ee6:LPq
 Uf9:Int
 I7:ByteArray
 n5:LPq
 w6:List Int
structure Y9 where
 Dc5:Int
def Yb9(p:La3)(s:Y9):St:=⟨.unk::.ptr 0 0 0 0::ra 28 (eL tLq p.ee6::i p.Uf9::i s.Dc5::ra 17 []),[⟨0,3,[[.v (.string p.I7),eL tLq p.n5,eL tI p.w6]],true,false,0⟩]⟩
def za1{α:Type}(k:Y9->α)(e:Nat->α)(z:α)(p:La3)(s:Y9):α:=let y1:=(s.Dc5.toNat-0);let y0:=(gL tLq p.ee6 s.Dc5.toNat);let t1:=(ya5 (rt tP y0));let t2:=(P7 (rt tP y0) (lsL tLq y1 (λk=>(λk=>(tLq).row (gL tLq p.n5 k)) (0+k))));(sl (decide (s.Dc5<p.Uf9)) (sl (inB s.Dc5 (List.length p.ee6)) (sl (okE tP y0) (sl (ya6 (rt tP y0)) (sl (!t1) (e 1) (sl (inB s.Dc5 ((List.length p.n5)+1)) (sl (okE tP y0) (sl (okL tLq y1 (λk=>(λk=>(tLq).row (gL tLq p.n5 k)) (0+k))) (sl (Ba3 (rt tP y0) (lsL tLq y1 (λk=>(λk=>(tLq).row (gL tLq p.n5 k)) (0+k)))) (sl (!t2) (e 1) (k ⟨W (s.Dc5+1)⟩)) z) z) z) z)) z) z) z) (e 2))
def ta3(p:La3)(s:Y9):Stp Y9:=za1 .next .exit .fail p s
def zb9:Lo La3 Y9:=⟨En tc9,0,Xf2,[1,1,1,1,0,1,4,4],[1,30,31,32],.p,[⟨sUq::sPq 0::ru2 28 (sLq tLq::sIq::sIq::ru2 17 []),[⟨0,3,true,some [[.o .val,.c 1 (nL tLq),.c 1 (nL tI)]]⟩],λa H=>(⟨aLq tLq a 30,aIq a 31,oa2 (slT (rwT (elT H 0) 0) 0),hLq tLq H 0 0 1,hLq tI H 0 0 2⟩,⟨aIq a 32⟩)⟩],ta3,[(none,λp s=>⟨[i 13],[]⟩),(some 1,λp s=>upq (Yb9 p s) [(33,b (decide (s.Dc5<p.Uf9)))])],Yb9⟩
theorem cd5:zb9.Ok:=Lo.ok [] (by kernel_rfl) .nil rfl (.cons (λa H=>by kernel_rfl) .nil) λp s=>(.of @za1 (λF _ _ _ _ _=>by unfold za1;(repeat' apply j6 (f:=F))<;>rfl) (by kernel_rfl))
def bb5(x:Prt):ROq:=let y0:=(↑(List.length x.cl):Int);let t1:=(ea5 ⟨rt tI x.wt⟩);let t2:=(lp (ta3 (⟨rt tLq x.cl,y0,x.nm,rt tLq x.cl,rt tI x.wt⟩:La3)) (⟨0⟩:Y9));(sl (y0==0) (some (i 2,[])) (sl (decide (y0>16)) (some (i 2,[])) (sl ((↑(List.length x.wt):Int) != y0) (some (i 1,[])) (sl ((cnE tI x.wt)&&true) (sl (Nat.beq t1.alt 1) (sl t1.bs0 (some (i 1,[])) (sl ((cnE tLq x.cl)&&((cnE tLq x.cl)&&((cnE tI x.wt)&&true))) (sl (Nat.beq t2.1 1) (some (i 13,[])) (sl (Nat.beq t2.1 2) (some (i 0,[])) none)) none)) none) none))))
def Ba5(x:Prt):Int:=ba8 (one r1I) (bb5 x)
def Ba6(x:Prt):Bool:=okO (one r1I) (bb5 x)
def Ub9:Sum:=ga4 cJ (λx=>.guard (Ba6 x) (.ret ((one r1I).enc (Ba5 x),[])))
theorem uc0:g9 prog G 12 Ub9:=db8 (bd b12 nd4) (one r1I) (o:=bb5) λx=>Ia8 (.s .p (.s .p (.s .p (.s .p (.s (.s .p (.b (.u zb9.ls))) .p))))) [zb9.pr] (by kernel_rfl) (.cons cd5 .nil) (by kernel_rfl)
def be9:List (Nat×Sum):=[]
theorem Jd3:i9 prog G be9:=trivial
def vb8(x:Prt):ROq:=let y0:=(↑(List.length x.cl):Int);let y2:=(List.replicate y0.toNat [b false]);let y1:=(inB y0 (room+1)&&inB y0 (room+1)&&Nat.ble y0.toNat y0.toNat&&Nat.ble (y0.toNat*1) room);(sl y1 (sl y1 (some ((.agg [(.tree 1 y0.toNat (λi=>d9 y2 (0+i))),(.tree 1 y0.toNat (λi=>d9 y2 (0+i))),.v (.slice none 0 0)]),[])) none) none)
def fb5(x:Prt):Pce:=ba8 (one r1O) (vb8 x)
def Sa8(x:Prt):Bool:=okO (one r1O) (vb8 x)
def uc1:Sum:=ga4 cJ (λx=>.guard (Sa8 x) (.ret ((one r1O).enc (fb5 x),[])))
theorem Tc6:g9 prog G 15 uc1:=db8 (bd b15 Jd3) (one r1O) (o:=vb8) λx=>B7 (by kernel_rfl)
def Zb0:List (Nat×Sum):=[(73,jb9)]
theorem Tc7:i9 prog G Zb0:=⟨sb2,trivial⟩
structure za2 where
 rb3:LPq
 is7:Int
structure R7 where
 is8:Int
def Kb6(p:za2)(s:R7):St:=⟨ra 6 (eL tLq p.rb3::i p.is7::i s.is8::ra 9 []),[]⟩
def pa8{α:Type}(k:R7->α)(e:Nat->α)(z:α)(p:za2)(s:R7):α:=let y0:=(gL tLq p.rb3 s.is8.toNat);let t1:=(da2 (rt tP y0));(sl (decide (s.is8<p.is7)) (sl (inB s.is8 (List.length p.rb3)) (sl (okE tP y0) (sl (Ga5 (rt tP y0)) (sl (t1 != 0) (e 1) (k ⟨W (s.is8+1)⟩)) z) z) z) (e 2))
def ua8(p:za2)(s:R7):Stp R7:=pa8 .next .exit .fail p s
def lb5:Lo za2 R7:=⟨En Zb0,0,Xf6,[1,0,1,4,4],[6,7,8],.p,[⟨ru2 6 (sLq tLq::sIq::sIq::ru2 9 []),[],λa H=>(⟨aLq tLq a 6,aIq a 7⟩,⟨aIq a 8⟩)⟩],ua8,[(none,λp s=>let t1:=(da2 (rt tP (gL tLq p.rb3 s.is8.toNat)));⟨[i t1],[]⟩),(some 0,λp s=>upq (Kb6 p s) [(9,b (decide (s.is8<p.is7)))])],Kb6⟩
theorem Kc8:lb5.Ok:=Lo.ok [] (by kernel_rfl) .nil rfl (.cons (λa H=>by kernel_rfl) .nil) λp s=>(.of @pa8 (λF _ _ _ _ _=>by unfold pa8;(repeat' apply j6 (f:=F))<;>rfl) (by kernel_rfl))
def La4(x:LPq):ROq:=let t1:=(lp (ua8 (⟨rt tLq x,(↑(List.length x):Int)⟩:za2)) (⟨0⟩:R7));let t2:=(da2 (rt tP (gL tLq (rt tLq x) t1.2.is8.toNat)));(sl ((cnE tLq x)&&true) (sl (Nat.beq t1.1 1) (some (i t2,[])) (sl (Nat.beq t1.1 2) (some (i 0,[])) none)) none)
def pa1(x:LPq):Int:=ba8 (one r1I) (La4 x)
def pa2(x:LPq):Bool:=okO (one r1I) (La4 x)
def Ab0:Sum:=ga4 (ta2 tLq) (λx=>.guard (pa2 x) (.ret ((one r1I).enc (pa1 x),[])))
theorem Zb1:g9 prog G 45 Ab0:=db8 (bd b45 Tc7) (one r1I) (o:=La4) λx=>Ia8 (.s .p (.s (.s .p (.b (.u lb5.ls))) .p)) [lb5.pr] (by kernel_rfl) (.cons Kc8 .nil) (by kernel_rfl)
def nd5:List (Nat×Sum):=[(12,Ub9),(45,Ab0)]
theorem cd6:i9 prog G nd5:=⟨uc0,Zb1,trivial⟩
def Sa9(x:Prt)(y:Pce):ROq:=let y0:=(⟨x.nm,rt tLq x.cl,rt tI x.wt⟩:Prt);let t1:=(Ba5 y0);let t2:=(pa1 (rt tLq y.cu));(sl ((okE tLq x.cl)&&((okE tI x.wt)&&true)) (sl (Ba6 y0) (sl (t1 != 0) (some (i t1,[])) (sl ((↑(List.length y.su):Int) != (↑(List.length x.cl):Int)) (some (i 4,[])) (sl ((↑(List.length y.to):Int) != (↑(List.length x.cl):Int)) (some (i 4,[])) (sl (decide ((↑(List.length y.cu):Int)>24)) (some (i 4,[])) (sl (okE tLq y.cu) (sl (pa2 (rt tLq y.cu)) (sl (t2 != 0) (some (i 4,[])) (some (i 0,[]))) none) none))))) none) none)
def Ea8(x:Prt)(y:Pce):Int:=ba8 (one r1I) (Sa9 x y)
def Ea9(x:Prt)(y:Pce):Bool:=okO (one r1I) (Sa9 x y)
def lb6:Sum:=Aa5 cJ cO (λx y=>.guard (Ea9 x y) (.ret ((one r1I).enc (Ea8 x y),[])))
theorem Ab1:g9 prog G 44 lb6:=Sb2 (bd b44 cd6) (one r1I) (o:=Sa9) λx y=>B7 (by kernel_rfl)
structure Af8 where
 g7:PLq
 Rb2:List Pt
 is5:Int
 gb1:PLq
structure Af9 where
 ph:Nat
 (is6 is7:Int)
structure Bf0 where
structure Bf1 where
 ph:Nat
 g7:PLq
 Rb2:List Pt
 is5:Int
 gb1:PLq
def id7(l:PLq):Prop:=l.Pairwise LtP
theorem cd7{x y z:Pln}(h1:LtP x y)(h2:LtP y z):LtP x z:=by unfold LtP at *;omega
theorem ce0(x:Pln):¬ LtP x x:=by unfold LtP;omega
theorem Le3(x y:Pln):LtP x y\/x=y\/LtP y x:=by
 by_cases h1:LtP x y
 ·exact .inl h1
 ·by_cases h2:LtP y x
  ·exact .inr (.inr h2)
  ·refine .inr (.inl ?_);unfold LtP at h1 h2;have e1:x.n.x=y.n.x:=by omega
   have e2:x.n.y=y.n.y:=by omega
   have e3:x.n.z=y.n.z:=by omega
   have e4:x.b=y.b:=by omega
   cases x with | mk n b=>cases y with | mk m c=>cases n;cases m;simp_all
theorem Rd0:∀{l r:PLq},id7 l->id7 r->(∀p,p∈l↔p∈r)->l=r
 |[],[],_,_,_=>rfl
 |[],b::r,_,_,h=>by have:=(h b).2 Qjh;cases this
 |a::l,[],_,_,h=>by have:=(h a).1 Qjh;cases this
 |a::l,b::r,hl,hr,h=>by
  obtain⟨hl1,hl2⟩:=Qjk.1 hl;obtain⟨hr1,hr2⟩:=Qjk.1 hr;have hab:a=b:=by
   rcases Qja.1 ((h a).1 Qjh) with e|h1
   ·exact e
   ·rcases Qja.1 ((h b).2 Qjh) with e|h2
    ·exact e.symm
    ·exact absurd (cd7 (hr1 a h1) (hl1 b h2)) (ce0 b)
  subst hab;rw[Rd0 hl2 hr2 λp=>?_]
  constructor
  ·intro hp
   rcases Qja.1 ((h p).1 (Qjf _ hp)) with e|h1
   ·subst e;exact absurd (hl1 p hp) (ce0 p)
   ·exact h1
  ·intro hp
   rcases Qja.1 ((h p).2 (Qjf _ hp)) with e|h1
   ·subst e;exact absurd (hr1 p hp) (ce0 p)
   ·exact h1
def Jd4:PLq->Pln->PLq
 |[],y=>[y]
 |a::l,y=>if Nb2 a y<0 then a::Jd4 l y else if eqP a y then a::l else y::a::l
theorem Bd7(y p:Pln):∀x,p∈Jd4 x y↔p=y\/p∈x
 |[]=>by simp[Jd4]
 |a::l=>by
  unfold Jd4;have ih:=Bd7 y p l;split
  ·simp only[Qja,ih];constructor
   ·rintro (h|h|h)
    ·exact .inr (.inl h)
    ·exact .inl h
    ·exact .inr (.inr h)
   ·rintro (h|h|h)
    ·exact .inr (.inl h)
    ·exact .inl h
    ·exact .inr (.inr h)
  ·split
   ·rename_i h;rw[Qb5] at h;subst h;simp only[Qja];constructor
    ·exact λh=>.inr h
    ·rintro (h|h)
     ·exact .inl h
     ·exact h
   ·simp only[Qja]
theorem re4(y:Pln):∀{x},id7 x->id7 (Jd4 x y)
 |[],_=>Qjr _ _
 |a::l,h=>by
  obtain⟨h1,h2⟩:=Qjk.1 h;unfold Jd4;split
  ·rename_i hc;rw[Zd6] at hc;refine Qjk.2 ⟨λp hp=>?_,re4 y h2⟩
   rcases (Bd7 y p l).1 hp with e|hp
   ·subst e;exact hc
   ·exact h1 p hp
  ·rename_i hc;rw[Zd6] at hc;split
   ·exact h
   ·rename_i hne;have hlt:LtP y a:=by
     rcases Le3 y a with h|h|h
     ·exact h
     ·exact absurd ((Qb5 _ _).2 h.symm) hne
     ·exact absurd h hc
    refine Qjk.2 ⟨λp hp=>?_,h⟩
    rcases Qja.1 hp with e|hp
    ·subst e;exact hlt
    ·exact cd7 hlt (h1 p hp)
end Go.Ev.Ce
namespace Go.Ev.Ce
def rmZ(p:Pln)(x:Pt):Int:=p.b*x.pw-(p.n.x*x.px+p.n.y*x.py+p.n.z*x.pz)
structure Inr(r:List Pln)(x:Pt):Prop where
 w:0<x.pw
 h:∀p∈r,0<=rmZ p x
def V0(p:Pln):Pln:=⟨⟨-p.n.x,-p.n.y,-p.n.z⟩,-p.b⟩
theorem za3(p:Pln)(x:Pt):rmZ (V0 p) x=-rmZ p x:=by unfold rmZ V0;grind
structure Cn(r:List Pln)(x:Pt):Prop extends Inr r x where
 c:∃p q s,p∈r/\q∈r/\s∈r/\mw p q s≠0/\rmZ p x=0/\rmZ q x=0/\rmZ s x=0
def Bdd(r:List Pln):Prop:=∀d:V3,d≠⟨0,0,0⟩->∃p∈r,0<dot p.n d
def go(x:Pt)(q:Pln)(d:V3):Pt:=⟨x.px*dot q.n d+rmZ q x*d.x,x.py*dot q.n d+rmZ q x*d.y,x.pz*dot q.n d+rmZ q x*d.z,x.pw*dot q.n d⟩
theorem re5(p q:Pln)(x:Pt)(d:V3):rmZ p (go x q d)=dot q.n d*rmZ p x-rmZ q x*dot p.n d:=by simp only[rmZ,go,dot];grind
theorem sb9{a b c:Int}(hc:0<c)(h:a*c<=b*c):a<=b:=Int.le_of_mul_le_mul_right h hc
theorem first(x:Pt)(d:V3):∀r:List Pln,(∀p∈r,0<=rmZ p x)->(∃p∈r,0<dot p.n d)->∃q∈r,0<dot q.n d/\∀p∈r,0<dot p.n d->rmZ q x*dot p.n d<=rmZ p x*dot q.n d
 |[],_,h=>by obtain⟨p,hp,_⟩:=h;cases hp
 |a::r,hx,h=>by
  by_cases hr:∃p∈r,0<dot p.n d
  ·obtain⟨q,hq,h1,h2⟩:=first x d r (λp hp=>hx p (Qjf _ hp)) hr
   by_cases ha:0<dot a.n d
   ·by_cases hc:rmZ q x*dot a.n d<=rmZ a x*dot q.n d
    ·refine⟨q,Qjf _ hq,h1,λp hp h3=>?_⟩
     rcases Qja.1 hp with rfl|hp
     ·exact hc
     ·exact h2 p hp h3
    ·refine⟨a,Qjh,ha,λp hp h3=>?_⟩
     rcases Qja.1 hp with rfl|hp
     ·exact Qjai _
     ·have h4:=h2 p hp h3;have h5:rmZ a x*dot q.n d<rmZ q x*dot a.n d:=by omega
      have h6:=Qjt h4 (Qjg ha);have h7:=Int.mul_lt_mul_of_pos_right h5 h3;have e1:rmZ q x*dot p.n d*dot a.n d=rmZ q x*dot a.n d*dot p.n d:=by grind
      have e2:rmZ a x*dot q.n d*dot p.n d=rmZ a x*dot p.n d*dot q.n d:=by grind
      have e3:rmZ p x*dot q.n d*dot a.n d=rmZ p x*dot a.n d*dot q.n d:=by grind
      refine sb9 h1 ?_;omega
   ·refine⟨q,Qjf _ hq,h1,λp hp h3=>?_⟩
    rcases Qja.1 hp with rfl|hp
    ·exact absurd h3 ha
    ·exact h2 p hp h3
  ·have ha : 0 < dot a.n d := by
    obtain⟨p,hp,h3⟩:=h
    rcases Qja.1 hp with rfl|hp
    ·exact h3
    ·exact absurd ⟨p,hp,h3⟩ hr
   refine⟨a,Qjh,ha,λp hp h3=>?_⟩
   rcases Qja.1 hp with rfl|hp
   ·exact Qjai _
   ·exact absurd ⟨p,hp,h3⟩ hr
theorem step{r:List Pln}{x:Pt}(hx:Inr r x)(d:V3)(h:∃p∈r,0<dot p.n d):∃q∈r,0<dot q.n d/\Inr r (go x q d):=by
 obtain⟨q,hq,h1,h2⟩:=first x d r hx.h h;refine⟨q,hq,h1,⟨Qjm hx.w h1,λp hp=>?_⟩⟩
 rw[re5];have h3:=hx.h p hp;have h4:=hx.h q hq;by_cases h5:0<dot p.n d
 ·have:=h2 p hp h5
  have e:rmZ p x*dot q.n d=dot q.n d*rmZ p x:=Int.mul_comm _ _;omega
 ·have h6:=Qjj (Qjg h1) h3;have h7:rmZ q x*dot p.n d<=0:=Int.mul_nonpos_of_nonneg_of_nonpos h4 (by omega)
  omega
theorem kf5{h q:Pln}{x:Pt}{d:V3}(h1:0<=rmZ q x)(h2:0<=dot h.n d):rmZ h (go x q d)*x.pw<=rmZ h x*(go x q d).pw\/x.pw<=0:=by
 rcases Int.lt_or_le 0 x.pw with hw|hw
 ·left;rw[re5]
  have:=Qjj h1 h2
  have h3:=Qjj this (Qjg hw);have e:rmZ h x*(go x q d).pw=dot q.n d*rmZ h x*x.pw:=by unfold go;grind
  have e2:(dot q.n d*rmZ h x-rmZ q x*dot h.n d)*x.pw=dot q.n d*rmZ h x*x.pw-rmZ q x*dot h.n d*x.pw:=by grind
  omega
 ·exact .inr hw
def neg(d:V3):V3:=⟨-d.x,-d.y,-d.z⟩
theorem Le4(a d:V3):dot a (neg d)=-dot a d:=by unfold dot neg;grind
theorem Sf0{d:V3}(h:d≠⟨0,0,0⟩):neg d≠⟨0,0,0⟩:=λh'=>h (by
 cases d;unfold neg at h';simp only[V3.mk.injEq] at h' ⊢;omega)
theorem turn(h:Pln){d:V3}(hd:d≠⟨0,0,0⟩):∃e,e≠(⟨0,0,0⟩:V3)/\0<=dot h.n e/\∀a,dot a d=0->dot a e=0:=by
 by_cases h1:0<=dot h.n d
 ·exact⟨d,hd,h1,λ_ h=>h⟩
 ·exact⟨neg d,Sf0 hd,by rw[Le4];omega,λa h=>by rw[Le4,h];rfl⟩
theorem Sf1{n:V3}(hn:n≠⟨0,0,0⟩):∃d,d≠(⟨0,0,0⟩:V3)/\dot n d=0:=by
 by_cases h:n.x=0/\n.y=0
 ·exact⟨⟨1,0,0⟩,by simp,by unfold dot;simp[h.1]⟩
 ·refine⟨⟨n.y,-n.x,0⟩,λh'=>h ?_,by unfold dot;grind⟩
  simp only[V3.mk.injEq] at h';omega
theorem V3.ext'{a b:V3}(h1:a.x=b.x)(h2:a.y=b.y)(h3:a.z=b.z):a=b:=by cases a;cases b;simp_all
theorem re6{m n d:V3}(hm:m≠⟨0,0,0⟩)(h1:dot m d=0)(h2:dot n d≠0):q7 m n≠⟨0,0,0⟩:=λh=>by
 unfold q7 at h;simp only[V3.mk.injEq] at h;obtain⟨c1,c2,c3⟩:=h;unfold dot at h1 h2;have e1:m.x*(n.x*d.x+n.y*d.y+n.z*d.z)=0:=by grind
 have e2:m.y*(n.x*d.x+n.y*d.y+n.z*d.z)=0:=by grind
 have e3:m.z*(n.x*d.x+n.y*d.y+n.z*d.z)=0:=by grind
 have k:∀{a:Int},a*(n.x*d.x+n.y*d.y+n.z*d.z)=0->a=0:=λh=>(Qjn.1 h).resolve_right h2
 exact hm (V3.ext' (k e1) (k e2) (k e3))
theorem id8(a b:V3):dot a (q7 a b)=0:=by unfold dot q7;grind
theorem id9(a b:V3):dot b (q7 a b)=0:=by unfold dot q7;grind
theorem kf6{p q:Pln}{x:Pt}{d:V3}(h:rmZ p x=0)(h':dot p.n d=0):rmZ p (go x q d)=0:=by rw[re5,h,h'];simp
theorem kf7(q:Pln)(x:Pt)(d:V3):rmZ q (go x q d)=0:=by rw[re5];grind
theorem cg5{q:Pln}{d:V3}(h:0<dot q.n d):q.n≠⟨0,0,0⟩:=λh'=>by rw[h'] at h;unfold dot at h;simp at h
theorem Jf6{a b c u v w:Int}(hu:0<u)(hv:0<v)(hw:0<w)(h1:a*v<=b*u)(h2:b*w<=c*v):a*w<=c*u:=by
 have h3:=Qjt h1 (Qjg hw);have h4:=Qjt h2 (Qjg hu);have e1:a*v*w=a*w*v:=by grind
 have e2:b*u*w=b*w*u:=by grind
 have e3:c*v*u=c*u*v:=by grind
 exact sb9 hv (by omega)
theorem kf8{r:List Pln}(hb:Bdd r)(h:Pln){x:Pt}(hx:Inr r x):∃v,Cn r v/\rmZ h v*x.pw<=rmZ h x*v.pw:=by
 obtain⟨d0,n0,p0,_⟩:=turn h (d:=⟨1,0,0⟩) (by simp)
 obtain⟨q1,m1,k1,i1⟩:=step hx d0 (hb d0 n0);have l1:=(kf5 (h:=h) (x:=x) (hx.h q1 m1) p0).resolve_right (by have:=hx.w;omega)
 obtain⟨e1,ne1,he1⟩:=Sf1 (cg5 k1);obtain⟨d1,n1,p1,z1⟩:=turn h ne1;obtain⟨q2,m2,k2,i2⟩:=step i1 d1 (hb d1 n1);have l2:=(kf5 (h:=h) (x:=go x q1 d0) (i1.h q2 m2) p1).resolve_right (by have:=i1.w;omega)
 have hc:=re6 (cg5 k1) (z1 _ he1) (n:=q2.n) (by omega)
 obtain⟨d2,n2,p2,z2⟩:=turn h hc;obtain⟨q3,m3,k3,i3⟩:=step i2 d2 (hb d2 n2);have l3:=(kf5 (h:=h) (x:=go (go x q1 d0) q2 d1) (i2.h q3 m3) p2).resolve_right (by have:=i2.w;omega)
 have a1:rmZ q1 (go (go x q1 d0) q2 d1)=0:=kf6 (kf7 _ _ _) (z1 _ he1);refine⟨_,⟨i3,q3,q1,q2,m3,m1,m2,λh0=>?_,kf7 _ _ _,kf6 a1 (z2 _ (id8 _ _)),kf6 (kf7 _ _ _) (z2 _ (id9 _ _))⟩,?_⟩
 ·have:dot q3.n d2=0:=z2 _ h0
  omega
 ·exact Jf6 i3.w i2.w hx.w l3 (Jf6 i2.w i1.w hx.w l2 l1)
theorem Ab2{r:List Pln}(hb:Bdd r){h:Pln}(hv:∀v,Cn r v->0<=rmZ h v){x:Pt}(hx:Inr r x):0<=rmZ h x:=by
 obtain⟨v,h1,h2⟩:=kf8 hb h hx;have h3:=Qjj (hv v h1) (Qjg hx.w);exact sb9 h1.w (by rw[Qjz];omega)
def mid(x y:Pt):Pt:=⟨x.px*y.pw+y.px*x.pw,x.py*y.pw+y.py*x.pw,x.pz*y.pw+y.pz*x.pw,2*(x.pw*y.pw)⟩
theorem kf9(p:Pln)(x y:Pt):rmZ p (mid x y)=rmZ p x*y.pw+rmZ p y*x.pw:=by unfold rmZ mid;grind
theorem Inr.mid{r:List Pln}{x y:Pt}(hx:Inr r x)(hy:Inr r y):Inr r (mid x y):=⟨by unfold Ce.mid;exact Qjm (by decide) (Qjm hx.w hy.w),λp hp=>by
 rw[kf9];exact Int.add_nonneg (Qjj (hx.h p hp) (Qjg hy.w)) (Qjj (hy.h p hp) (Qjg hx.w))⟩
def re7(r:List Pln):Prop:=∃x:Pt,0<x.pw/\∀p∈r,0<rmZ p x
theorem Le5{r:List Pln}:∀(l:List Pln),(∀p∈l,p∈r)->(∃x,Inr r x)->(∀p∈l,∃v,Inr r v/\0<rmZ p v)->∃x,Inr r x/\∀p∈l,0<rmZ p x
 |[],_,h,_=>by obtain⟨x,h⟩:=h;exact⟨x,h,λp hp=>by cases hp⟩
 |a::l,hl,h,hv=>by
  obtain⟨x,h1,h2⟩:=Le5 l (λp hp=>hl p (Qjf _ hp)) h (λp hp=>hv p (Qjf _ hp))
  obtain⟨y,h3,h4⟩:=hv a Qjh;refine⟨mid x y,h1.mid h3,λp hp=>?_⟩
  rw[kf9]
  rcases Qja.1 hp with rfl|hp
  ·have:=Qjj (h1.h p (hl p Qjh)) (Qjg h3.w)
   have:=Qjm h4 h1.w
   omega
  ·have:=Qjm (h2 p hp) h3.w
   have:=Qjj (h3.h p (hl p (Qjf _ hp))) (Qjg h1.w)
   omega
theorem lf0{r:List Pln}(hb:Bdd r)(h0:r≠[]):re7 r↔∀p∈r,∃v,Cn r v/\0<rmZ p v:=by
 constructor
 ·intro ⟨x,hw,hx⟩ p hp;by_cases h:∃v,Cn r v/\0<rmZ p v
  ·exact h
  ·have hx':Inr r x:=⟨hw,λq hq=>Qjg (hx q hq)⟩
   have:=Ab2 hb (h:=V0 p) (λv hv=>by
    rw[za3]
    have:¬ 0<rmZ p v:=λh'=>h ⟨v,hv,h'⟩
    omega) hx'
   rw[za3] at this
   have:=hx p hp
   omega
 ·intro h;obtain⟨p,hp⟩:=List.exists_mem_of_ne_nil r h0;obtain⟨v,hv,_⟩:=h p hp;obtain⟨x,h1,h2⟩:=Le5 r (λ_ h=>h) ⟨v,hv.toInr⟩ λp hp=>by
   obtain⟨v,hv,h⟩:=h p hp;exact⟨v,hv.toInr,h⟩
  exact⟨x,h1.w,h2⟩
structure Eqv(x v:Pt):Prop where
 e1:x.px*v.pw=v.px*x.pw
 e2:x.py*v.pw=v.py*x.pw
 e3:x.pz*v.pw=v.pz*x.pw
theorem Eqv.rm{x v:Pt}(h:Eqv x v)(p:Pln):rmZ p x*v.pw=rmZ p v*x.pw:=by
 obtain⟨e1,e2,e3⟩:=h;unfold rmZ
 grind
theorem Eqv.inr{r:List Pln}{x v:Pt}(h:Eqv x v)(hw:0<x.pw)(hv:Inr r v):Inr r x:=⟨hw,λp hp=>by
 have:=h.rm p
 have h2:=Qjj (hv.h p hp) (Qjg hw);exact sb9 hv.w (by rw[Qjz];omega)⟩
end Go.Ev.Ce
namespace Go.Ev.Ce
open Go Go.Ev Go.Ev.L Go.Proofs
theorem Ve1{p:Pln}{x:Pt}(hp:Bd p)(hx:Okx x):rm p x=rmZ p x:=by
 unfold rm rmZ;obtain⟨w1,w2,⟨a1,a2⟩,⟨a3,a4⟩,a5,a6⟩:=hx;have h0:=mb hp.b1 hp.b2 (show -600000000000<=x.pw by omega) w2
 have h1:=mb hp.x1 hp.x2 a1 a2;have h2:=mb hp.y1 hp.y2 a3 a4;have h3:=mb hp.z1 hp.z2 a5 a6;exact Ka7 (by omega) (by omega)
theorem Le6{r:PLq}(hb:Bds r){x:Pt}(hx:Okx x):inn r x=true↔Inr r x:=by
 unfold inn;rw[Qju];constructor
 ·intro h;refine⟨hx.w1,λp hp=>?_⟩
  have:=h p hp
  rw[Ve1 (hb p hp) hx] at this;simpa using this
 ·intro h p hp;rw[Ve1 (hb p hp) hx];simpa using h.h p hp
theorem Jf7{p q s:Pln}(h:(mpt p q s).2=true):mw p q s≠0/\∃k:Int,k≠0/\k*(mpt p q s).1.px=(mv p q s).x/\k*(mpt p q s).1.py=(mv p q s).y/\k*(mpt p q s).1.pz=(mv p q s).z/\k*(mpt p q s).1.pw=mw p q s:=by
 unfold mpt at h ⊢;by_cases h0:mw p q s=0
 ·rw[if_pos h0] at h;cases h
 refine⟨h0,?_⟩;have hg:=zd9 (v:=mv p q s) h0;have dv:∀{x:Int},(gc (mv p q s) (mw p q s))∣x->gc (mv p q s) (mw p q s)*Int.tdiv x (gc (mv p q s) (mw p q s))=x:=λh=>Int.mul_tdiv_cancel' h
 have d1:gc (mv p q s) (mw p q s)∣(mv p q s).x:=by
  rw[<- Qjab];exact Qjs.2 (Qjac (Qjw _ _) (Qjw _ _))
 have d2:gc (mv p q s) (mw p q s)∣(mv p q s).y:=by
  rw[<- Qjab];exact Qjs.2 (Qjac (Qjw _ _) (Qjv _ _))
 have d3:gc (mv p q s) (mw p q s)∣(mv p q s).z:=by
  rw[<- Qjab];exact Qjs.2 (Qjac (Qjv _ _) (Qjw _ _))
 have d4:gc (mv p q s) (mw p q s)∣mw p q s:=by
  rw[<- Qjab];exact Qjs.2 (Qjac (Qjv _ _) (Qjv _ _))
 rw[if_neg h0];by_cases h1:mw p q s<0
 ·rw[if_pos h1];have e:∀{x:Int},(gc (mv p q s) (mw p q s))∣x->-(gc (mv p q s) (mw p q s))*Int.tdiv (-x) (gc (mv p q s) (mw p q s))=x:=λ{x} h=>by
   rw[Int.neg_mul,dv ((Int.dvd_neg).2 h),Int.neg_neg]
  exact⟨-(gc (mv p q s) (mw p q s)),by omega,e d1,e d2,e d3,e d4⟩
 ·rw[if_neg h1];exact⟨gc (mv p q s) (mw p q s),by omega,dv d1,dv d2,dv d3,dv d4⟩
theorem lf1{p q s:Pln}(h:(mpt p q s).2=true):rmZ p (mpt p q s).1=0/\rmZ q (mpt p q s).1=0/\rmZ s (mpt p q s).1=0:=by
 obtain⟨_,k,hk,e1,e2,e3,e4⟩:=Jf7 h;generalize (mpt p q s).1=x at *
 have f:∀a:Pln,a.b*mw p q s-(a.n.x*(mv p q s).x+a.n.y*(mv p q s).y+a.n.z*(mv p q s).z)=0->rmZ a x=0:=λa ha=>by
  rw[<- e1,<- e2,<- e3,<- e4] at ha
  have:k*rmZ a x=0:=by rw[<- ha];unfold rmZ;grind
  exact (Qjn.1 this).resolve_left hk
 refine⟨f p ?_,f q ?_,f s ?_⟩<;>(simp only[mw,mv,dot,q7];grind)
theorem Bf2{p q s:Pln}(h:mw p q s≠0):(mpt p q s).2=true:=by
 unfold mpt;rw[if_neg h]
 split<;>rfl
theorem lf2{p q s:Pln}{x:Pt}(h1:rmZ p x=0)(h2:rmZ q x=0)(h3:rmZ s x=0):mw p q s*x.px=(mv p q s).x*x.pw/\mw p q s*x.py=(mv p q s).y*x.pw/\mw p q s*x.pz=(mv p q s).z*x.pw:=by
 have i1:(mv p q s).x*x.pw-mw p q s*x.px=(q7 q.n s.n).x*rmZ p x+(q7 s.n p.n).x*rmZ q x+(q7 p.n q.n).x*rmZ s x:=by simp only[mw,mv,dot,q7,rmZ];grind
 have i2:(mv p q s).y*x.pw-mw p q s*x.py=(q7 q.n s.n).y*rmZ p x+(q7 s.n p.n).y*rmZ q x+(q7 p.n q.n).y*rmZ s x:=by simp only[mw,mv,dot,q7,rmZ];grind
 have i3:(mv p q s).z*x.pw-mw p q s*x.pz=(q7 q.n s.n).z*rmZ p x+(q7 s.n p.n).z*rmZ q x+(q7 p.n q.n).z*rmZ s x:=by simp only[mw,mv,dot,q7,rmZ];grind
 rw[h1,h2,h3] at i1 i2 i3;simp only[Int.mul_zero,Int.add_zero] at i1 i2 i3;omega
theorem Sf2{p q s:Pln}{x v:Pt}(h:mw p q s≠0)(h1:rmZ p x=0)(h2:rmZ q x=0)(h3:rmZ s x=0)(k1:rmZ p v=0)(k2:rmZ q v=0)(k3:rmZ s v=0):Eqv x v:=by
 obtain⟨a1,a2,a3⟩:=lf2 h1 h2 h3;obtain⟨c1,c2,c3⟩:=lf2 k1 k2 k3;have f:∀{a c m:Int},mw p q s*a=m*x.pw->mw p q s*c=m*v.pw->a*v.pw=c*x.pw:=λ{a c m} ha hc=>by
  have:mw p q s*(a*v.pw-c*x.pw)=0:=by grind
  have:=(Qjn.1 this).resolve_left h
  omega
 exact⟨f a1 c1,f a2 c2,f a3 c3⟩
theorem Ve2{r:PLq}{p q:Pln}{out:List Pt}{s:Pln}{x:Pt}(h:x∈out):x∈Sa0 r p q out s:=by
 unfold Sa0;split
 ·exact Qjc _ h
 ·exact h
theorem Bd8{r:PLq}{p q:Pln}{x:Pt}:∀{l:PLq} {out:List Pt},x∈out->x∈zb2 r p q l out
 |[],_,h=>h
 |s::l,out,h=>Bd8 (l:=l) (out:=Sa0 r p q out s) (Ve2 h)
theorem Tc8{r:PLq}{p:Pln}{x:Pt}:∀{l:PLq} {out:List Pt},x∈out->x∈kb8 r p l out
 |[],_,h=>h
 |_::l,_,h=>Tc8 (l:=l) (Bd8 h)
theorem re8{r:PLq}{x:Pt}:∀{l:PLq} {out:List Pt},x∈out->x∈Sc4 r l out
 |[],_,h=>h
 |_::l,_,h=>re8 (l:=l) (Tc8 h)
theorem Ve3{r:PLq}{p q:Pln}{out:List Pt}{s:Pln}(h1:(mpt p q s).2=true)(h2:inn r (mpt p q s).1=true):(mpt p q s).1∈Sa0 r p q out s:=by
 unfold Sa0;rw[h1,h2];cases h:tc1 out (mpt p q s).1 with
 |true=>simpa using (if0 _ _).1 h
 |false=>simp
theorem Bd9{r:PLq}{p q s:Pln}(h1:(mpt p q s).2=true)(h2:inn r (mpt p q s).1=true):∀{l:PLq} {out:List Pt},s∈l->(mpt p q s).1∈zb2 r p q l out
 |[],_,h=>by cases h
 |t::l,out,h=>by
  show _∈zb2 r p q l (Sa0 r p q out t)
  rcases Qja.1 h with rfl|h
  ·exact Bd8 (Ve3 h1 h2)
  ·exact Bd9 h1 h2 h
structure Hit(r:PLq)(Q:Pt->Prop)(p q s:Pln):Prop where
 h1:(mpt p q s).2=true
 h2:inn r (mpt p q s).1=true
 h3:Q (mpt p q s).1
theorem re9{r:PLq}{Q:Pt->Prop}{p q s:Pln}(hq:Hit r Q p q s)(hs:Hit r Q p s q)(hne:q≠s):∀{l:PLq} {out:List Pt},q∈l->s∈l->∃x∈kb8 r p l out,Q x
 |[],_,h,_=>by cases h
 |t::l,out,hql,hsl=>by
  show ∃x∈kb8 r p l (zb2 r p t l out),Q x
  rcases Qja.1 hql with rfl|h1
  ·have h2:=(Qja.1 hsl).resolve_left λh=>hne h.symm
   exact⟨_,Tc8 (Bd9 hq.h1 hq.h2 h2),hq.h3⟩
  ·rcases Qja.1 hsl with rfl|h2
   ·exact⟨_,Tc8 (Bd9 hs.h1 hs.h2 h1),hs.h3⟩
   ·exact re9 hq hs hne (l:=l) h1 h2
theorem se0{r:PLq}{Q:Pt->Prop}{p q s:Pln}(H:∀a c d,(a=p\/a=q\/a=s)->(c=p\/c=q\/c=s)->(d=p\/d=q\/d=s)->a≠c->c≠d->a≠d->Hit r Q a c d)(h1:p≠q)(h2:q≠s)(h3:p≠s) :
  ∀{l:PLq} {out:List Pt},p∈l->q∈l->s∈l->∃x∈Sc4 r l out,Q x
 |[],_,h,_,_=>by cases h
 |t::l,out,hp,hq,hs=>by
  have fin:∀{a c d:Pln} {out:List Pt},(a=p\/a=q\/a=s)->(c=p\/c=q\/c=s)->(d=p\/d=q\/d=s)->a≠c->c≠d->a≠d->c∈l->d∈l->∃x∈Sc4 r l (kb8 r a l out),Q x:=λha hc hd n1 n2 n3 m1 m2=>by
   obtain⟨x,hx,hQ⟩:=re9 (H _ _ _ ha hc hd n1 n2 n3) (H _ _ _ ha hd hc n3 n2.symm n1) n2 (out:=_) m1 m2;exact⟨x,re8 hx,hQ⟩
  show ∃x∈Sc4 r l (kb8 r t l out),Q x
  rcases Qja.1 hp with rfl|hp'
  ·exact fin (.inl rfl) (.inr (.inl rfl)) (.inr (.inr rfl)) h1 h2 h3 ((Qja.1 hq).resolve_left (Ne.symm h1)) ((Qja.1 hs).resolve_left (Ne.symm h3))
  ·rcases Qja.1 hq with rfl|hq'
   ·exact fin (.inr (.inl rfl)) (.inl rfl) (.inr (.inr rfl)) (Ne.symm h1) h3 h2 hp' ((Qja.1 hs).resolve_left (Ne.symm h2))
   ·rcases Qja.1 hs with rfl|hs'
    ·exact fin (.inr (.inr rfl)) (.inl rfl) (.inr (.inl rfl)) (Ne.symm h3) h1 (Ne.symm h2) hp' hq'
    ·exact se0 H h1 h2 h3 hp' hq' hs'
theorem cg6{p q s:Pln}(h:mw p q s≠0):p≠q/\q≠s/\p≠s:=by
 refine⟨λe=>h ?_,λe=>h ?_,λe=>h ?_⟩<;>(subst e;simp only[mw,dot,q7];grind)
theorem Sf3{r:PLq}(hb:Bds r):∀x∈cor r,Cn r x:=Ke5 λp hp q hq s hs h hi=>by
 obtain⟨w1,w2,w3,w4,w5⟩:=Ce9 (hb p hp) (hb q hq) (hb s hs) h;obtain⟨e1,e2,e3⟩:=lf1 h;exact⟨(Le6 hb ⟨w1,w5,w2,w3,w4⟩).1 hi,p,q,s,hp,hq,hs,(Jf7 h).1,e1,e2,e3⟩
theorem lf3{r:PLq}(hb:Bds r){v:Pt}(hv:Cn r v):∃x∈cor r,Eqv x v:=by
 obtain⟨p,q,s,hp,hq,hs,hw,e1,e2,e3⟩:=hv.c;obtain⟨n1,n2,n3⟩:=cg6 hw;refine se0 (λa c d ha hc hd m1 m2 m3=>?_) n1 n2 n3 hp hq hs
 have hm:∀{a},(a=p\/a=q\/a=s)->a∈r/\rmZ a v=0:=λh=>by
  rcases h with rfl|rfl|rfl
  ·exact⟨hp,e1⟩
  ·exact⟨hq,e2⟩
  ·exact⟨hs,e3⟩
 have hw':mw a c d≠0:=by
  have k:mw a c d=mw p q s\/mw a c d=-mw p q s:=by
   rcases ha with rfl|rfl|rfl<;>rcases hc with rfl|rfl|rfl<;>rcases hd with rfl|rfl|rfl<;>first|exact absurd rfl m1|exact absurd rfl m2|exact absurd rfl m3|exact .inl rfl|(left;simp only[mw,dot,q7];grind;done)|(right;simp only[mw,dot,q7];grind;done)
  rcases k with k|k<;>omega
 have h:=Bf2 hw';obtain⟨w1,w2,w3,w4,w5⟩:=Ce9 (hb a (hm ha).1) (hb c (hm hc).1) (hb d (hm hd).1) h;obtain⟨f1,f2,f3⟩:=lf1 h;have he:=Sf2 hw' f1 f2 f3 (hm ha).2 (hm hc).2 (hm hd).2;exact⟨h,(Le6 hb ⟨w1,w5,w2,w3,w4⟩).2 (he.inr w1 hv.toInr),he⟩
theorem cd8(c:PLq):Bdd (c++ws):=λd hd=>by
 have k:∀{n:V3} {m:Int},(⟨n,m⟩:Pln)∈ws->0<dot n d->∃p∈c++ws,0<dot p.n d:=λh h'=>⟨_,Qjd _ h,h'⟩
 by_cases h1:0<d.x
 ·exact k (n:=⟨1,0,0⟩) (m:=24) (by simp[ws]) (by unfold dot;simp;omega)
 by_cases h2:d.x<0
 ·exact k (n:=⟨-1,0,0⟩) (m:=24) (by simp[ws]) (by unfold dot;simp;omega)
 by_cases h3:0<d.y
 ·exact k (n:=⟨0,1,0⟩) (m:=24) (by simp[ws]) (by unfold dot;simp;omega)
 by_cases h4:d.y<0
 ·exact k (n:=⟨0,-1,0⟩) (m:=24) (by simp[ws]) (by unfold dot;simp;omega)
 by_cases h5:0<d.z
 ·exact k (n:=⟨0,0,1⟩) (m:=24) (by simp[ws]) (by unfold dot;simp;omega)
 by_cases h6:d.z<0
 ·exact k (n:=⟨0,0,-1⟩) (m:=24) (by simp[ws]) (by unfold dot;simp;omega)
 exact absurd (V3.ext' (by show d.x=0;omega) (by show d.y=0;omega) (by show d.z=0;omega)) hd
theorem Le7{r:PLq}(hb:Bds r){p:Pln}(hp:Bd p):pos (cor r) p=true↔∃v,Cn r v/\0<rmZ p v:=by
 unfold pos;rw[Qjx];constructor
 ·rintro⟨x,hx,h⟩;rw[Ve1 hp (Sc6 hb x hx)] at h;exact⟨x,Sf3 hb x hx,by simpa using h⟩
 ·rintro⟨v,hv,h⟩;obtain⟨x,hx,he⟩:=lf3 hb hv;refine⟨x,hx,?_⟩;rw[Ve1 hp (Sc6 hb x hx)];have h1:=he.rm p;have h2:=Qjm h (Sc6 hb x hx).w1
  have:0<rmZ p x:=Int.lt_of_mul_lt_mul_right (by rw[Qjz];omega:0*v.pw<rmZ p x*v.pw) (Qjg hv.w)
  simpa using this
theorem Zb2{r:PLq}(hb:Bds r)(hd:Bdd r)(h0:r≠[]):md5 r=true↔re7 r:=by
 rw[lf0 hd h0];unfold md5;rw[Qju];exact⟨λh p hp=>(Le7 hb (hb p hp)).1 (h p hp),λh p hp=>(Le7 hb (hb p hp)).2 (h p hp)⟩
end Go.Ev.Ce
namespace Go.Ev.Ce
def dv(z v:Pt):V3:=⟨v.px*z.pw-z.px*v.pw,v.py*z.pw-z.py*v.pw,v.pz*z.pw-z.pz*v.pw⟩
def thr(n:V3)(z:Pt):Pln:=⟨⟨z.pw*n.x,z.pw*n.y,z.pw*n.z⟩,n.x*z.px+n.y*z.py+n.z*z.pz⟩
theorem lf4(n:V3)(z x:Pt):rmZ (thr n z) x=-dot n (dv z x):=by simp only[rmZ,thr,dot,dv];grind
theorem lf5{p:Pln}{z v:Pt}(hz:rmZ p z≠0)(hv:rmZ p v=0)(hw:0<v.pw):dv z v≠⟨0,0,0⟩:=λh=>by
 unfold dv at h;simp only[V3.mk.injEq] at h;obtain⟨e1,e2,e3⟩:=h
 have:rmZ p z*v.pw=rmZ p v*z.pw:=by unfold rmZ;grind
 rw[hv,Qjz] at this;exact (Qjn.1 this).elim hz (by omega)
theorem Sf4{p:Pln}{z:Pt}(hz:rmZ p z≠0):∀l:List Pt,l.length<=2->(∀v∈l,rmZ p v=0/\0<v.pw)->∃n,n≠(⟨0,0,0⟩:V3)/\∀v∈l,dot n (dv z v)=0
 |[],_,_=>⟨⟨1,0,0⟩,by simp,λv h=>by cases h⟩
 |[v],_,h=>by
  obtain⟨h1,h2⟩:=h v (by simp)
  obtain⟨d,hd,he⟩:=Sf1 (lf5 hz h1 h2);exact⟨d,hd,λu hu=>by rw[Qje.1 hu,<- he];unfold dot;grind⟩
 |[v,u],_,h=>by
  obtain⟨h1,h2⟩:=h v (by simp)
  by_cases hc:q7 (dv z v) (dv z u)=⟨0,0,0⟩
  ·obtain⟨d,hd,he⟩:=Sf1 (lf5 hz h1 h2);have hu:dot (dv z u) d=0:=by
    by_cases h0:dot (dv z u) d=0
    ·exact h0
    ·exact absurd hc (re6 (lf5 hz h1 h2) he h0)
   refine⟨d,hd,λx hx=>?_⟩
   simp only[Qja,List.not_mem_nil,or_false] at hx
   rcases hx with rfl|rfl
   ·rw[<- he];unfold dot;grind
   ·rw[<- hu];unfold dot;grind
  ·refine⟨_,hc,λx hx=>?_⟩
   simp only[Qja,List.not_mem_nil,or_false] at hx
   rcases hx with rfl|rfl
   ·rw[<- id8 (dv z x) (dv z u)];unfold dot;grind
   ·rw[<- id9 (dv z v) (dv z x)];unfold dot;grind
 |_::_::_::_,h,_=>by simp at h
def Sf5(p:Pln)(z v:Pt):Pt:=⟨rmZ p v*z.px-rmZ p z*v.px,rmZ p v*z.py-rmZ p z*v.py,rmZ p v*z.pz-rmZ p z*v.pz,rmZ p v*z.pw-rmZ p z*v.pw⟩
theorem ce1(p q:Pln)(z v:Pt):rmZ q (Sf5 p z v)=rmZ p v*rmZ q z-rmZ p z*rmZ q v:=by
 generalize ha:rmZ p v=a;generalize hb:rmZ p z=c;simp only[rmZ,Sf5] at *
 rw[ha,hb]
 grind
theorem Bf3{r r':List Pln}(hs:∀p∈r',p∈r){v:Pt}(h:Cn r' v)(hi:Inr r v):Cn r v:=by
 obtain⟨p,q,s,hp,hq,hs',hw,e⟩:=h.c;exact⟨hi,p,q,s,hs p hp,hs q hq,hs s hs',hw,e⟩
theorem lf6{r:List Pln}(hb:Bdd r)(hB:re7 r){h:Pln}(hn:h.n≠⟨0,0,0⟩):¬ ∀x,Inr r x->rmZ h x=0:=λH=>by
 obtain⟨x,hw,hx⟩:=hB;have hi:Inr r x:=⟨hw,λp hp=>Qjg (hx p hp)⟩
 obtain⟨q,hq,h1,h2⟩:=step hi h.n (hb h.n hn);have h3:=H _ h2;rw[re5,H _ hi] at h3;have h4:=hx q hq;have h5:0<dot h.n h.n:=by
  have k:∀a:Int,a≠0->0<a*a:=λa ha=>by
   rcases Int.lt_or_gt_of_ne ha with h|h
   ·exact Qjad h h
   ·exact Qjm h h
  have k0:∀a:Int,0<=a*a:=λa=>by
   by_cases h:a=0
   ·subst h;decide
   ·exact Qjg (k a h)
  have a1:=k0 h.n.x;have a2:=k0 h.n.y;have a3:=k0 h.n.z;unfold dot;by_cases c1:h.n.x=0
  ·by_cases c2:h.n.y=0
   ·have:=k h.n.z (λc3=>hn (V3.ext' c1 c2 c3));omega
   ·have:=k _ c2;omega
  ·have:=k _ c1;omega
 have:=Qjm h4 h5
 omega
theorem cg7{r r':List Pln}{p:Pln}(hb:Bdd r)(hB:re7 r)(hp:p∈r)(hr:∀q∈r,q∈r'\/q=p)
  (l:List Pt) (hl:l.length<=2) (hl0:∀v∈l,rmZ p v=0/\0<v.pw) (hc:∀v,Cn r v->rmZ p v=0->∃x∈l,Eqv x v) {z:Pt} (hz:Inr r' z):Inr r z:=by
 by_cases h0:0<=rmZ p z
 ·exact⟨hz.w,λq hq=>(hr q hq).elim (hz.h q) λe=>e ▸ h0⟩
 exfalso;have hneg:rmZ p z<0:=by omega
 obtain⟨n,hn,hv⟩:=Sf4 (p:=p) (z:=z) (by omega) l hl hl0
 have hn':(thr n z).n≠⟨0,0,0⟩:=λe=>hn (by
  unfold thr at e;simp only[V3.mk.injEq] at e;have k:∀{a:Int},z.pw*a=0->a=0:=λh=>(Qjn.1 h).resolve_left (by have:=hz.w;omega)
  exact V3.ext' (k e.1) (k e.2.1) (k e.2.2))
 -- the face lies in that plane
 have hface:∀u,Inr r u->rmZ p u=0->rmZ (thr n z) u=0:=λu hu hu0=>by
  have hbd:Bdd (V0 p::r):=λd hd=>by
   obtain⟨q,hq,h⟩:=hb d hd;exact⟨q,Qjf _ hq,h⟩
  have hiu:Inr (V0 p::r) u:=⟨hu.w,λq hq=>by
   rcases Qja.1 hq with rfl|hq
   ·rw[za3,hu0];decide
   ·exact hu.h q hq⟩
  have hvx:∀v,Cn (V0 p::r) v->rmZ (thr n z) v=0:=λv hcv=>by
   have hir:Inr r v:=⟨hcv.w,λq hq=>hcv.h q (Qjf _ hq)⟩
   have hp0:rmZ p v=0:=by
    have h1:=hcv.h (V0 p) Qjh;rw[za3] at h1;have h2:=hir.h p hp;omega
   obtain⟨a,c,d,ha,hc',hd,hw,e1,e2,e3⟩:=hcv.c
   -- a plane that is turned round gives the same kf8
   have fl:∀{a c d:Pln},mw (V0 a) c d=-mw a c d/\mw c (V0 a) d=-mw c a d/\mw c d (V0 a)=-mw c d a:=λ{a c d}=>by
    refine⟨?_,?_,?_⟩<;>(simp only[mw,dot,q7,V0];grind)
   have hr0:∀{a:Pln},rmZ (V0 a) v=0->rmZ a v=0:=λh=>by rw[za3] at h;omega
   have hcn:Cn r v:=by
    refine⟨hir,?_⟩
    rcases Qja.1 ha with rfl|ha<;>rcases Qja.1 hc' with rfl|hc'<;>rcases Qja.1 hd with rfl|hd
    ·exact absurd (by simp only[mw,dot,q7];grind) hw
    ·exact absurd (by simp only[mw,dot,q7];grind) hw
    ·exact absurd (by simp only[mw,dot,q7];grind) hw
    ·exact⟨p,c,d,hp,hc',hd,by have:=(fl (a:=p) (c:=c) (d:=d)).1;omega,hp0,e2,e3⟩
    ·exact absurd (by simp only[mw,dot,q7];grind) hw
    ·exact⟨a,p,d,ha,hp,hd,by have:=(fl (a:=p) (c:=a) (d:=d)).2.1;omega,e1,hp0,e3⟩
    ·exact⟨a,c,p,ha,hc',hp,by have:=(fl (a:=p) (c:=a) (d:=c)).2.2;omega,e1,e2,hp0⟩
    ·exact⟨a,c,d,ha,hc',hd,hw,e1,e2,e3⟩
   obtain⟨x,hx,he⟩:=hc v hcn hp0;have h1:=he.rm (thr n z);rw[lf4 n z x,hv x hx] at h1;have h1:rmZ (thr n z) v*x.pw=0:=by omega
   exact (Qjn.1 h1).resolve_right (by have:=(hl0 x hx).2;omega)
  have a1:=Ab2 hbd (h:=thr n z) (λv hv=>by rw[hvx v hv];decide) hiu
  have a2:=Ab2 hbd (h:=V0 (thr n z)) (λv hv=>by rw[za3,hvx v hv];decide) hiu
  rw[za3] at a2;omega
 -- so do all vertices
 have hall:∀v,Inr r v->rmZ (thr n z) v=0:=λv hi=>by
  by_cases hv0:rmZ p v=0
  ·exact hface v hi hv0
  have hvp:0<rmZ p v:=by have:=hi.h p hp;omega
  have hu:Inr r (Sf5 p z v):=by
   have w1:=Qjm hvp hz.w;have w2:rmZ p z*v.pw<0:=Int.mul_neg_of_neg_of_pos hneg hi.w;refine⟨by show 0<rmZ p v*z.pw-rmZ p z*v.pw;omega,λq hq=>?_⟩
   rw[ce1]
   rcases hr q hq with h|rfl
   ·have b1:=Qjj (Qjg hvp) (hz.h q h);have b2:rmZ p z*rmZ q v<=0:=Int.mul_nonpos_of_nonpos_of_nonneg (Qjg hneg) (hi.h q hq);omega
   ·have:=Int.mul_comm (rmZ q v) (rmZ q z);omega
  have h1:=hface _ hu (by rw[ce1];have:=Int.mul_comm (rmZ p v) (rmZ p z);omega)
  rw[ce1] at h1;have h2:rmZ (thr n z) z=0:=by rw[lf4];simp only[dot,dv];grind
  rw[h2] at h1;have h1:rmZ p z*rmZ (thr n z) v=0:=by omega
  exact (Qjn.1 h1).resolve_left (by omega)
 exact lf6 hb hB hn' hall
end Go.Ev.Ce
namespace Go.Ev.Ce
open Go Go.Ev Go.Ev.L Go.Proofs
theorem Le8(p:Pln):∀(a:Pln) (l:PLq),p∈a::ddF a l↔p∈a::l
 |a,[]=>by simp[ddF]
 |a,x::l=>by
  have ih:=Le8 p x l;unfold ddF;split
  ·rename_i h;rw[Qb5] at h;subst h;rw[ih];simp
  ·simp only[Qja] at ih ⊢;rw[ih]
theorem lf7(p:Pln):∀l:PLq,p∈dd l↔p∈l
 |[]=>Iff.rfl
 |x::l=>Le8 p x l
theorem Le9:∀(a:Pln) (l:PLq),(a::l).Pairwise (λx y=>(!ltOf Nb2 y x)=true)->id7 (a::ddF a l)
 |a,[],_=>Qjr _ _
 |a,x::l,h=>by
  obtain⟨h1,h2⟩:=Qjk.1 h;have ih:=Le9 x l h2;have hle:=h1 x Qjh;rw[qb0] at hle;have hle:¬ LtP x a:=by simpa using hle
  unfold ddF;split
  ·rename_i he;rw[Qb5] at he;subst he;exact ih
  ·rename_i hne;have hlt:LtP a x:=by
    rcases Le3 a x with h|h|h
    ·exact h
    ·exact absurd ((Qb5 _ _).2 h.symm) hne
    ·exact absurd h hle
   refine Qjk.2 ⟨λp hp=>?_,ih⟩
   rcases Qja.1 hp with e|hp'
   ·subst e;exact hlt
   ·exact cd7 hlt ((Qjk.1 ih).1 p hp')
theorem Sf6(l:PLq):id7 (dd (fb1 l)):=by
 have h:=be3 l;cases hs:fb1 l with
 |nil=>exact .nil
 |cons a l'=>rw[hs] at h;exact Le9 a l' h
def Rd1(X:List Pt)(out:PLq)(p:Pln):PLq:=if keep X p then Jd4 out p else out
theorem Rd2(X:List Pt)(p:Pln):∀(c out:PLq),p∈c.foldl (Rd1 X) out↔p∈out\/p∈c.filter (keep X)
 |[],out=>by simp
 |a::c,out=>by
  rw[List.foldl_cons,Rd2 X p c,List.filter_cons];unfold Rd1;split
  ·rw[Bd7,Qja];constructor
   ·rintro ((h|h)|h)
    ·exact .inr (.inl h)
    ·exact .inl h
    ·exact .inr (.inr h)
   ·rintro (h|h|h)
    ·exact .inl (.inr h)
    ·exact .inl (.inl h)
    ·exact .inr h
  ·exact Iff.rfl
theorem Rd3(X:List Pt):∀(c out:PLq),id7 out->id7 (c.foldl (Rd1 X) out)
 |[],_,h=>h
 |a::c,out,h=>by
  rw[List.foldl_cons];refine Rd3 X c _ ?_;unfold Rd1;split
  ·exact re4 a h
  ·exact h
theorem lf8(X:List Pt)(c:PLq):c.foldl (Rd1 X) []=dd (fb1 (c.filter (keep X))) :=
 Rd0 (Rd3 X c [] .nil) (Sf6 _) λp=>by
  rw[Rd2,lf7,(Ad8 _).mem_iff];simp
def Bf4(l:PLq)(p:Pln):Bool:=l.any λq=>eqP q p
theorem se1(l:PLq)(p:Pln):Bf4 l p=true↔p∈l:=by
 unfold Bf4;rw[Qjx];exact⟨λ⟨q,h,e⟩=>by rw[Qb5] at e;exact e ▸ h,λh=>⟨p,h,(Qb5 p p).2 rfl⟩⟩
def but(r l:PLq):PLq:=r.filter λp=>Bf4 ws p||!Bf4 l p
theorem Eb2(r l:PLq)(p:Pln):p∈but r l↔p∈r/\(p∈ws\/p∉l):=by
 unfold but;rw[Qjo,Bool.or_eq_true,se1,Bool.not_eq_true',<- Bool.not_eq_true,se1]
theorem Me0{c:PLq}(hb:Bds (c++ws))(hB:re7 (c++ws)):∀l:PLq,(∀p∈l,p∈c/\onc (cor (c++ws)) p<=2)->∀z,Inr (but (c++ws) l) z->Inr (c++ws) z
 |[],_,z,hz=>⟨hz.w,λp hp=>hz.h p ((Eb2 _ _ _).2 ⟨hp,.inr (by simp)⟩)⟩
 |a::l,hl,z,hz=>by
  have ih:=Me0 hb hB l λp hp=>hl p (Qjf _ hp)
  refine ih z ?_;obtain⟨ha,hn⟩:=hl a Qjh;have har:a∈c++ws:=Qjc _ ha;by_cases h0:a∈ws\/a∈l
  ·refine⟨hz.w,λp hp=>hz.h p ?_⟩
   obtain⟨h1,h2⟩:=(Eb2 _ _ _).1 hp;refine (Eb2 _ _ _).2 ⟨h1,?_⟩
   rcases h2 with h2|h2
   ·exact .inl h2
   ·by_cases hpa:p=a
    ·subst hpa
     rcases h0 with h0|h0
     ·exact .inl h0
     ·exact absurd h0 h2
    ·exact .inr λh=>(Qja.1 h).elim hpa h2
  ·have hw:a∉ws:=λh=>h0 (.inl h)
   have hal:a∉l:=λh=>h0 (.inr h)
   have sub:∀p∈but (c++ws) l,p∈c++ws:=λp hp=>((Eb2 _ _ _).1 hp).1
   refine cg7 (r:=but (c++ws) l) (r':=but (c++ws) (a::l)) (p:=a) ?_ ?_ ((Eb2 _ _ _).2 ⟨har,.inr hal⟩) ?_ ((cor (c++ws)).filter λx=>rm a x==0) ?_ ?_ ?_ hz
   ·intro d hd;obtain⟨p,hp,h⟩:=cd8 [] d hd;exact⟨p,(Eb2 _ _ _).2 ⟨Qjd _ hp,.inl hp⟩,h⟩
   ·obtain⟨x,h1,h2⟩:=hB;exact⟨x,h1,λp hp=>h2 p (sub p hp)⟩
   ·intro q hq;obtain⟨h1,h2⟩:=(Eb2 _ _ _).1 hq;by_cases hqa:q=a
    ·exact .inr hqa
    ·exact .inl ((Eb2 _ _ _).2 ⟨h1,h2.elim .inl λh=>.inr λh'=>(Qja.1 h').elim hqa h⟩)
   ·rw[<- List.countP_eq_length_filter];exact hn
   ·intro v hv;obtain⟨h1,h2⟩:=Qjo.1 hv;have hx:=Sc6 hb v h1;rw[Ve1 (hb a har) hx] at h2;exact⟨by simpa using h2,hx.w1⟩
   ·intro v hv h0;have hv':Cn (c++ws) v:=Bf3 sub hv (ih v hv.toInr);obtain⟨x,hx,he⟩:=lf3 hb hv';have hok:=Sc6 hb x hx;refine⟨x,Qjo.2 ⟨hx,?_⟩,he⟩;rw[Ve1 (hb a har) hok];have h1:=he.rm a;rw[h0,Qjz] at h1
    have:=(Qjn.1 h1).resolve_right (by have:=hv.w;omega)
    simpa using this
theorem se2{c:PLq}(hf:ful c=true):(chk c==0)=true/\Bds (c++ws)/\re7 (c++ws):=by
 unfold ful at hf;rw[Qjl] at hf;have hb:=(Db4 hf.1).1;exact⟨hf.1,hb,(Zb2 hb (cd8 c) (by simp[ws])).1 hf.2⟩
theorem se3{c:PLq}(hf:ful c=true)(p:Pln):p∈lean c↔p∈c/\keep (pts c) p=true:=by
 unfold lean;rw[if_pos hf,lf7,(Ad8 _).mem_iff,Qjo]
theorem vb9(c:PLq):(lean c).length<=c.length:=by
 unfold lean;split
 ·have h1 : (dd (fb1 (c.filter (keep (pts c))))).length ≤ (fb1 (c.filter (keep (pts c)))).length := by
   cases fb1 (c.filter (keep (pts c))) with
   |nil=>exact Nat.le_refl _
   |cons a l=>have:=Le0 a l;simp only[dd,List.length_cons];omega
  rw[Ac4] at h1
  have:=List.length_filter_le (keep (pts c)) c
  omega
 ·exact Nat.zero_le _
def ng8(p:Pln)(v:V3):Int:=if okp p&&inV v then (if dot p.n v-p.b<0 then -1 else if dot p.n v-p.b>0 then 1 else 0) else 0
structure Thr(a b c:V3)(p:Pln):Prop where
 ok:okp p=true
 k:∃g:Int,0<g/\g*p.n.x=(q7 (sub b a) (sub c a)).x/\g*p.n.y=(q7 (sub b a) (sub c a)).y/\g*p.n.z=(q7 (sub b a) (sub c a)).z
 o:p.b=dot p.n a
theorem lf9{p:Pln}(h:Bd p):Jb5 p=V0 p:=by
 unfold Jb5 ad6 V0
 simp only
 have:=h.x1;have:=h.x2;have:=h.y1;have:=h.y2;have:=h.z1;have:=h.z2;have:=h.b1;have:=h.b2
 rw[Ka7 (by omega) (by omega),Ka7 (by omega) (by omega),Ka7 (by omega) (by omega),Ka7 (by omega) (by omega)]
 simp only[Int.zero_sub]
theorem mf0{p:Pln}(h:okp p=true):okp (V0 p)=true:=by
 unfold okp V0 g3 at *
 simp only[List.all_cons,List.all_nil,Bool.and_true,Qjl,qd5,Int.natAbs_neg] at h ⊢;obtain⟨⟨h1,h2,h3⟩,h4,h5⟩:=h;exact⟨⟨h1.neg,h2.neg,h3.neg⟩,h4,h5.neg⟩
theorem cd9{σ:Type}{step:σ->Stp σ}{mk:Nat->σ}(n:Nat)(c:Nat->Bool)(u fin:Nat)(hn:n<=1000000000)(h:∀j,j<n->step (mk j)=sl (c j) (.exit u) (.next (mk (j+1))))(hf:step (mk n)=.exit fin) :
  ∃j,lp step (mk 0)=(if (List.range n).any c then u else fin,mk j):=by
 have key:=Oa4 (step:=step) (mk:=λj (_:Unit)=>mk j) n (λj _=>j<=n/\∀i,i<j->c i=false) (λt s=>t=(if (List.range n).any c then u else fin)/\∃j,s=mk j) hn
  (λj _ hj hi=>by
   rw[h j hj];refine Nx.sl (λhc=>.ex ⟨?_,j,rfl⟩) (λhc=>.nx ⟨(),rfl,by omega,λi hi'=>?_⟩)
   ·rw[if_pos (Qjx.2 ⟨j,Qjp.2 hj,hc⟩)]
   ·by_cases e:i=j
    ·rw[e];exact hc
    ·exact hi.2 i (by omega))
  (λj _ hj hi=>by
   have e:j=n:=by omega
   subst e;refine⟨fin,hf,?_,j,rfl⟩;rw[if_neg λhh=>?_]
   obtain⟨i,hi1,hi2⟩:=Qjx.1 hh;rw[hi.2 i (Qjp.1 hi1)] at hi2;cases hi2) 0 () ⟨by omega,by omega⟩
 obtain⟨t,s,h1,rfl,j,rfl⟩:=key;exact⟨j,h1⟩
def hold(p:Pln)(l:List V3):Bool:=!l.any λv=>decide (ng8 p v>0)
def cg8(l:List V3)(a c:Nat)(out:PLq)(k:Nat):PLq :=
  if (De5 (gL tV l a) (gL tV l c) (gL tV l k)).2 then
    (if hold (V0 (De5 (gL tV l a) (gL tV l c) (gL tV l k)).1) l then Jd4 (if hold (De5 (gL tV l a) (gL tV l c) (gL tV l k)).1 l then Jd4 out (De5 (gL tV l a) (gL tV l c) (gL tV l k)).1 else out) (V0 (De5 (gL tV l a) (gL tV l c) (gL tV l k)).1)
     else (if hold (De5 (gL tV l a) (gL tV l c) (gL tV l k)).1 l then Jd4 out (De5 (gL tV l a) (gL tV l c) (gL tV l k)).1 else out))
  else out
def F2(l:List V3)(a:Nat)(out:PLq)(c:Nat):PLq:=(List.range c).foldl (cg8 l a c) out
def F1(l:List V3)(out:PLq)(a:Nat):PLq:=(List.range a).foldl (F2 l a) out
def F0(l:List V3):PLq:=(List.range l.length).foldl (F1 l) []
theorem Sf7{p:Pln}(h:okp p=true):g3 p.n=1:=by
 unfold okp at h;simp only[Qjl,beq_iff_eq] at h;exact h.2.1
theorem mf1{p:Pln}(h:okp p=true):p.n≠⟨0,0,0⟩:=λe=>by
 have:=Sf7 h
 rw[e] at this
 revert this
 decide
structure og7(l:List V3):Prop where
 h:∃a c k v,a∈l/\c∈l/\k∈l/\v∈l/\dot (q7 (sub c a) (sub k a)) (sub v a)≠0
structure Fct(l:List V3)(p:Pln):Prop where
 ok:okp p=true
 hd:hold p l=true
structure ce2(c:PLq):Prop where
 l:c.length<=47
 v:∀p∈c,okp p=true
 f:re7 (c++ws)
theorem ce2.chk{c:PLq}(h:ce2 c):(chk c==0)=true:=by
 rw[beq_iff_eq,ab9];exact⟨by have:=h.l;omega,h.v⟩
theorem ce2.bds{c:PLq}(h:ce2 c):Bds (c++ws):=(Db4 h.chk).1
theorem ce2.ful{c:PLq}(h:ce2 c):ful c=true:=by
 unfold Ce.ful;rw[h.chk,(Zb2 h.bds (cd8 c) (by simp[ws])).2 h.f]
 rfl
theorem Sf8(p:Pln)(N:Int)(v x:Pt):rmZ p ⟨N*v.px+x.px,N*v.py+x.py,N*v.pz+x.pz,N*v.pw+x.pw⟩=N*rmZ p v+rmZ p x:=by unfold rmZ;grind
theorem ce2.pts{c:PLq}(h:ce2 c):pts c=cor (c++ws):=by unfold Ce.pts;rw[if_pos h.chk]
structure Ins(r:PLq)(x:Pt):Prop where
 w:0<x.pw
 h:∀p∈r,0<rmZ p x
theorem Ins.inr{r:PLq}{x:Pt}(h:Ins r x):Inr r x:=⟨h.w,λp hp=>Qjg (h.h p hp)⟩
theorem Cd0{r:PLq}:re7 r↔∃x,Ins r x:=⟨λ⟨x,h1,h2⟩=>⟨x,h1,h2⟩,λ⟨x,h⟩=>⟨x,h.w,h.h⟩⟩
theorem Ins.mono{r r':PLq}{x:Pt}(h:Ins r x)(hs:∀p∈r',p∈r):Ins r' x:=⟨h.w,λp hp=>h.h p (hs p hp)⟩
theorem Inr.mono{r r':PLq}{x:Pt}(h:Inr r x)(hs:∀p∈r',p∈r):Inr r' x:=⟨h.w,λp hp=>h.h p (hs p hp)⟩
theorem Ins.app{r r':PLq}{x:Pt}(h:Ins r x)(h':Ins r' x):Ins (r++r') x:=⟨h.w,λp hp=>(Qjb.1 hp).elim (h.h p) (h'.h p)⟩
theorem Inr.app{r r':PLq}{x:Pt}(h:Inr r x)(h':Inr r' x):Inr (r++r') x:=⟨h.w,λp hp=>(Qjb.1 hp).elim (h.h p) (h'.h p)⟩
def tow(N:Int)(y x:Pt):Pt:=⟨N*y.px+x.px,N*y.py+x.py,N*y.pz+x.pz,N*y.pw+x.pw⟩
theorem Sf9(p:Pln)(N:Int)(y x:Pt):rmZ p (tow N y x)=N*rmZ p y+rmZ p x:=Sf8 p N y x
theorem far{f g:Pln->Int}:∀l:PLq,(∀p∈l,0<f p)->∃N:Int,0<=N/\∀M,N<=M->∀p∈l,0<M*f p+g p
 |[],_=>⟨0,Qjai _,λ_ _ p hp=>by cases hp⟩
 |a::l,h=>by
  obtain⟨N,h0,h1⟩:=far l λp hp=>h p (Qjf _ hp)
  have ha:=h a Qjh;refine⟨max N ((g a).natAbs+1),by omega,λM hM p hp=>?_⟩
  rcases Qja.1 hp with rfl|hp
  ·have:M*1<=M*f p:=Int.mul_le_mul_of_nonneg_left (by omega) (by omega)
   omega
  ·exact h1 M (by omega) p hp
theorem Tf0{r:PLq}{x y:Pt}(hy:Inr r y)(hx:Ins r x)(l:PLq)(hl:∀p∈l,0<rmZ p y):∃z,Ins (r++l) z:=by
 obtain⟨N,h0,h1⟩:=far (f:=λp=>rmZ p y) (g:=λp=>rmZ p x) l hl
 refine⟨tow N y x,by have:=Qjj h0 (Qjg hy.w);have:=hx.w;unfold tow;simp only;omega,λp hp=>?_⟩
 rw[Sf9]
 rcases Qjb.1 hp with hp|hp
 ·have:=Qjj h0 (hy.h p hp)
  have:=hx.h p hp
  omega
 ·exact h1 N (Qjai _) p hp
def mvd(N:Int)(x:Pt)(d:V3):Pt:=⟨N*x.px+d.x,N*x.py+d.y,N*x.pz+d.z,N*x.pw⟩
theorem ce3(p:Pln)(N:Int)(x:Pt)(d:V3):rmZ p (mvd N x d)=N*rmZ p x+-dot p.n d:=by simp only[rmZ,mvd,dot];grind
theorem mf2{r:PLq}{x:Pt}(hx:Ins r x)(d:V3):∃N:Int,0<N/\Ins r (mvd N x d):=by
 obtain⟨N,h0,h1⟩:=far (f:=λp=>rmZ p x) (g:=λp=>-dot p.n d) r hx.h
 refine⟨N+1,by omega,by have:=Qjm (show 0<N+1 by omega) hx.w;unfold mvd;simp only;omega,λp hp=>?_⟩
 rw[ce3];exact h1 (N+1) (by omega) p hp
theorem Tf1:∀p∈ws,okp p=true:=Qju.1 (by decide)
theorem Cd1{n:V3}(h:n≠⟨0,0,0⟩):0<dot n n:=by
 have k:∀a:Int,0<=a*a/\(a≠0->0<a*a):=λa=>by
  rcases Int.lt_trichotomy a 0 with h|h|h
  ·have:=Qjad h h;exact⟨by omega,λ_=>this⟩
  ·subst h;exact⟨by decide,λh=>absurd rfl h⟩
  ·have:=Qjm h h;exact⟨by omega,λ_=>this⟩
 unfold dot
 have:=k n.x;have:=k n.y;have:=k n.z
 by_cases hx:n.x=0
 ·by_cases hy:n.y=0
  ·by_cases hz:n.z=0
   ·exact absurd (V3.ext' hx hy hz) h
   ·have:=(k n.z).2 hz;omega
  ·have:=(k n.y).2 hy;omega
 ·have:=(k n.x).2 hx;omega
theorem Sb3{c:PLq}(h:(chk c==0)=true):∀p∈c++ws,okp p=true:=λp hp=>by
 rw[beq_iff_eq,ab9] at h
 rcases Qjb.1 hp with hp|hp
 ·exact h.2 p hp
 ·exact Tf1 p hp
theorem Z0{c:PLq}:ful c=true↔(chk c==0)=true/\∃x,Ins (c++ws) x:=by
 unfold ful;rw[Qjl];constructor
 ·rintro⟨h1,h2⟩;exact⟨h1,Cd0.1 ((Zb2 (Db4 h1).1 (cd8 c) (by simp[ws])).1 h2)⟩
 ·rintro⟨h1,h2⟩;exact⟨h1,(Zb2 (Db4 h1).1 (cd8 c) (by simp[ws])).2 (Cd0.2 h2)⟩
theorem Va8{a c:PLq}(ha:(chk a==0)=true)(hc:(chk c==0)=true):apart a c=true↔∀z,Ins (a++ws) z->Ins (c++ws) z->False:=by
 unfold apart;rw[ha,hc];have hb:=(qe7 ha hc).1;have h:=Zb2 (r:=a++c++ws) hb (cd8 (a++c)) (by simp[ws])
 have key:md5 (a++c++ws)=true↔∃z,Ins (a++ws) z/\Ins (c++ws) z:=by
  rw[h,Cd0];constructor
  ·rintro⟨z,hz⟩;exact⟨z,hz.mono λp hp=>by simp only[Qjb] at hp ⊢;rcases hp with h | h<;>simp[h],hz.mono λp hp=>by simp only[Qjb] at hp ⊢;rcases hp with h | h<;>simp[h]⟩
  ·rintro⟨z,h1,h2⟩;exact⟨z,(h1.app h2).mono λp hp=>by simp only[Qjb] at hp ⊢;rcases hp with (h | h) | h<;>simp[h]⟩
 constructor
 ·intro h z h1 h2;rw[key.2 ⟨z,h1,h2⟩] at h;cases h
 ·intro h;cases hb:md5 (a++c++ws) with
  |false=>rfl
  |true =>
   obtain⟨z,h1,h2⟩:=key.1 hb;exact (h z h1 h2).elim
theorem Zb3{c:PLq}{p:Pln}(h:p∈lean c):p∈c:=by
 cases hf:ful c with
 |true=>exact ((se3 hf p).1 h).1
 |false=>unfold lean at h;rw[hf] at h;cases h
theorem Bf5{c:PLq}(hf:ful c=false):lean c=[]:=by unfold lean;rw[hf];rfl
theorem lb7{c:PLq}(hf:ful c=true){z:Pt}:Inr (lean c++ws) z↔Inr (c++ws) z:=by
 obtain⟨hc,hb,hB⟩:=se2 hf;constructor
 ·intro h;have hpts:pts c=cor (c++ws):=by unfold pts;rw[if_pos hc]
  refine Me0 hb hB (c.filter λp=>!keep (pts c) p) (λp hp=>?_) z ⟨h.w,λp hp=>?_⟩
  ·obtain⟨h1,h2⟩:=Qjo.1 hp;refine⟨h1,?_⟩;rw[hpts] at h2;unfold keep at h2;simp only[Bool.not_not,decide_eq_true_eq] at h2;omega
  ·obtain⟨h1,h2⟩:=(Eb2 _ _ _).1 hp;by_cases hw:p∈ws
   ·exact h.h p (Qjd _ hw)
   ·have h2:=h2.resolve_left hw;have h1:=(Qjb.1 h1).resolve_right hw;have hk:keep (pts c) p=true:=by
     cases hk:keep (pts c) p with
     |true=>rfl
     |false=>exact absurd (Qjo.2 ⟨h1,by rw[hk];rfl⟩) h2
    exact h.h p (Qjc _ ((se3 hf p).2 ⟨h1,hk⟩))
 ·exact λh=>h.mono λp hp=>(Qjb.1 hp).elim (λh=>Qjc _ (Zb3 h)) (Qjd _)
theorem uc2{c:PLq}(hf:ful c=true){z:Pt}:Ins (lean c++ws) z↔Ins (c++ws) z:=by
 obtain⟨hc,hb,hB⟩:=se2 hf;constructor
 ·intro h;refine⟨h.w,λp hp=>?_⟩
  have h0:=((lb7 hf).1 h.inr).h p hp;by_cases hz:rmZ p z=0
  ·exfalso;obtain⟨N,hN,hi⟩:=mf2 h p.n;have h1:=((lb7 hf).1 hi.inr).h p hp;rw[ce3,hz] at h1
   have:=Cd1 (mf1 (Sb3 hc p hp))
   omega
  ·omega
 ·exact λh=>h.mono λp hp=>(Qjb.1 hp).elim (λh=>Qjc _ (Zb3 h)) (Qjd _)
theorem se4{c:PLq}(hc:(chk c==0)=true):(chk (lean c)==0)=true:=by
 rw[beq_iff_eq,ab9] at hc ⊢;exact⟨Nat.le_trans (vb9 c) hc.1,λp hp=>hc.2 p (Zb3 hp)⟩
theorem se5{c:PLq}(hf:ful c=true):ful (lean c)=true:=by
 obtain⟨h1,x,hx⟩:=Z0.1 hf;exact Z0.2 ⟨se4 h1,x,(uc2 hf).2 hx⟩
theorem Ve4{r:PLq}{p:Pln}(hf:ful (r++[V0 p])=true){x:Pt}(hx:Inr (r++ws) x)(h:0<rmZ p x):V0 p∈lean (r++[V0 p]):=by
 apply Qjae;intro hn;have h1:Inr (lean (r++[V0 p])++ws) x:=hx.mono λq hq=>by
  rcases Qjb.1 hq with hq|hq
  ·have:=Zb3 hq
   rcases Qjb.1 this with h2|h2
   ·exact Qjc _ h2
   ·rw[Qje.1 h2] at hq;exact absurd hq hn
  ·exact Qjd _ hq
 have:=((lb7 hf).1 h1).h (V0 p) (by simp)
 rw[za3] at this;omega
def E4(x fs:PLq):Nat->PLq
 |0=>x
 |j+1=>lean (E4 x fs j++[gL tP fs j])
def Va9(x fs:PLq)(j:Nat):PLq:=lean (E4 x fs j++[V0 (gL tP fs j)])
def Ta0(x fs:PLq)(j:Nat):LPq:=((List.range j).map (Va9 x fs)).filter λc=>decide (0<c.length)
def Ha6(x fs:PLq):Bool:=(List.range fs.length).all λj=>decide ((E4 x fs j).length<48)
def Fa5(q x:PLq):LPq:=if apart x q then [x] else Ta0 x (lean q) (lean q).length
def Ya2(q x:PLq):Bool:=apart x q||Ha6 x (lean q)
def J4(ps:LPq)(q:PLq):Option LPq :=
 if ful q then (if ps.all (Ya2 q)&&decide ((ps.flatMap (Fa5 q)).length<=200) then some (ps.flatMap (Fa5 q)) else none) else some ps
def Ab3(c:PLq)(s:LPq):Option LPq :=
 s.foldl (λst q=>st.bind λps=>J4 ps q) (some (if ful c then [lean c] else []))
theorem Zb4{x fs:PLq}{n:Nat}{y:PLq}:y∈Ta0 x fs n↔∃j,j<n/\y=Va9 x fs j/\y≠[]:=by
 unfold Ta0;rw[Qjo,List.mem_map];constructor
 ·rintro⟨⟨j,hj,rfl⟩,h⟩;exact⟨j,Qjp.1 hj,rfl,λe=>by rw[e] at h;simp at h⟩
 ·rintro⟨j,hj,rfl,h⟩;exact⟨⟨j,Qjp.2 hj,rfl⟩,by simpa using List.length_pos_iff.2 h⟩
section
variable{x fs:PLq}(hx:(chk x==0)=true)(hf:∀p∈fs,okp p=true){z0:Pt}(h1:Ins (x++ws) z0)(h2:Ins (fs++ws) z0)(h48:Ha6 x fs=true)
include hx hf h1 h2 h48
theorem gLp{fs:PLq}{j:Nat}(hj:j<fs.length):gL tP fs j∈fs:=N7 tP hj
theorem se6{j:Nat}(hj:j<fs.length):(E4 x fs j).length<48:=by
 have:=Qju.1 h48 j (Qjp.2 hj)
 simpa using this
theorem Tc9:∀j,j<=fs.length->(chk (E4 x fs j)==0)=true/\(∀z,Inr (E4 x fs j++ws) z↔Inr (x++ws) z/\∀i,i<j->0<=rmZ (gL tP fs i) z) /\
  (∀z,Ins (E4 x fs j++ws) z↔Ins (x++ws) z/\∀i,i<j->0<rmZ (gL tP fs i) z)
 |0,_=>⟨hx,λz=>⟨λh=>⟨h,λi hi=>absurd hi (Qjag i)⟩,λh=>h.1⟩,λz=>⟨λh=>⟨h,λi hi=>absurd hi (Qjag i)⟩,λh=>h.1⟩⟩
 |j+1,hj=>by
  obtain⟨k1,k2,k3⟩:=Tc9 j (by omega)
  have hl:=se6 hx hf h1 h2 h48 (show j<fs.length by omega)
  have hpj:=hf _ (gLp hx hf h1 h2 h48 (show j<fs.length by omega))
  have hc:(chk (E4 x fs j++[gL tP fs j])==0)=true:=by
   rw[beq_iff_eq,ab9] at k1 ⊢;refine⟨by rw[List.length_append];simp only[List.length_singleton];omega,λp hp=>?_⟩
   rcases Qjb.1 hp with hp|hp
   ·exact k1.2 p hp
   ·rw[Qje.1 hp];exact hpj
  have h0:Ins (E4 x fs j++ws) z0:=(k3 z0).2 ⟨h1,λi hi=>h2.h _ (Qjc _ (gLp hx hf h1 h2 h48 (by omega)))⟩
  have hz:0<rmZ (gL tP fs j) z0:=h2.h _ (Qjc _ (gLp hx hf h1 h2 h48 (by omega)))
  have hful:ful (E4 x fs j++[gL tP fs j])=true:=Z0.2 ⟨hc,z0,h0.w,λp hp=>by
   simp only[Qjb,Qje] at hp
   rcases hp with (hp|rfl)|hp
   ·exact h0.h p (Qjc _ hp)
   ·exact hz
   ·exact h0.h p (Qjd _ hp)⟩
  refine⟨se4 hc,λz=>?_,λz=>?_⟩
  ·show Inr (lean (E4 x fs j++[gL tP fs j])++ws) z↔_;rw[lb7 hful];constructor
   ·intro h;obtain⟨a1,a2⟩:=(k2 z).1 (h.mono λp hp=>by simp only[Qjb] at hp ⊢;rcases hp with h|h<;>simp[h])
    refine⟨a1,λi hi=>?_⟩
    by_cases e:i=j
    ·subst e;exact h.h _ (by simp)
    ·exact a2 i (by omega)
   ·rintro⟨a1,a2⟩
    have:=(k2 z).2 ⟨a1,λi hi=>a2 i (by omega)⟩
    refine⟨a1.w,λp hp=>?_⟩
    simp only[Qjb,Qje] at hp
    rcases hp with (hp|rfl)|hp
    ·exact this.h p (Qjc _ hp)
    ·exact a2 j (by omega)
    ·exact this.h p (Qjd _ hp)
  ·show Ins (lean (E4 x fs j++[gL tP fs j])++ws) z↔_;rw[uc2 hful];constructor
   ·intro h;obtain⟨a1,a2⟩:=(k3 z).1 (h.mono λp hp=>by simp only[Qjb] at hp ⊢;rcases hp with h|h<;>simp[h])
    refine⟨a1,λi hi=>?_⟩
    by_cases e:i=j
    ·subst e;exact h.h _ (by simp)
    ·exact a2 i (by omega)
   ·rintro⟨a1,a2⟩
    have:=(k3 z).2 ⟨a1,λi hi=>a2 i (by omega)⟩
    refine⟨a1.w,λp hp=>?_⟩
    simp only[Qjb,Qje] at hp
    rcases hp with (hp|rfl)|hp
    ·exact this.h p (Qjc _ hp)
    ·exact a2 j (by omega)
    ·exact this.h p (Qjd _ hp)
theorem ce4{j:Nat}(hj:j<fs.length):(Va9 x fs j=[]↔ful (E4 x fs j++[V0 (gL tP fs j)])=false)/\(Va9 x fs j≠[]->ful (Va9 x fs j)=true /\
  (∀z,Inr (Va9 x fs j++ws) z↔Inr (E4 x fs j++ws) z/\rmZ (gL tP fs j) z<=0)/\∀z,Ins (Va9 x fs j++ws) z↔Ins (E4 x fs j++ws) z/\rmZ (gL tP fs j) z<0):=by
 obtain⟨k1,k2,k3⟩:=Tc9 hx hf h1 h2 h48 j (by omega)
 have h0:Ins (E4 x fs j++ws) z0:=(k3 z0).2 ⟨h1,λi hi=>h2.h _ (Qjc _ (gLp hx hf h1 h2 h48 (by omega)))⟩
 have hz:0<rmZ (gL tP fs j) z0:=h2.h _ (Qjc _ (gLp hx hf h1 h2 h48 (by omega)))
 have e:Va9 x fs j=[]↔ful (E4 x fs j++[V0 (gL tP fs j)])=false:=by
  constructor
  ·intro he;cases hq:ful (E4 x fs j++[V0 (gL tP fs j)]) with
   |false=>rfl
   |true =>
    have:=Ve4 hq h0.inr hz
    unfold Va9 at he;rw[he] at this;cases this
  ·exact Bf5
 refine⟨e,λhne=>?_⟩
 have hful:ful (E4 x fs j++[V0 (gL tP fs j)])=true:=by
  cases hq:ful (E4 x fs j++[V0 (gL tP fs j)]) with
  |true=>rfl
  |false=>exact absurd (e.2 hq) hne
 refine⟨se5 hful,λz=>?_,λz=>?_⟩
 ·unfold Va9;rw[lb7 hful];constructor
  ·intro h;refine⟨h.mono λp hp=>by simp only[Qjb] at hp ⊢;rcases hp with h | h<;>simp[h],?_⟩
   have:=h.h (V0 (gL tP fs j)) (by simp)
   rw[za3] at this;omega
  ·rintro⟨a1,a2⟩;refine⟨a1.w,λp hp=>?_⟩
   simp only[Qjb,Qje] at hp
   rcases hp with (hp|rfl)|hp
   ·exact a1.h p (Qjc _ hp)
   ·rw[za3];omega
   ·exact a1.h p (Qjd _ hp)
 ·unfold Va9;rw[uc2 hful];constructor
  ·intro h;refine⟨h.mono λp hp=>by simp only[Qjb] at hp ⊢;rcases hp with h | h<;>simp[h],?_⟩
   have:=h.h (V0 (gL tP fs j)) (by simp)
   rw[za3] at this;omega
  ·rintro⟨a1,a2⟩;refine⟨a1.w,λp hp=>?_⟩
   simp only[Qjb,Qje] at hp
   rcases hp with (hp|rfl)|hp
   ·exact a1.h p (Qjc _ hp)
   ·rw[za3];omega
   ·exact a1.h p (Qjd _ hp)
theorem Me1:∀j,j<=fs.length->∀z,Inr (x++ws) z->(∃y∈Ta0 x fs j,Inr (y++ws) z)\/∀i,i<j->0<=rmZ (gL tP fs i) z
 |0,_,z,_=>.inr λi hi=>absurd hi (Qjag i)
 |j+1,hj,z,hz=>by
  rcases Me1 j (by omega) z hz with⟨y,hy,h⟩|h
  ·obtain⟨i,hi,h3,h4⟩:=Zb4.1 hy;exact .inl ⟨y,Zb4.2 ⟨i,by omega,h3,h4⟩,h⟩
  ·obtain⟨k1,k2,k3⟩:=Tc9 hx hf h1 h2 h48 j (by omega)
   have hr:Inr (E4 x fs j++ws) z:=(k2 z).2 ⟨hz,h⟩;by_cases hn:0<=rmZ (gL tP fs j) z
   ·refine .inr λi hi=>?_
    by_cases e:i=j
    ·subst e;exact hn
    ·exact h i (by omega)
   ·left;obtain⟨c1,c2⟩:=ce4 hx hf h1 h2 h48 (show j<fs.length by omega)
    have h0:Ins (E4 x fs j++ws) z0:=(k3 z0).2 ⟨h1,λi hi=>h2.h _ (Qjc _ (gLp hx hf h1 h2 h48 (by omega)))⟩
    obtain⟨y,hy⟩:=Tf0 hr h0 [V0 (gL tP fs j)] (λp hp=>by rw[Qje.1 hp,za3];omega)
    have hne:Va9 x fs j≠[]:=λe=>by
     have hq:=c1.1 e;have hl:=se6 hx hf h1 h2 h48 (show j<fs.length by omega)
     have hc:(chk (E4 x fs j++[V0 (gL tP fs j)])==0)=true:=by
      rw[beq_iff_eq,ab9] at k1 ⊢;refine⟨by rw[List.length_append];simp only[List.length_singleton];omega,λp hp=>?_⟩
      rcases Qjb.1 hp with hp|hp
      ·exact k1.2 p hp
      ·rw[Qje.1 hp];exact mf0 (hf _ (gLp hx hf h1 h2 h48 (by omega)))
     have hs:∀p∈E4 x fs j++[V0 (gL tP fs j)]++ws,p∈E4 x fs j++ws++[V0 (gL tP fs j)]:=λp hp=>by
      simp only[Qjb] at hp ⊢
      rcases hp with (h|h)|h
      ·exact .inl (.inl h)
      ·exact .inr h
      ·exact .inl (.inr h)
     have:=Z0.2 ⟨hc,y,hy.mono hs⟩
     rw[hq] at this;cases this
    exact⟨_,Zb4.2 ⟨j,by omega,rfl,hne⟩,((c2 hne).2.1 z).2 ⟨hr,by omega⟩⟩
theorem Tf2:(∀y∈Ta0 x fs fs.length,ful y=true/\(∀z,Inr (y++ws) z->Inr (x++ws) z)/\∀z,Ins (y++ws) z->Inr (fs++ws) z->False) /\
  (Ta0 x fs fs.length).Pairwise λa b=>∀z,Ins (a++ws) z->Ins (b++ws) z->False:=by
 refine⟨λy hy=>?_,?_⟩
 ·obtain⟨j,hj,rfl,hne⟩:=Zb4.1 hy;obtain⟨c1,c2,c3⟩:=(ce4 hx hf h1 h2 h48 hj).2 hne;obtain⟨k1,k2,k3⟩:=Tc9 hx hf h1 h2 h48 j (by omega)
  refine⟨c1,λz hz=>((k2 z).1 ((c2 z).1 hz).1).1,λz hz hq=>?_⟩
  have:=((c3 z).1 hz).2
  have:=hq.h _ (Qjc _ (gLp hx hf h1 h2 h48 hj))
  omega
 ·unfold Ta0;rw[List.pairwise_filter,List.pairwise_map];refine List.pairwise_lt_range.imp_of_mem λ{a b} ha hb hab p1 p2 z z1 z2=>?_
  have ha:=Qjp.1 ha;have hb:=Qjp.1 hb;have n1:Va9 x fs a≠[]:=λe=>by rw[e] at p1;simp at p1
  have n2:Va9 x fs b≠[]:=λe=>by rw[e] at p2;simp at p2
  have q1:=(((ce4 hx hf h1 h2 h48 ha).2 n1).2.2 z).1 z1;have q2:=(((ce4 hx hf h1 h2 h48 hb).2 n2).2.2 z).1 z2;have q3:=((Tc9 hx hf h1 h2 h48 b (by omega)).2.2 z).1 q2.1
  have:=q3.2 a hab
  omega
end
structure Pcs(c:PLq)(S ps:LPq):Prop where
 ful:∀y∈ps,ful y=true
 sub:∀y∈ps,∀z,Inr (y++ws) z->Inr (c++ws) z
 off:∀y∈ps,∀s∈S,Ce.ful s=true->∀z,Ins (y++ws) z->Inr (s++ws) z->False
 dis:ps.Pairwise λa b=>∀z,Ins (a++ws) z->Ins (b++ws) z->False
 cov:∀z,Inr (c++ws) z->(∃y∈ps,Inr (y++ws) z)\/∃s∈S,Ce.ful s=true/\Inr (s++ws) z
theorem Ve5{c:PLq}:Pcs c [] (if ful c then [lean c] else [])\/ful c=false:=by
 cases hf:ful c with
 |false=>exact .inr rfl
 |true =>
  refine .inl ⟨λy hy=>?_,λy hy z hz=>?_,λ_ _ s hs=>(by cases hs),?_,λz hz=>.inl ⟨lean c,by simp,(lb7 hf).2 hz⟩⟩
  ·rw[if_pos rfl] at hy;rw[Qje.1 hy];exact se5 hf
  ·rw[if_pos rfl] at hy;rw[Qje.1 hy] at hz;exact (lb7 hf).1 hz
  ·rw[if_pos rfl];exact Qjr _ _
theorem Ve6{a c:PLq}(ha:ful a=true)(hc:ful c=true)(h:apart a c=false):∃z,Ins (a++ws) z/\Ins (c++ws) z:=by
 apply Qjae;intro hn
 have:=(Va8 (Z0.1 ha).1 (Z0.1 hc).1).2 λz z1 z2=>hn ⟨z,z1,z2⟩
 rw[h] at this;cases this
theorem Bf6{q x:PLq}(hq:ful q=true)(hx:ful x=true)(h48:Ya2 q x=true) :
  (∀y∈Fa5 q x,ful y=true/\(∀z,Inr (y++ws) z->Inr (x++ws) z)/\∀z,Ins (y++ws) z->Inr (q++ws) z->False) /\
  ((Fa5 q x).Pairwise λa b=>∀z,Ins (a++ws) z->Ins (b++ws) z->False) /\
  ∀z,Inr (x++ws) z->(∃y∈Fa5 q x,Inr (y++ws) z)\/Inr (q++ws) z:=by
 unfold Fa5;cases ha:apart x q with
 |true =>
  rw[if_pos rfl];refine⟨λy hy=>?_,Qjr _ _,λz hz=>.inl ⟨x,by simp,hz⟩⟩
  rw[Qje.1 hy];refine⟨hx,λ_ h=>h,λz z1 z2=>?_⟩
  obtain⟨_,z0,h0⟩:=Z0.1 hq;obtain⟨u,hu⟩:=Tf0 z2 h0 (x++ws) z1.h;exact (Va8 (Z0.1 hx).1 (Z0.1 hq).1).1 ha u (hu.mono λp hp=>Qjd _ hp) (hu.mono λp hp=>Qjc _ hp)
 |false =>
  rw[if_neg (by decide)]
  unfold Ya2 at h48;rw[ha,Bool.false_or] at h48;obtain⟨z0,z1,z2⟩:=Ve6 hx hq ha;have hf:∀p∈lean q,okp p=true:=λp hp=>Sb3 (Z0.1 hq).1 p (Qjc _ (Zb3 hp))
  obtain⟨o1,o2⟩:=Tf2 (Z0.1 hx).1 hf z1 ((uc2 hq).2 z2) h48;refine⟨λy hy=>⟨(o1 y hy).1,(o1 y hy).2.1,λz a1 a2=>(o1 y hy).2.2 z a1 ((lb7 hq).2 a2)⟩,o2,λz hz=>?_⟩
  rcases Me1 (Z0.1 hx).1 hf z1 ((uc2 hq).2 z2) h48 _ (Nat.le_refl _) z hz with h|h
  ·exact .inl h
  ·refine .inr ((lb7 hq).1 ⟨hz.w,λp hp=>?_⟩)
   rcases Qjb.1 hp with hp|hp
   ·obtain⟨i,hi,rfl⟩:=List.getElem_of_mem hp
    have:=h i hi
    rw[show gL tP (lean q) i=(lean q)[i] by simp[gL,List.getD_eq_getElem?_getD,Qji hi]] at this
    exact this
   ·exact hz.h p (Qjd _ hp)
theorem Ee0{c:PLq}{S ps ps':LPq}{q:PLq}(h:Pcs c S ps)(hw:J4 ps q=some ps'):Pcs c (S++[q]) ps':=by
 unfold J4 at hw;cases hq:ful q with
 |false =>
  rw[hq,if_neg (by decide)] at hw
  injection hw with hw;subst hw;refine⟨h.ful,h.sub,λy hy s hs hf=>?_,h.dis,λz hz=>?_⟩
  ·rcases Qjb.1 hs with hs|hs
   ·exact h.off y hy s hs hf
   ·rw[Qje.1 hs,hq] at hf;cases hf
  ·exact (h.cov z hz).imp id λ⟨s,hs,h⟩=>⟨s,Qjc _ hs,h⟩
 |true =>
  rw[hq,if_pos rfl] at hw
  split at hw
  case isFalse=>cases hw
  rename_i hr;injection hw with hw;subst hw;rw[Qjl,Qju] at hr;have hp:=λx (hx:x∈ps)=>Bf6 hq (h.ful x hx) (hr.1 x hx)
  refine⟨λy hy=>?_,λy hy=>?_,λy hy s hs hf z z1 z2=>?_,?_,λz hz=>?_⟩
  ·obtain⟨x,hx,hy⟩:=Qjy.1 hy;exact ((hp x hx).1 y hy).1
  ·obtain⟨x,hx,hy⟩:=Qjy.1 hy;exact λz hz=>h.sub x hx z (((hp x hx).1 y hy).2.1 z hz)
  ·obtain⟨x,hx,hy⟩:=Qjy.1 hy;obtain⟨k1,k2,k3⟩:=(hp x hx).1 y hy
   rcases Qjb.1 hs with hs|hs
   ·-- Tf0 z there are inner points of the piece that are inner points of x
    have zx:Ins (x++ws) z:=by
     obtain⟨_,x0,hx0⟩:=Z0.1 (h.ful x hx);refine⟨z1.w,λp hp=>?_⟩
     have h0:=(k2 z z1.inr).h p hp;by_cases e:rmZ p z=0
     ·exfalso;obtain⟨N,hN,hi⟩:=mf2 z1 p.n;have h1:=(k2 _ hi.inr).h p hp;rw[ce3,e] at h1
      have:=Cd1 (mf1 (Sb3 (Z0.1 (h.ful x hx)).1 p hp))
      omega
     ·omega
    exact h.off x hx s hs hf z zx z2
   ·rw[Qje.1 hs] at z2;exact k3 z z1 z2
  ·rw[List.pairwise_flatMap];refine⟨λx hx=>(hp x hx).2.1,h.dis.imp_of_mem λ{a b} ha hb hab u hu v hv z z1 z2=>?_⟩
   have up:∀{x u:PLq},x∈ps->u∈Fa5 q x->Ins (u++ws) z->Ins (x++ws) z:=λ{x u} hx hu z1=>by
    obtain⟨k1,k2,k3⟩:=(hp x hx).1 u hu;refine⟨z1.w,λp hp=>?_⟩
    have h0:=(k2 z z1.inr).h p hp;by_cases e:rmZ p z=0
    ·exfalso;obtain⟨N,hN,hi⟩:=mf2 z1 p.n;have h1:=(k2 _ hi.inr).h p hp;rw[ce3,e] at h1
     have:=Cd1 (mf1 (Sb3 (Z0.1 (h.ful x hx)).1 p hp))
     omega
    ·omega
   exact hab z (up ha hu z1) (up hb hv z2)
  ·rcases h.cov z hz with⟨x,hx,hxz⟩|⟨s,hs,h'⟩
   ·rcases (hp x hx).2.2 z hxz with⟨y,hy,hyz⟩|h'
    ·exact .inl ⟨y,Qjy.2 ⟨x,hx,hy⟩,hyz⟩
    ·exact .inr ⟨q,by simp,hq,h'⟩
   ·exact .inr ⟨s,Qjc _ hs,h'⟩
theorem kc7(s:LPq):s.foldl (λst q=>st.bind λps=>J4 ps q) none=none:=by
 induction s with
 |nil=>rfl
 |cons q s ih=>exact ih
theorem Cd2{c:PLq}:∀(s S ps:LPq) (r:LPq),Pcs c S ps->s.foldl (λst q=>st.bind λps=>J4 ps q) (some ps)=some r->Pcs c (S++s) r
 |[],S,ps,r,h,e=>by injection e with e;subst e;rw[Qjaf];exact h
 |q::s,S,ps,r,h,e=>by
  have e:s.foldl (λst q=>st.bind λps=>J4 ps q) (J4 ps q)=some r:=e
  cases hw:J4 ps q with
  |none=>rw[hw,kc7] at e;cases e
  |some ps' =>
   rw[hw] at e
   have:=Cd2 s (S++[q]) ps' r (Ee0 h hw) e
   rw[List.append_assoc] at this;exact this
theorem mf3{c:PLq}{s r:LPq}(hc:ful c=true)(h:Ab3 c s=some r):Pcs c s r:=by
 have hs:Pcs c [] (if ful c then [lean c] else []):=Ve5.resolve_right (by rw[hc];decide)
 exact Cd2 s [] _ r hs h
theorem Ve7{c:PLq}{s r:LPq}(hc:ful c=true)(h:Ab3 c s=some r):r=[]↔∀z,Inr (c++ws) z->∃q∈s,ful q=true/\Inr (q++ws) z:=by
 have hp:=mf3 hc h;constructor
 ·rintro rfl z hz;exact (hp.cov z hz).resolve_left λ⟨_,hy,_⟩=>by cases hy
 ·intro hall;cases r with
  |nil=>rfl
  |cons y r =>
   exfalso;obtain⟨_,z,hz⟩:=Z0.1 (hp.ful y (by simp))
   obtain⟨q,hq,hf,hi⟩:=hall z (hp.sub y (by simp) z hz.inr)
   exact hp.off y (by simp) q hq hf z hz hi
end Go.Ev.Ce
