/- Own work. -/
import Derived.Test.YtdigbcehbdiibaaGreatDoorEvOgDN
set_option linter.all false
noncomputable section
def Qia:=@Nat.lt_irrefl
def Qib:=@Int.mul_eq_zero
def Qic:=@List.any_eq_true
def Qid:=@Int.mul_nonneg
def Qie:=@List.length_take
def Qif:=@Int.le_of_lt
def Qig:=@Bool.and_self
def Qih:=@List.drop_zero
def Qii:=@Bool.and_true
def Qij:=@Nat.beq_refl
def Qik:=@List.pairwise_cons
def Qil:=@Int.mul_le_mul_of_nonneg_right
def Qim:=@Int.mul_le_mul_of_nonneg_left
def Qin:=@List.length_drop
def Qio:=@Nat.gcd_dvd_left
def Qip:=@Nat.gcd_dvd_right
def Qiq:=@Int.zero_mul
def Qir:=@Int.mul_tdiv_cancel'
def Qis:=@Int.nonneg_of_mul_nonneg_right
def Qit:=@Nat.lt_or_gt_of_ne
def Qiu:=@Nat.dvd_trans
def Qiv:=@List.findIdx_cons
def Qiw:=@Int.eq_of_mul_eq_mul_left
def Qix:=@List.not_all_eq_any_not
def Qiy:=@List.findIdx_le_length
def Qiz:=@Nat.gcd_eq_zero_iff
namespace Go.Ev.Ce
open Go Go.Ev Go.Ev.L Go.Proofs
set_option maxRecDepth 100000
structure rb8 where
 (pb4 pb5 pb6 Ie9 c9 d9 e8:Int)
def Zc6:List (Nat×Sum):=[(100,Lb3)]
theorem Oc9:j8 prog G Zc6:=⟨dc4,trivial⟩
structure rb9 where
 bs0:Bool
def sb0{α:Type}(kk:rb9->α)(x:rb8):α:=let t1:=(V8 (⟨x.c9,x.d9,x.e8⟩:V3) (⟨x.pb4,x.pb5,x.pb6⟩:V3));(kk ⟨t1 != 0⟩)
def sb1(x:rb8):rb9:=sb0 (λr=>r) x
def Xb3(x:rb8)(r:rb9):DT (a7×List b7):=.ret (b r.bs0,[bq 0 3 [[i x.c9,i x.d9,i x.e8]]])
def ic3:Sum:=Aa7 ⟨[.agg (kLq 4),sPq 0],[⟨0,3,true,some [kLq 3]⟩],λa H=>(⟨cIq a 0 0,cIq a 0 1,cIq a 0 2,cIq a 0 3,hIq H 0 0 0,hIq H 0 0 1,hIq H 0 0 2⟩,())⟩ (λx=>Xb3 x (sb1 x))
theorem Zc7:e7 prog G 115 ic3:=s8 (enc:=λx=>⟨[.agg [i x.pb4,i x.pb5,i x.pb6,i x.Ie9],.ptr 0 0 0 0],[bq 0 3 [[i x.c9,i x.d9,i x.e8]]]⟩) (λa H=>by kernel_rfl) (bd Yf1 Oc9) λx=>ka3 (mEq @sb0 (λr=>(Xb3 x r).run) x)
structure oa4 where
 q8:PLq
 (c9 d9 e8:Int)
def La5:List (Nat×Sum):=[(115,ic3)]
theorem xb4:j8 prog G La5:=⟨Zc7,trivial⟩
structure J1 where
 q8:PLq
 (is7 c9 d9 e8:Int)
def Da8(p:J1)(s:fa7):St:=⟨eL tP p.q8::.fn 115 [.ptr 0 0 0 0]::ra 5 (i p.is7::i s.is8::ra 10 []),[bq 0 3 [[i p.c9,i p.d9,i p.e8]]]⟩
def N9{α:Type}(k:fa7->α)(e:Nat->α)(z:α)(p:J1)(s:fa7):α:=let y0:=(gL tP p.q8 s.is8.toNat);let t1:=(sb1 ⟨y0.n.x,y0.n.y,y0.n.z,y0.b,p.c9,p.d9,p.e8⟩);(sl (decide (s.is8<p.is7)) (sl (inB s.is8 (List.length p.q8)) (sl t1.bs0 (e 1) (k ⟨W (s.is8+1)⟩)) z) (e 2))
def F7(p:J1)(s:fa7):Stp fa7:=N9 .next .exit .fail p s
def ga2:Lo J1 fa7:=⟨En La5,1,Df0,[1,0,1,4,4],[0,1,7,8],.p,[⟨sLq tP::.fn 115 [.o (.ptr 0 0 0 0)]::ru2 5 (sIq::sIq::ru2 10 []),[⟨0,3,true,some [kLq 3]⟩],λa H=>(⟨aLq tP a 0,aIq a 7,hIq H 0 0 0,hIq H 0 0 1,hIq H 0 0 2⟩,⟨aIq a 8⟩)⟩],F7,[(none,λp s=>⟨[i s.is8],[bq 0 3 [[i p.c9,i p.d9,i p.e8]]]⟩),(some 0,λp s=>upq (Da8 p s) [(9,b (decide (s.is8<p.is7)))])],Da8⟩
theorem sb2:ga2.Ok:=Lo.okq [] .nil λp s=>(.ofq @N9)
def oa6{α:Type}(kk:wa7->α)(x:oa4):α:=let t1:=(lp (F7 (⟨rt tP x.q8,(↑(List.length x.q8):Int),x.c9,x.d9,x.e8⟩:J1)) (⟨0⟩:fa7));(sl ((cnE tP x.q8)&&true) (sl (Nat.beq t1.1 1) (kk ⟨1,t1.2.is8⟩) (sl (Nat.beq t1.1 2) (kk ⟨1,-1⟩) (kk ⟨0,0⟩))) (kk ⟨0,0⟩))
def X0(x:oa4):wa7:=oa6 (λr=>r) x
def La6(x:oa4)(r:wa7):DT (a7×List b7):=(Da1 r.alt 1 (i r.is0,[bq 0 3 [[i x.c9,i x.d9,i x.e8]]]) .fail)
def Qa4:Sum:=Aa7 ⟨[sLq tP,.fn 115 [.o (.ptr 0 0 0 0)]],[⟨0,3,true,some [kLq 3]⟩],λa H=>(⟨aLq tP a 0,hIq H 0 0 0,hIq H 0 0 1,hIq H 0 0 2⟩,())⟩ (λx=>La6 x (X0 x))
theorem Db2:e7 prog G 98 Qa4:=s8 (enc:=λx=>⟨[eL tP x.q8,.fn 115 [.ptr 0 0 0 0]],[bq 0 3 [[i x.c9,i x.d9,i x.e8]]]⟩) (λa H=>by kernel_rfl) (bd b98 xb4) λx=>O4 (.s .p (.s (.s .p (.b (.u ga2.ls))) .p)) [ga2.pr] (.cons sb2 .nil) (mEq @oa6 (λr=>(La6 x r).run) x)
def nb7:List (Nat×Sum):=[(98,Qa4)]
theorem jb9:j8 prog G nb7:=⟨Db2,trivial⟩
def ea9{α:Type}(kk:Pb9->α)(x:oa4):α:=let t1:=(X0 ⟨rt tP x.q8,x.c9,x.d9,x.e8⟩);(sl ((cnE tP x.q8)&&true) (sl (Nat.beq t1.alt 1) (kk ⟨1,decide (t1.is0>=0)⟩) (kk ⟨0,false⟩)) (kk ⟨0,false⟩))
def P2(x:oa4):Pb9:=ea9 (λr=>r) x
def Aa9(x:oa4)(r:Pb9):DT (a7×List b7):=(Da1 r.alt 1 (b r.bs0,[bq 0 3 [[i x.c9,i x.d9,i x.e8]]]) .fail)
def Da9:Sum:=Aa7 ⟨[sLq tP,.fn 115 [.o (.ptr 0 0 0 0)]],[⟨0,3,true,some [kLq 3]⟩],λa H=>(⟨aLq tP a 0,hIq H 0 0 0,hIq H 0 0 1,hIq H 0 0 2⟩,())⟩ (λx=>Aa9 x (P2 x))
theorem nb8:e7 prog G 63 Da9:=s8 (enc:=λx=>⟨[eL tP x.q8,.fn 115 [.ptr 0 0 0 0]],[bq 0 3 [[i x.c9,i x.d9,i x.e8]]]⟩) (λa H=>by kernel_rfl) (bd b63 jb9) λx=>ka3 (mEq @ea9 (λr=>(Aa9 x r).run) x)
def Db3:List (Nat×Sum):=[(114,Ob7),(63,Da9)]
theorem ld9:j8 prog G Db3:=⟨oc8,nb8,trivial⟩
structure Ea0 where
 (q8 jd2:PLq)
 (is9 m9:Int)
 Sf3:Nat
 Sf4:Nat->List a7
 (Jf2 c9 d9 e8 m0:Int)
structure W0 where
 Be0:Int
def Xb4(p:Ea0)(s:W0):St:=⟨eL tP p.q8::ra 3 (.ptr 0 0 0 0::ra 3 (eL tP p.jd2::i p.is9::i p.m9::ra 6 (.tree 4 p.Sf3 p.Sf4::i p.Jf2::i s.Be0::ra 18 []))),[bq 0 4 [[i p.c9,i p.d9,i p.e8,i p.m0]]]⟩
def Ha5{α:Type}(k:W0->α)(e:Nat->α)(z:α)(p:Ea0)(s:W0):α:=let y0:=(p.Sf4 s.Be0.toNat);let t1:=(ha8 (⟨p.c9,p.d9,p.e8⟩:V3) (⟨toI (hdA y0),toI (hdA (tlA y0)),toI (hdA (tlA (tlA y0)))⟩:V3));let t2:=(P2 ⟨rt tP p.q8,t1.x,t1.y,t1.z⟩);(sl (decide (s.Be0<p.Jf2)) (sl (inB s.Be0 p.Sf3) (sl ((Nat.ble 4 (len y0))&&(bb3 [CK.int .i64,CK.int .i64,CK.int .i64,CK.int .i64] y0)) (sl (!((t1.x==0)&&((t1.y==0)&&((t1.z==0)&&true)))) (sl ((cnE tP p.q8)&&true) (sl (Nat.beq t2.alt 1) (sl t2.bs0 (e 1) (k ⟨W (s.Be0+1)⟩)) z) z) (k ⟨W (s.Be0+1)⟩)) z) z) (e 2))
def ja3(p:Ea0)(s:W0):Stp W0:=Ha5 .next .exit .fail p s
def sb3:Lo Ea0 W0:=⟨En Db3,0,Cf8,[1,0,1,4,4,1,1,0,4,1,1,4,4],[0,4,8,9,10,17,18,19],.p,[⟨sLq tP::ru2 3 (sPq 0::ru2 3 (sLq tP::sIq::sIq::ru2 6 (sTq 4::sIq::sIq::ru2 18 []))),[⟨0,4,true,some [kLq 4]⟩],λa H=>(⟨aLq tP a 0,aLq tP a 8,aIq a 9,aIq a 10,aNq a 17,aGq a 17,aIq a 18,hIq H 0 0 0,hIq H 0 0 1,hIq H 0 0 2,hIq H 0 0 3⟩,⟨aIq a 19⟩)⟩],ja3,[(none,λp s=>⟨[b true],[]⟩),(some 2,λp s=>upq (Xb4 p s) [(20,b (decide (s.Be0<p.Jf2)))])],Xb4⟩
theorem Zc8:sb3.Ok:=Lo.okq [] .nil λp s=>(.ofq @Ha5)
structure W4 where
 (q8 jd2:PLq)
 m9:Int
def Xb5(p:L9)(s:W4):St:=⟨eL tP s.q8::ra 7 (eL tP s.jd2::i p.is9::i s.m9::ra 27 []),[]⟩
def Ha6{α:Type}(k:W4->α)(e:Nat->α)(z:α)(p:L9)(s:W4):α:=let y0:=(gL tP s.jd2 s.m9.toNat);let t1:=(lp (ja3 (⟨rt tP s.q8,rt tP s.jd2,p.is9,s.m9,s.m9.toNat-0,(λk=>(λk=>(tP).row (gL tP s.q8 k)) (0+k)),(↑(s.m9.toNat-0):Int),y0.n.x,y0.n.y,y0.n.z,y0.b⟩:Ea0)) (⟨0⟩:W0));(sl (decide (s.m9<p.is9)) (sl (inB s.m9 (List.length s.jd2)) (sl (inB s.m9 ((List.length s.q8)+1)) (sl ((cnE tP s.q8)&&((cnE tP s.jd2)&&true)) (sl (Nat.beq t1.1 1) (e 1) (sl (Nat.beq t1.1 2) (k ⟨rt tP s.q8,rt tP s.jd2,W (s.m9+1)⟩) z)) z) z) z) (e 2))
def ja4(p:L9)(s:W4):Stp W4:=Ha6 .next .exit .fail p s
def sb4:Lo L9 W4:=⟨En Db3,0,Cf8,[1,0,1,4,4],[0,8,9,10],.s .p (.s .p (.s (.b (.s .p (.s .p (.b (.u sb3.ls))))) .p)),[⟨sLq tP::ru2 7 (sLq tP::sIq::sIq::ru2 27 []),[],λa H=>(⟨aIq a 9⟩,⟨aLq tP a 0,aLq tP a 8,aIq a 10⟩)⟩],ja4,[(none,λp s=>⟨[b true],[]⟩),(some 0,λp s=>upq (Xb5 p s) [(11,b (decide (s.m9<p.is9)))])],Xb5⟩
theorem Zc9:sb4.Ok:=Lo.okq [sb3.pr] (.cons Zc8 .nil) λp s=>(.ofq @Ha6)
def Ta3(x:PLq):ROq:=let t1:=(lp (ja4 (⟨(↑(List.length x):Int)⟩:L9)) (⟨rt tP x,rt tP x,0⟩:W4));(sl ((cnE tP x)&&((cnE tP x)&&true)) (sl (Nat.beq t1.1 1) (some (b true,[])) (sl (Nat.beq t1.1 2) (some (b false,[])) none)) none)
def Fa6(x:PLq):Bool:=G5 (one r1B) (Ta3 x)
def Fa7(x:PLq):Bool:=okO (one r1B) (Ta3 x)
def Bc7:Sum:=G4 (Oa4 tP) (λx=>.guard (Fa7 x) (.ret ((one r1B).enc (Fa6 x),[])))
theorem Dd8:e7 prog G 82 Bc7:=kc5 (bd b82 ld9) (one r1B) (o:=Ta3) λx=>O4 (.s .p (.s (.s .p (.b (.u sb4.ls))) .p)) [sb4.pr] (.cons Zc9 .nil)
structure kb0 where
 (pb4 pb5 pb6:Int)
 Y3:PLq
def Mb1:List (Nat×Sum):=[(65,db8),(82,Bc7)]
theorem Hc9:j8 prog G Mb1:=⟨lb4,Dd8,trivial⟩
structure K2 where
 Ud6:PLq
 is8:Int
 Y3:PLq
 (Z7 gc0 gc1:Int)
structure l5 where
 ph:Nat
 is9:Int
 ns4:Nat
 eh2:List (List a7)
def nb9(p:K2)(s:l5):St:=⟨.unk::.unk::.ptr 1 0 0 0::.unk::nlq::.unk::.unk::eL tP p.Ud6::i p.is8::i s.is9::ra 15 [],[bq 0 1 [[eL tP p.Y3]],bq 0 3 [[i p.Z7,i p.gc0,i p.gc1]]]⟩
def ob0(p:K2)(s:l5):St:=⟨.unk::.unk::.ptr 1 0 0 0::.unk::.sl 2 0 s.ns4 0::.unk::.unk::eL tP p.Ud6::i p.is8::i s.is9::ra 15 [],[bq 0 1 [[eL tP p.Y3]],bq 0 3 [[i p.Z7,i p.gc0,i p.gc1]],bq 57 4 s.eh2]⟩
def yc8(p:K2)(s:l5):St:=(sel (Nat.beq s.ph 1) (ob0 p s) (nb9 p s))
def Q3{α:Type}(k:l5->α)(e:Nat->α)(z:α)(p:K2)(s:l5):α:=let y1:=(⟨p.Z7,p.gc0,p.gc1⟩:V3);let y0:=(gL tP p.Ud6 s.is9.toNat);let t1:=(sa0 y0 y1);(sl (decide (s.is9<p.is8)) (sl (inB s.is9 (List.length p.Ud6)) (sl (sa1 y0 y1) (sl (t1==0) (k ⟨1,W (s.is9+1),1,[[i y0.n.x,i y0.n.y,i y0.n.z,i y0.b]]⟩) (k ⟨0,W (s.is9+1),0,[]⟩)) z) z) (e 1))
def Q4{α:Type}(k:l5->α)(e:Nat->α)(z:α)(p:K2)(s:l5):α:=let y1:=(⟨p.Z7,p.gc0,p.gc1⟩:V3);let y0:=(gL tP p.Ud6 s.is9.toNat);let t1:=(sa0 y0 y1);(sl (decide (s.is9<p.is8)) (sl (inB s.is9 (List.length p.Ud6)) (sl (sa1 y0 y1) (sl (t1==0) (sl (Nat.beq s.ns4 (len s.eh2)&&Nat.ble ((s.ns4+1)*32) room) (k ⟨1,W (s.is9+1),s.ns4+1,app s.eh2 [[i y0.n.x,i y0.n.y,i y0.n.z,i y0.b]]⟩) z) (k ⟨1,W (s.is9+1),s.ns4,s.eh2⟩)) z) z) (e 2))
def va2(p:K2)(s:l5):Stp l5:=(sel (Nat.beq s.ph 1) (Q4 .next .exit .fail p s) (Q3 .next .exit .fail p s))
def Za0:Lo K2 l5:=⟨En Mb1,1,Mf4,[1,1,0,1,4,4],[2,4,7,8,9],.p,[⟨sUq::sUq::sPq 1::sUq::.s (.o .nil)::sUq::sUq::sLq tP::sIq::sIq::ru2 15 [],[⟨0,1,true,some [[.c 4 (nL tP)]]⟩,⟨0,3,true,some [kLq 3]⟩],λa H=>(⟨aLq tP a 7,aIq a 8,hLq tP H 0 0 0,hIq H 1 0 0,hIq H 1 0 1,hIq H 1 0 2⟩,⟨0,aIq a 9,0,[]⟩)⟩,⟨sUq::sUq::sPq 1::sUq::.s (.o (.sl 2 0 (some 0) none))::sUq::sUq::sLq tP::sIq::sIq::ru2 15 [],[⟨0,1,true,some [[.c 4 (nL tP)]]⟩,⟨0,3,true,some [kLq 3]⟩,⟨57,4,true,none⟩],λa H=>(⟨aLq tP a 7,aIq a 8,hLq tP H 0 0 0,hIq H 1 0 0,hIq H 1 0 1,hIq H 1 0 2⟩,⟨1,aIq a 9,slN (slT a 4),elT H 2⟩)⟩],va2,[(some 0,λp s=>upq (nb9 p s) [(10,b (decide (s.is9<p.is8)))]),(some 0,λp s=>upq (ob0 p s) [(10,b (decide (s.is9<p.is8)))])],yc8⟩
theorem yc9:Za0.Ok:=Lo.okq [] .nil λp s=>(.sel (Nat.beq s.ph 1) (.ofq @Q4) (.ofq @Q3))
structure kb1 where
 alt:Nat
 bs0:Bool
 Y3:PLq
def kb2{α:Type}(kk:kb1->α)(x:kb0):α:=let y0:=(rt tP x.Y3);let t1:=(lp (va2 (⟨y0,(↑(List.length x.Y3):Int),y0,x.pb4,x.pb5,x.pb6⟩:K2)) (⟨0,0,0,[]⟩:l5));let t2:=(Fa6 []);let t3:=(Fa6 (slR tP t1.2.eh2 0 t1.2.ns4));(sl ((cnE tP x.Y3)&&((cnE tP x.Y3)&&true)) (sl (Nat.beq t1.1 1) (sl (Fa7 []) (kk ⟨1,!t2,y0⟩) (kk ⟨0,false,[]⟩)) (sl (Nat.beq t1.1 2) (sl (okS tP t1.2.eh2 0 t1.2.ns4) (sl (Fa7 (slR tP t1.2.eh2 0 t1.2.ns4)) (kk ⟨1,!t3,y0⟩) (kk ⟨0,false,[]⟩)) (kk ⟨0,false,[]⟩)) (kk ⟨0,false,[]⟩))) (kk ⟨0,false,[]⟩))
def Y2(x:kb0):kb1:=kb2 (λr=>r) x
def Mb2(x:kb0)(r:kb1):DT (a7×List b7):=(Da1 r.alt 1 (b r.bs0,[bq 0 1 [[eL tP r.Y3]]]) .fail)
def kb3:Sum:=Aa7 ⟨[.agg (kLq 3),sPq 0],[⟨0,1,true,some [[.c 4 (nL tP)]]⟩],λa H=>(⟨cIq a 0 0,cIq a 0 1,cIq a 0 2,hLq tP H 0 0 0⟩,())⟩ (λx=>Mb2 x (Y2 x))
theorem Mb3:e7 prog G 81 kb3:=s8 (enc:=λx=>⟨[.agg [i x.pb4,i x.pb5,i x.pb6],.ptr 0 0 0 0],[bq 0 1 [[eL tP x.Y3]]]⟩) (λa H=>by kernel_rfl) (bd b81 Hc9) λx=>O4 (.s .p (.s .p (.s (.s .p (.b (.u Za0.ls))) .p))) [Za0.pr] (.cons yc9 .nil) (mEq @kb2 (λr=>(Mb2 x r).run) x)
structure xa7 where
 ns0:Nat
 eh0:List (List a7)
 C3:PLq
def Ta4:List (Nat×Sum):=[(81,kb3)]
theorem Ib1:j8 prog G Ta4:=⟨Mb3,trivial⟩
structure M4 where
 ns0:Nat
 is7:Int
 eh0:List (List a7)
structure o1 where
 is8:Int
 C3:PLq
def La7(p:M4)(s:o1):St:=⟨.sl 0 0 p.ns0 0::.fn 81 [.ptr 1 0 0 0]::ra 5 (i p.is7::i s.is8::ra 10 []),[bq 52 3 p.eh0,bq 0 1 [[eL tP s.C3]]]⟩
def R6{α:Type}(k:o1->α)(e:Nat->α)(z:α)(p:M4)(s:o1):α:=let y0:=(rdR tV p.eh0 (0+s.is8.toNat));let t1:=(Y2 ⟨y0.x,y0.y,y0.z,rt tP s.C3⟩);(sl (decide (s.is8<p.is7)) (sl (inB s.is8 p.ns0) (sl (ldR tV p.eh0 (0+s.is8.toNat)) (sl ((cnE tP s.C3)&&true) (sl (Nat.beq t1.alt 1) (sl t1.bs0 (e 1) (k ⟨W (s.is8+1),t1.Y3⟩)) z) z) z) z) (e 2))
def K3(p:M4)(s:o1):Stp o1:=R6 .next .exit .fail p s
def oa7:Lo M4 o1:=⟨En Ta4,2,gd7,[1,0,1,4,4],[0,1,7,8],.p,[⟨.s (.o (.sl 0 0 (some 0) none))::.fn 81 [.o (.ptr 1 0 0 0)]::ru2 5 (sIq::sIq::ru2 10 []),[⟨52,3,true,none⟩,⟨0,1,true,some [[.c 4 (nL tP)]]⟩],λa H=>(⟨slN (slT a 0),aIq a 7,elT H 0⟩,⟨aIq a 8,hLq tP H 1 0 0⟩)⟩],K3,[(none,λp s=>let t1:=(Y2 ⟨(rdR tV p.eh0 (0+s.is8.toNat)).x,(rdR tV p.eh0 (0+s.is8.toNat)).y,(rdR tV p.eh0 (0+s.is8.toNat)).z,rt tP s.C3⟩);⟨[i s.is8],[bq 52 3 p.eh0,bq 0 1 [[eL tP t1.Y3]]]⟩),(some 0,λp s=>upq (La7 p s) [(9,b (decide (s.is8<p.is7)))])],La7⟩
theorem Db4:oa7.Ok:=Lo.okq [] .nil λp s=>(.ofq @R6)
structure xa8 where
 alt:Nat
 is0:Int
 C3:PLq
def xa9{α:Type}(kk:xa8->α)(x:xa7):α:=let t1:=(lp (K3 (⟨x.ns0,(↑x.ns0:Int),x.eh0⟩:M4)) (⟨0,rt tP x.C3⟩:o1));let y0:=(rdR tV x.eh0 (0+t1.2.is8.toNat));let t2:=(Y2 ⟨y0.x,y0.y,y0.z,rt tP t1.2.C3⟩);(sl ((cnE tP x.C3)&&true) (sl (Nat.beq t1.1 1) (kk ⟨1,t1.2.is8,t2.Y3⟩) (sl (Nat.beq t1.1 2) (kk ⟨1,-1,t1.2.C3⟩) (kk ⟨0,0,[]⟩))) (kk ⟨0,0,[]⟩))
def ca4(x:xa7):xa8:=xa9 (λr=>r) x
def Ta5(x:xa7)(r:xa8):DT (a7×List b7):=(Da1 r.alt 1 (i r.is0,[bq 52 3 x.eh0,bq 0 1 [[eL tP r.C3]]]) .fail)
def ab1:Sum:=Aa7 ⟨[.s (.o (.sl 0 0 (some 0) none)),.fn 81 [.o (.ptr 1 0 0 0)]],[⟨52,3,true,none⟩,⟨0,1,true,some [[.c 4 (nL tP)]]⟩],λa H=>(⟨slN (slT a 0),elT H 0,hLq tP H 1 0 0⟩,())⟩ (λx=>Ta5 x (ca4 x))
theorem Qb7:e7 prog G 109 ab1:=s8 (enc:=λx=>⟨[.sl 0 0 x.ns0 0,.fn 81 [.ptr 1 0 0 0]],[bq 52 3 x.eh0,bq 0 1 [[eL tP x.C3]]]⟩) (λa H=>by kernel_rfl) (bd xe9 Ib1) λx=>O4 (.s .p (.s (.s .p (.b (.u oa7.ls))) .p)) [oa7.pr] (.cons Db4 .nil) (mEq @xa9 (λr=>(Ta5 x r).run) x)
def Ta6:List (Nat×Sum):=[(109,ab1),(81,kb3)]
theorem Ib2:j8 prog G Ta6:=⟨Qb7,Mb3,trivial⟩
structure M5 where
 ns0:Nat
structure r9 where
 (is5 is6:Int)
 eh0:List (List a7)
 C3:PLq
def La8(p:M5)(s:r9):St:=⟨.sl 0 0 p.ns0 0::.fn 81 [.ptr 1 0 0 0]::ra 3 (i s.is5::i s.is6::ra 35 []),[bq 52 3 s.eh0,bq 0 1 [[eL tP s.C3]]]⟩
def R7{α:Type}(k:r9->α)(e:Nat->α)(z:α)(p:M5)(s:r9):α:=let y0:=(rdR tV s.eh0 (0+s.is6.toNat));let t1:=(Y2 ⟨y0.x,y0.y,y0.z,rt tP s.C3⟩);(sl (decide (s.is6<(↑p.ns0:Int))) (sl (inB s.is6 p.ns0) (sl (ldR tV s.eh0 (0+s.is6.toNat)) (sl ((cnE tP s.C3)&&true) (sl (Nat.beq t1.alt 1) (sl (!t1.bs0) (sl (inB s.is5 p.ns0) (sl ((Nat.blt (0+s.is5.toNat) (len s.eh0))&&(Nat.ble (0+3) (len (j9 s.eh0 (0+s.is5.toNat))))) (k ⟨W (s.is5+1),W (s.is6+1),setAt s.eh0 (0+s.is5.toNat) (va3 (j9 s.eh0 (0+s.is5.toNat)) 0 [i y0.x,i y0.y,i y0.z]),t1.Y3⟩) z) z) (k ⟨s.is5,W (s.is6+1),s.eh0,t1.Y3⟩)) z) z) z) z) (e 1))
def D9(p:M5)(s:r9):Stp r9:=R7 .next .exit .fail p s
def oa8:Lo M5 r9:=⟨En Ta6,2,Mf5,[1,1,1,0,1,4,4],[0,1,5,6],.p,[⟨.s (.o (.sl 0 0 (some 0) none))::.fn 81 [.o (.ptr 1 0 0 0)]::ru2 3 (sIq::sIq::ru2 35 []),[⟨52,3,true,none⟩,⟨0,1,true,some [[.c 4 (nL tP)]]⟩],λa H=>(⟨slN (slT a 0)⟩,⟨aIq a 5,aIq a 6,elT H 0,hLq tP H 1 0 0⟩)⟩],D9,[(some 0,λp s=>upq (La8 p s) [(16,i s.is6),(17,.sl 0 0 p.ns0 0),(18,i (↑p.ns0:Int)),(19,b (decide (s.is6<(↑p.ns0:Int))))])],La8⟩
theorem Db5:oa8.Ok:=Lo.okq [] .nil λp s=>(.ofq @R7)
structure ya1 where
 (alt ns0:Nat)
 eh0:List (List a7)
 C3:PLq
def ya2{α:Type}(kk:ya1->α)(x:xa7):α:=let t1:=(ca4 ⟨x.ns0,x.eh0,rt tP x.C3⟩);let t2:=(lp (D9 (⟨x.ns0⟩:M5)) (⟨t1.is0,W (t1.is0+1),x.eh0,rt tP t1.C3⟩:r9));(sl ((cnE tP x.C3)&&true) (sl (Nat.beq t1.alt 1) (sl (t1.is0==(-1)) (kk ⟨1,x.ns0,x.eh0,t1.C3⟩) (sl ((cnE tP t1.C3)&&true) (sl (Nat.beq t2.1 1) (sl (inB t2.2.is5 (x.ns0+1)) (sl (inB t2.2.is5 (x.ns0+1)) (kk ⟨1,t2.2.is5.toNat-0,app (E7 t2.2.eh0 (0+t2.2.is5.toNat)) (app (List.replicate (x.ns0-t2.2.is5.toNat) [i 0,i 0,i 0]) (i9 t2.2.eh0 ((0+t2.2.is5.toNat)+(x.ns0-t2.2.is5.toNat)))),t2.2.C3⟩) (kk ⟨0,0,[],[]⟩)) (kk ⟨0,0,[],[]⟩)) (kk ⟨0,0,[],[]⟩)) (kk ⟨0,0,[],[]⟩))) (kk ⟨0,0,[],[]⟩)) (kk ⟨0,0,[],[]⟩))
def ca5(x:xa7):ya1:=ya2 (λr=>r) x
def Ta7(x:xa7)(r:ya1):DT (a7×List b7):=(Da1 r.alt 1 (.sl 0 0 r.ns0 0,[bq 52 3 r.eh0,bq 0 1 [[eL tP r.C3]]]) .fail)
def ab2:Sum:=Aa7 ⟨[.s (.o (.sl 0 0 (some 0) none)),.fn 81 [.o (.ptr 1 0 0 0)]],[⟨52,3,true,none⟩,⟨0,1,true,some [[.c 4 (nL tP)]]⟩],λa H=>(⟨slN (slT a 0),elT H 0,hLq tP H 1 0 0⟩,())⟩ (λx=>Ta7 x (ca5 x))
theorem Qb8:e7 prog G 83 ab2:=s8 (enc:=λx=>⟨[.sl 0 0 x.ns0 0,.fn 81 [.ptr 1 0 0 0]],[bq 52 3 x.eh0,bq 0 1 [[eL tP x.C3]]]⟩) (λa H=>by kernel_rfl) (bd b83 Ib2) λx=>O4 (.s .p (.s .p (.s .p (.s (.s .p (.b (.u oa8.ls))) .p)))) [oa8.pr] (.cons Db5 .nil) (mEq @ya2 (λr=>(Ta7 x r).run) x)
def Pc0:List (Nat×Sum):=[(47,Ya9),(87,Ga8),(89,La4)]
theorem Ic0:j8 prog G Pc0:=⟨vb0,eb7,hb6,trivial⟩
def kb5{α:Type}(kk:Ya7->α)(x:V3×List V3):α:=let t1:=(la7 (hC tV (λk=>(tV).row (gL tV (x.1::x.2) k)),tC tV (List.length x.2) (λk=>(tV).row (gL tV (x.1::x.2) k))));let t2:=(Q1 ⟨t1.ns0,app (bL tV (ic1 (slR tV t1.eh0 0 t1.ns0))) (i9 t1.eh0 t1.ns0)⟩);(sl (okL tV (List.length x.2+1) (λk=>(tV).row (gL tV (x.1::x.2) k))) (sl (Nat.beq t1.alt 1) (sl (Bool.and (Nat.ble t1.ns0 room) (Bool.and (Nat.ble t1.ns0 (len t1.eh0)) (okS tV t1.eh0 0 t1.ns0))) (sl (Nat.beq t2.alt 1) (kk ⟨1,t2.ns0,t2.eh0⟩) (kk ⟨0,0,[]⟩)) (kk ⟨0,0,[]⟩)) (kk ⟨0,0,[]⟩)) (kk ⟨0,0,[]⟩))
def Pa0(x:V3×List V3):Ya7:=kb5 (λr=>r) x
def Mb4(r:Ya7):DT (a7×List b7):=(Da1 r.alt 1 (.sl 0 0 r.ns0 0,[bq 52 3 r.eh0]) .fail)
def ya3:Sum:=G4 (ie7 tV) (λx=>Mb4 (Pa0 x))
theorem Ha7:e7 prog G 57 ya3:=vc9 (bd b57 Ic0) λx=>ka3 (mEq @kb5 (λr=>(Mb4 r).run) x)
def md0:List (Nat×Sum):=[(24,Oc8),(57,ya3),(83,ab2)]
theorem ad1:j8 prog G md0:=⟨Bc6,Ha7,Qb8,trivial⟩
def La9(x:V3×List V3):ROq:=let t1:=(xb2 (hC tV (λk=>(tV).row (gL tV (x.1::x.2) k)),tC tV (List.length x.2) (λk=>(tV).row (gL tV (x.1::x.2) k))));let t2:=(Pa0 (hC tV (λk=>(tV).row (gL tV (x.1::x.2) k)),tC tV (List.length x.2) (λk=>(tV).row (gL tV (x.1::x.2) k))));let t3:=(ca5 ⟨t2.ns0,t2.eh0,rt tP t1.1⟩);(sl (okL tV (List.length x.2+1) (λk=>(tV).row (gL tV (x.1::x.2) k))) (sl (xb3 (hC tV (λk=>(tV).row (gL tV (x.1::x.2) k)),tC tV (List.length x.2) (λk=>(tV).row (gL tV (x.1::x.2) k)))) (sl (t1.2 != 0) (some (.tup [nlq,i t1.2],[])) (sl (okL tV (List.length x.2+1) (λk=>(tV).row (gL tV (x.1::x.2) k))) (sl (Nat.beq t2.alt 1) (sl ((cnE tP t1.1)&&true) (sl (Nat.beq t3.alt 1) (some (.tup [.sl 0 0 t3.ns0 0,i 0],[bq 52 3 t3.eh0])) none) none) none) none)) none) none)
def qc6(x:V3×List V3):List V3×Int:=G5 (two (r1L tV) r1I) (La9 x)
def qc7(x:V3×List V3):Bool:=okO (two (r1L tV) r1I) (La9 x)
def Dd9:Sum:=G4 (ie7 tV) (λx=>.guard (qc7 x) (.ret ((two (r1L tV) r1I).enc (qc6 x),[])))
theorem md1:e7 prog G 53 Dd9:=Ja2 (bd b53 ad1) (two (r1L tV) r1I) (o:=La9)
end Go.Ev.Ce
namespace Go.Ev.L
open Go Go.Ev
def Df9:Cod Unit where
 enc _:=.v (.slice none 0 0)
 dec x:=match x with
  |.v (.slice none 0 0)=>some ()
  |_=>none
 grd _:=true
 ok x a hx _:=by
  split at hx
  ·exact .refl _
  ·cases hx
def cE0:Cod (Addr×Nat) where
 enc z:=.v (.slice (some z.1) 0 z.2)
 dec x:=match x with
  |.v (.slice (some a) 0 c)=>some (a,c)
  |_=>none
 grd _:=true
 ok x a hx _:=by
  split at hx
  ·cases hx;exact .refl _
  ·cases hx
section
variable{α:Type}{t:Ty α}{P:Program}{G:Nat->List Value}{f:FuncId}
theorem wc7{β:Type}{c:Cod β}{k k':β->DT (a7×List b7)}(h:e7 P G f (G4 c k))(hk:∀a r,(k' a).run=some r->(k a).run=some r):e7 P G f (G4 c k'):=h.le λargs blks r hr=>by
 unfold G4 at hr ⊢
 split at hr
 ·obtain⟨a,h1,hr⟩:=ra3 hr;obtain⟨g,hr⟩:=DT.run_guard_some hr;simp only[h1,onO,g];exact hk a r hr
 ·cases hr
theorem af6{k:List α->DT (a7×List b7)}(hA:e7 P G f (G4 (ie7 t) λz=>k (z.1::z.2)))(hN:e7 P G f (G4 Df9 λ_=>k []))(hE:e7 P G f (G4 cE0 λ_=>k [])):e7 P G f (G4 (Oa4 t) k):=by
 intro args blks r out he W ρ F w args' hH hlen hargs hG;unfold G4 at he
 split at he
 ·rename_i x;obtain⟨a,h1,he⟩:=ra3 he;obtain⟨g1,hk⟩:=DT.run_guard_some he;have nilCase:∀v',args'[0]?=some v'->v'=.slice none 0 0->a=[]->Ab8 P f/\Calls P f args'.toArray w λe w'=>∃r',e=.returned r'/\J8 W ρ [] F w r out r' w':=λv' hv e ha=>by
   subst ha;refine hN [.v (.slice none 0 0)] [] r out ?_ W ρ F w args' hH hlen (λi x' y' hx hy=>?_) hG
   ·exact hk
   ·match i with
    |0=>cases hx;rw[hv] at hy;cases hy;rw[e];exact .val (.cell (.v _))
    |i+1=>cases hx
  have emptyCase:∀v' ad c,args'[0]?=some v'->v'=.slice (some ad) 0 c->a=[]->Ab8 P f/\Calls P f args'.toArray w λe w'=>∃r',e=.returned r'/\J8 W ρ [] F w r out r' w':=λv' ad c hv e ha=>by
   subst ha;refine hE [.v (.slice (some ad) 0 c)] [] r out ?_ W ρ F w args' hH hlen (λi x' y' hx hy=>?_) hG
   ·exact hk
   ·match i with
    |0=>cases hx;rw[hv] at hy;cases hy;rw[e];exact .val (.cell (.v _))
    |i+1=>cases hx
  obtain⟨v',hv⟩:∃v',args'[0]?=some v':=by
   cases args' with
   |nil=>simp at hlen
   |cons v' r'=>exact⟨v',rfl⟩
  cases x with
  |tree e n get =>
   have hb:Nat.beq e t.es=true/\a=lsL t n get:=by
    have h1:(Bool.rec none (some (lsL t n get)) (Nat.beq e t.es):Option (List α))=some a:=h1;cases hb:Nat.beq e t.es with
    |false=>rw[hb] at h1;cases h1
    |true =>
     simp_all
   cases n with
   |zero =>
    have ha:a=[]:=hb.2;have hm:=va6 (hargs 0 _ v' rfl hv);cases hm with
    |tree _ _ _ ad cap cs hs hcap hes hF hw hr=>exact emptyCase _ ad cap hv rfl ha
    |nil=>exact nilCase _ hv rfl ha
   |succ m =>
    have ha:a=hC t get::tC t m get:=hb.2.trans (ie6 t m get);subst ha;refine hA [.tree e (m+1) get] [] r out ?_ W ρ F w args' hH hlen hargs hG;have hc:(ie7 t).dec (.tree e (m+1) get)=some (hC t get,tC t m get):=by
     show (Bool.rec none (some (hC t get,tC t m get)) (Nat.beq e t.es):Option (α×List α))=_;rw[hb.1]
    have hg:(ie7 t).grd (.tree e (m+1) get)=true:=g1;simp only[G4,hc,onO,hg];exact hk
  |v q =>
   have hq:=Y4 (hargs 0 _ v' rfl hv);unfold Oa4 at h1
   grind
  |_=>cases h1
 ·cases he
end
end Go.Ev.L
namespace Go.Ev.Ce
open Go Go.Ev Go.Ev.L Go.Proofs
set_option maxRecDepth 100000
def Ed0:List (Nat×Sum):=[(56,eb2),(57,ya3),(58,wa9)]
theorem md2:j8 prog G Ed0:=⟨lb6,Ha7,Da6,trivial⟩
def Qb9(x:Unit):ROq:=let t1:=(Ca1 []);(sl (Ca2 []) (sl (t1 != 0) (some (.tup [nlq,i t1],[])) none) none)
def Bc8(x:Unit):PLq×Int:=G5 (two (r1L tP) r1I) (Qb9 x)
def Bc9(x:Unit):Bool:=okO (two (r1L tP) r1I) (Qb9 x)
def Rb0:Sum:=G4 Df9 (λx=>.guard (Bc9 x) (.ret ((two (r1L tP) r1I).enc (Bc8 x),[])))
theorem Db6:e7 prog G 24 Rb0:=kc5 (bd b24 md2) (two (r1L tP) r1I) (o:=Qb9) λx=>Ad7 .p [] .nil
def ad2:List (Nat×Sum):=[(24,Rb0),(57,ya3)]
theorem Pc1:j8 prog G ad2:=⟨Db6,Ha7,trivial⟩
def sb5(x:Unit):ROq:=let t1:=(Bc8 ());(sl (Bc9 ()) (sl (t1.2 != 0) (some (.tup [nlq,i t1.2],[])) none) none)
def md3(x:Unit):List V3×Int:=G5 (two (r1L tV) r1I) (sb5 x)
def md4(x:Unit):Bool:=okO (two (r1L tV) r1I) (sb5 x)
def md5:Sum:=G4 Df9 (λx=>.guard (md4 x) (.ret ((two (r1L tV) r1I).enc (md3 x),[])))
theorem ad3:e7 prog G 53 md5:=Ja2 (bd b53 Pc1) (two (r1L tV) r1I) (o:=sb5)
def Ed1:List (Nat×Sum):=[(58,wa9)]
theorem md6:j8 prog G Ed1:=⟨Da6,trivial⟩
def Rb1(x:Addr×Nat):ROq:=none
def Cc0(x:Addr×Nat):PLq×Int:=G5 (two (r1L tP) r1I) (Rb1 x)
def Cc1(x:Addr×Nat):Bool:=okO (two (r1L tP) r1I) (Rb1 x)
def Cc2:Sum:=G4 cE0 (λx=>.guard (Cc1 x) (.ret ((two (r1L tP) r1I).enc (Cc0 x),[])))
theorem qc8:e7 prog G 24 Cc2:=kc5 (bd b24 md6) (two (r1L tP) r1I) (o:=Rb1) λx=>Ad7 .p [] .nil
def ad4:List (Nat×Sum):=[(24,Cc2),(57,ya3)]
theorem Pc2:j8 prog G ad4:=⟨qc8,Ha7,trivial⟩
def sb6(x:Addr×Nat):ROq:=let t1:=(Cc0 x);(sl (Cc1 x) (sl (t1.2 != 0) (some (.tup [nlq,i t1.2],[])) none) none)
def md7(x:Addr×Nat):List V3×Int:=G5 (two (r1L tV) r1I) (sb6 x)
def md8(x:Addr×Nat):Bool:=okO (two (r1L tV) r1I) (sb6 x)
def md9:Sum:=G4 cE0 (λx=>.guard (md8 x) (.ret ((two (r1L tV) r1I).enc (md7 x),[])))
theorem ad5:e7 prog G 53 md9:=Ja2 (bd b53 Pc2) (two (r1L tV) r1I) (o:=sb6)
def Ed2:List (Nat×Sum):=[(56,eb2),(58,wa9)]
theorem nd0:j8 prog G Ed2:=⟨lb6,Da6,trivial⟩
def Ta8(x:List V3):ROq:=let t1:=(Ca1 (rt tV x));(sl (okE tV x) (sl (Ca2 (rt tV x)) (sl (t1 != 0) (some (.tup [nlq,i t1],[])) none) none) none)
def lb8(x:List V3):PLq×Int:=G5 (two (r1L tP) r1I) (Ta8 x)
def lb9(x:List V3):Bool:=okO (two (r1L tP) r1I) (Ta8 x)
def Cc3:Sum:=G4 (Oa4 tV) (λx=>.guard (lb9 x) (.ret ((two (r1L tP) r1I).enc (lb8 x),[])))
theorem Ed3:e7 prog G 24 Cc3:=kc5 (bd b24 nd0) (two (r1L tP) r1I) (o:=Ta8) λx=>Ad7 .p [] .nil
def ad6:List (Nat×Sum):=[(24,Cc3)]
theorem Pc3:j8 prog G ad6:=⟨Ed3,trivial⟩
def Ea2(x:List V3):ROq:=let t1:=(lb8 (rt tV x));(sl (okE tV x) (sl (lb9 (rt tV x)) (sl (t1.2 != 0) (some (.tup [nlq,i t1.2],[])) none) none) none)
def sb7(x:List V3):List V3×Int:=G5 (two (r1L tV) r1I) (Ea2 x)
def sb8(x:List V3):Bool:=okO (two (r1L tV) r1I) (Ea2 x)
def nd1:Sum:=G4 (Oa4 tV) (λx=>.guard (sb8 x) (.ret ((two (r1L tV) r1I).enc (sb7 x),[])))
theorem ad7:e7 prog G 53 nd1:=Ja2 (bd b53 Pc3) (two (r1L tV) r1I) (o:=Ea2)
def rm(p:Pln)(x:Pt):Int:=W (p.b*x.pw-(p.n.x*x.px+p.n.y*x.py+p.n.z*x.pz))
structure Bd(p:Pln):Prop where
 x1:-4608<=p.n.x
 x2:p.n.x<=4608
 y1:-4608<=p.n.y
 y2:p.n.y<=4608
 z1:-4608<=p.n.z
 z2:p.n.z<=4608
 b1:-2097152<=p.b
 b2:p.b<=2097152
def mv(p q r:Pln):V3 :=
 ⟨(d7 q.n r.n).x*p.b+(d7 r.n p.n).x*q.b+(d7 p.n q.n).x*r.b,
  (d7 q.n r.n).y*p.b+(d7 r.n p.n).y*q.b+(d7 p.n q.n).y*r.b,
  (d7 q.n r.n).z*p.b+(d7 r.n p.n).z*q.b+(d7 p.n q.n).z*r.b⟩
def gc(v:V3)(w:Int):Int:=(Nat.gcd (Nat.gcd v.x.natAbs v.y.natAbs) (Nat.gcd v.z.natAbs w.natAbs):Nat)
def mpt(p q r:Pln):Pt×Bool :=
 if mw p q r=0 then (⟨0,0,0,0⟩,false)
 else if mw p q r<0 then (⟨Int.tdiv (-(mv p q r).x) (gc (mv p q r) (mw p q r)),Int.tdiv (-(mv p q r).y) (gc (mv p q r) (mw p q r)),Int.tdiv (-(mv p q r).z) (gc (mv p q r) (mw p q r)),Int.tdiv (-(mw p q r)) (gc (mv p q r) (mw p q r))⟩,true)
 else (⟨Int.tdiv (mv p q r).x (gc (mv p q r) (mw p q r)),Int.tdiv (mv p q r).y (gc (mv p q r) (mw p q r)),Int.tdiv (mv p q r).z (gc (mv p q r) (mw p q r)),Int.tdiv (mw p q r) (gc (mv p q r) (mw p q r))⟩,true)
def Sm(n:Int)(x:Int):Prop:=-n<=x/\x<=n
theorem me2{a b:V3}(ha:Sm 4608 a.x/\Sm 4608 a.y/\Sm 4608 a.z)(hb:Sm 4608 b.x/\Sm 4608 b.y/\Sm 4608 b.z):Sm 42467328 (d7 a b).x/\Sm 42467328 (d7 a b).y/\Sm 42467328 (d7 a b).z:=by
 obtain⟨⟨a1,a2⟩,⟨a3,a4⟩,a5,a6⟩:=ha;obtain⟨⟨b1,b2⟩,⟨b3,b4⟩,b5,b6⟩:=hb;have h1:=mb a3 a4 b5 b6;have h2:=mb a5 a6 b3 b4;have h3:=mb a5 a6 b1 b2;have h4:=mb a1 a2 b5 b6;have h5:=mb a1 a2 b3 b4;have h6:=mb a3 a4 b1 b2;unfold Sm d7
 simp only
 omega
theorem Bd.n{p:Pln}(h:Bd p):Sm 4608 p.n.x/\Sm 4608 p.n.y/\Sm 4608 p.n.z:=⟨⟨h.x1,h.x2⟩,⟨h.y1,h.y2⟩,h.z1,h.z2⟩
theorem of3(a b:V3):ha8 a b=⟨W (d7 a b).x,W (d7 a b).y,W (d7 a b).z⟩:=by
 unfold ha8 d7;simp only[af2,af3]
theorem Fe6(a b:V3):Ja3 a b=⟨W (d7 a b).x,W (d7 a b).y,W (d7 a b).z⟩:=by
 unfold Ja3 d7;simp only[af2,af3]
theorem qc9{x:Int}(h:Sm 1000000000000000000 x):W x=x:=eb6 (by have:=h.1;omega) (by have:=h.2;omega)
theorem Sm.mono{n m x:Int}(h:Sm n x)(hn:n<=m):Sm m x:=⟨by have:=h.1;omega,by have:=h.2;omega⟩
theorem xb5{n x g:Int}(h:Sm n x)(hg:0<g):Sm n (Int.tdiv x g):=by
 have h1:(Int.tdiv x g).natAbs<=x.natAbs:=by rw[Int.natAbs_tdiv];exact Nat.div_le_self _ _
 have:=h.1;have:=h.2
 constructor<;>omega
def inn(l:PLq)(x:Pt):Bool:=l.all λp=>!decide (rm p x<0)
def eqX(x q:Pt):Bool:=q.px==x.px&&(q.py==x.py&&(q.pz==x.pz&&(q.pw==x.pw&&true)))
def ag8(l:List Pt)(x:Pt):Bool:=l.any (eqX x)
def smb(n x:Int):Bool:=!decide (x < -n)&&!decide (x>n)
theorem ec1(n x:Int):smb n x=true↔Sm n x:=by unfold smb Sm;simp only[Qas,Qcc,decide_eq_false_iff_not];omega
theorem Ed4(n:Int)(l:List Int)(hn:0<=n/\n<=1000000000)(hl:l.length<=1000000000):Ja5 n l=some (b (l.all (smb n)),[]):=by
 have hW:W (0-n)=-n:=by rw[eb6 (by omega) (by omega)];omega
 have h:=qc5 (step:=ra6 ⟨n,l,(l.length:Int)⟩) (mk:=λj=>(⟨(j:Int)⟩:L9)) (c:=λx=>!smb n x) (u:=1) (fin:=2) tI l hl
  (λj hj=>by
   simp only[ra6,Ba7,Int.toNat_natCast,m8 hj (by omega),hW]
   rw[bt (La0 hj),bt (f7 hj)];unfold smb;cases decide (gL tI l j < -n)<;>cases decide (gL tI l j>n)<;>rfl)
  (by simp only[ra6,Ba7];rw[bf (sa3 (Qia _))]) 0 (Qbw _)
 rw[Qih] at h;unfold Ja5;simp only[g8,i5];rw[show (⟨0⟩:L9)=⟨((0:Nat):Int)⟩ from rfl,h]
 have e:(l.any λx=>!smb n x)=!l.all (smb n):=by rw[Qix]
 rw[e];cases l.all (smb n)<;>rfl
theorem ad8(n:Int)(l:List Int)(hn:0<=n/\n<=1000000000)(hl:l.length<=1000000000):wa1 n l=l.all (smb n):=by unfold wa1;rw[Ed4 n l hn hl];rfl
theorem ad9(n:Int)(l:List Int)(hn:0<=n/\n<=1000000000)(hl:l.length<=1000000000):wa2 n l=true:=by unfold wa2;rw[Ed4 n l hn hl];rfl
theorem me3{n:Int}(h:Sm 1000000000000000000 n):Oa6 n=(n.natAbs:Int):=by
 unfold Oa6;obtain⟨h1,h2⟩:=h;rw[eb6 (by omega) (by omega)]
 split<;>omega
theorem Pc4{n:Int}(h:Sm 1000000000000000000 n):Ja4 n=some (i (n.natAbs:Int),[]):=by
 unfold Ja4;obtain⟨h1,h2⟩:=h;rw[eb6 (by omega) (by omega)]
 by_cases h:n<0
 ·rw[bt (decide_eq_true h)];congr 3;omega
 ·rw[bf (decide_eq_false h)];congr 3;omega
theorem rc0{n:Int}(h:Sm 1000000000000000000 n):va8 n=(n.natAbs:Int):=by unfold va8;rw[Pc4 h];rfl
theorem rc1{n:Int}(h:Sm 1000000000000000000 n):va9 n=true:=by unfold va9;rw[Pc4 h];rfl
def g3(v:V3):Int:=(Nat.gcd (Nat.gcd v.x.natAbs v.y.natAbs) v.z.natAbs:Nat)
theorem af7(g n:Nat):eu (g:Int) (n:Int)=(Nat.gcd g n:Nat):=by rw[Df3 (by omega) (by omega)];rfl
theorem Ld8(P:ba7)(g n:Nat)(hn:n<=1000000000000000000):lp (Y1 P) ⟨(g:Int),(n:Int)⟩=(1,⟨(Nat.gcd g n:Nat),0⟩):=by
 have:=hd9 (step:=Y1 P) (mk:=λg n=>(⟨g,n⟩:N8)) (λg n h=>by
  have h0:n≠0:=by omega
  simp[Y1,va0,Gc6,h,h0]) (λg=>by simp[Y1,va0,Gc6]) (g:Int) (n:Int) (by omega) (by omega) (by omega)
 rw[this,af7]
theorem Ed5(l:List Int)(hl:l.length<=1000000000)(hb:∀x∈l,Sm 1000000000000000000 x):Da2 l=some (i (l.foldl (λg x=>Nat.gcd g x.natAbs) 0:Nat),[]):=by
 have h := of1 (step := ka4 ⟨(l.length : Int)⟩) (mk := fun j (a : Nat) => (⟨(a : Int), l, (j : Int)⟩ : J0)) (f := fun g x => Nat.gcd g x.natAbs) (fin := 2) tI l (fun _ _ => True) hl (fun j a hj _ => ⟨by
   have hm:=hb _ (Ga7 tI hj);have hne:(gL tI l j==(-9223372036854775808:Int))=false:=by
    have:=hm.1
    rw[beq_eq_false_iff_ne];omega
   have hs:(gL tI l j).natAbs<=1000000000000000000:=by obtain⟨h1,h2⟩:=hm;omega
   simp only[ka4,va1,Int.toNat_natCast,g8,i5,me3 hm,Ld8 _ _ _ hs,m8 hj (by omega)]
   rw[bt (La0 hj),bt (f7 hj),bf hne]
   rfl,trivial⟩) (λa _=>by simp only[ka4,va1];rw[bf (sa3 (Qia _))]) 0 (Qbw _) 0 trivial
 have h:=h.1;rw[Qih] at h;unfold Da2;simp only[g8,i5];rw[show (⟨0,l,0⟩:J0)=⟨((0:Nat):Int),l,((0:Nat):Int)⟩ from rfl,h]
 rfl
def okp(p:Pln):Bool:=[p.n.x,p.n.y,p.n.z].all (smb 4608)&&(g3 p.n==1&&[p.b].all (smb 2097152))
theorem Ef0(p:Pln):Bd p↔[p.n.x,p.n.y,p.n.z].all (smb 4608)=true/\[p.b].all (smb 2097152)=true:=by
 simp only[List.all_cons,List.all_nil,Qii,Qas,ec1,Sm];exact⟨λh=>⟨⟨⟨h.x1,h.x2⟩,⟨h.y1,h.y2⟩,h.z1,h.z2⟩,h.b1,h.b2⟩,λ⟨⟨⟨a,b⟩,⟨c,d⟩,e,f⟩,g,h⟩=>⟨a,b,c,d,e,f,g,h⟩⟩
theorem Ed6{p:Pln}(h:okp p=true):Bd p:=by
 unfold okp at h;rw[Qas,Qas] at h;exact (Ef0 p).2 ⟨h.1,h.2.2⟩
theorem sm3{v:V3}(h:[v.x,v.y,v.z].all (smb 4608)=true):Sm 4608 v.x/\Sm 4608 v.y/\Sm 4608 v.z:=by
 simpa only[List.all_cons,List.all_nil,Qii,Qas,ec1] using h
theorem me4(p:Pln):Sa0 p=some (b (okp p),[]):=by
 unfold Sa0 okp;have l3:[p.n.x,p.n.y,p.n.z].length<=1000000000:=by simp
 have l1:[p.b].length<=1000000000:=by simp
 simp only[ad8 4608 _ (by omega) l3,ad9 4608 _ (by omega) l3,ad8 2097152 _ (by omega) l1,ad9 2097152 _ (by omega) l1]
 cases hw:[p.n.x,p.n.y,p.n.z].all (smb 4608) with
 |false=>rfl
 |true =>
  obtain⟨h1,h2,h3⟩:=sm3 hw;have hd:=Ed5 [p.n.x,p.n.y,p.n.z] l3 (by
   intro x hx;simp only[Qbi,List.not_mem_nil,or_false] at hx
   rcases hx with rfl|rfl|rfl
   ·exact h1.mono (by omega)
   ·exact h2.mono (by omega)
   ·exact h3.mono (by omega))
  have hg:([p.n.x,p.n.y,p.n.z].foldl (λg x=>Nat.gcd g x.natAbs) 0:Nat)=Nat.gcd (Nat.gcd p.n.x.natAbs p.n.y.natAbs) p.n.z.natAbs:=by
   simp only[List.foldl_cons,List.foldl_nil,Nat.gcd_zero_left]
  have hp:ea3 [p.n.x,p.n.y,p.n.z]=g3 p.n:=by unfold ea3;rw[hd,hg];rfl
  have hgd:ea4 [p.n.x,p.n.y,p.n.z]=true:=by unfold ea4;rw[hd];rfl
  rw[hp,hgd];cases g3 p.n==1<;>rfl
theorem of4(p:Pln):lb2 p=okp p:=by unfold lb2;rw[me4 p];rfl
theorem of5(p:Pln):lb3 p=true:=by unfold lb3;rw[me4 p];rfl
theorem bd0(P:ra5)(g n:Nat)(hn:n<=1000000000000000000):lp (ha7 P) ⟨(g:Int),(n:Int)⟩=(1,⟨(Nat.gcd g n:Nat),0⟩):=by
 have:=hd9 (step:=ha7 P) (mk:=λg n=>(⟨g,n⟩:T1)) (λg n h=>by
  have h0:n≠0:=by omega
  simp[ha7,cb9,Gc6,h,h0]) (λg=>by simp[ha7,cb9,Gc6]) (g:Int) (n:Int) (by omega) (by omega) (by omega)
 rw[this,af7]
theorem ae7{v:V3}(h1:Sm 1000000000000000000 v.x)(h2:Sm 1000000000000000000 v.y)(h3:Sm 1000000000000000000 v.z) :
  Bb6 v=if g3 v=0 then some (.tup [.agg (tV.row ⟨0,0,0⟩),i 0],[]) else some (.tup [.agg (tV.row ⟨W (Int.tdiv v.x (g3 v)),W (Int.tdiv v.y (g3 v)),W (Int.tdiv v.z (g3 v))⟩),i (g3 v)],[]):=by
 have ne:∀{x:Int},Sm 1000000000000000000 x->(x==(-9223372036854775808:Int))=false:=λ{x} h=>by
  have:=h.1
  rw[beq_eq_false_iff_ne];omega
 have bd:∀{x:Int},Sm 1000000000000000000 x->x.natAbs<=1000000000000000000:=λ{x} h=>by obtain⟨h1,h2⟩:=h;omega
 have l1:=bd0 ⟨0,v.x,v.y,v.z,v.x,v.y,v.z⟩ 0 v.x.natAbs (bd h1);rw[Nat.gcd_zero_left] at l1;have l2:=bd0 ⟨1,v.x,v.y,v.z,v.x,v.y,v.z⟩ v.x.natAbs v.y.natAbs (bd h2);have l3:=bd0 ⟨2,v.x,v.y,v.z,v.x,v.y,v.z⟩ (Nat.gcd v.x.natAbs v.y.natAbs) v.z.natAbs (bd h3);unfold Bb6;simp only[rc0 h1,rc0 h2,rc0 h3,rc1 h1,rc1 h2,rc1 h3];rw[show (⟨0,(v.x.natAbs:Int)⟩:T1)=⟨((0:Nat):Int),(v.x.natAbs:Int)⟩ from rfl]
 simp only[l1,l2,l3,ne h1,ne h2,ne h3];rw[show ((Nat.gcd (Nat.gcd v.x.natAbs v.y.natAbs) v.z.natAbs:Nat):Int)=g3 v from rfl]
 by_cases h:g3 v=0
 ·rw[if_pos h,show (g3 v==0)=true from by rw[h];rfl];rfl
 ·rw[if_neg h,show (g3 v==0)=false from by rw[beq_eq_false_iff_ne];exact h];rfl
theorem Ed7{v:V3}(h1:Sm 1000000000000000000 v.x)(h2:Sm 1000000000000000000 v.y)(h3:Sm 1000000000000000000 v.z):(Ya3 v).2=g3 v:=by
 unfold Ya3;rw[ae7 h1 h2 h3];split
 ·rename_i h;rw[h];rfl
 ·rfl
theorem Ef1{v:V3}(h1:Sm 1000000000000000000 v.x)(h2:Sm 1000000000000000000 v.y)(h3:Sm 1000000000000000000 v.z)(h:g3 v≠0):Ya3 v=(⟨W (Int.tdiv v.x (g3 v)),W (Int.tdiv v.y (g3 v)),W (Int.tdiv v.z (g3 v))⟩,g3 v):=by
 unfold Ya3;rw[ae7 h1 h2 h3,if_neg h];rfl
theorem af8{v:V3}(h1:Sm 1000000000000000000 v.x)(h2:Sm 1000000000000000000 v.y)(h3:Sm 1000000000000000000 v.z):Bb7 v=true:=by
 unfold Bb7;rw[ae7 h1 h2 h3]
 split<;>rfl
theorem Sd3(p:Pln):nb1 p=some (b (okp p),[]):=by
 unfold nb1 okp;cases hw:[p.n.x,p.n.y,p.n.z].all (smb 4608) with
 |false =>
  simp only[List.all_cons,List.all_nil,Qii,smb] at hw;cases h1:decide (p.n.x < -4608)<;>cases h2:decide (p.n.x>4608)<;>cases h3:decide (p.n.y < -4608)<;>cases h4:decide (p.n.y>4608)<;>cases h5:decide (p.n.z < -4608)<;>cases h6:decide (p.n.z>4608)<;>simp only[h1,h2,h3,h4,h5,h6] at hw ⊢<;>first | rfl | cases hw
 |true =>
  obtain⟨h1,h2,h3⟩:=sm3 hw;rw[bf (decide_eq_false (by have:=h1.1;omega)),bf (decide_eq_false (by have:=h1.2;omega)),bf (decide_eq_false (by have:=h2.1;omega)),bf (decide_eq_false (by have:=h2.2;omega)),bf (decide_eq_false (by have:=h3.1;omega)),bf (decide_eq_false (by have:=h3.2;omega))]
  have k1:=h1.mono (m:=1000000000000000000) (by omega)
  have k2:=h2.mono (m:=1000000000000000000) (by omega)
  have k3:=h3.mono (m:=1000000000000000000) (by omega)
  rw[bt (af8 k1 k2 k3),Ed7 k1 k2 k3];cases g3 p.n==1 with
  |false=>rfl
  |true =>
   simp only[List.all_cons,List.all_nil,Qii,smb,Bool.true_and];rw[f0];by_cases ha:p.b < -2097152
   ·rw[bf (decide_eq_false (by omega)),show decide (p.b < -2097152)=true from decide_eq_true ha];rfl
   ·rw[bt (decide_eq_true (by omega)),show decide (p.b < -2097152)=false from decide_eq_false ha]
    congr 3;by_cases hc:p.b<=2097152
    ·rw[decide_eq_true hc,decide_eq_false (by omega)];rfl
    ·rw[decide_eq_false hc,decide_eq_true (by omega)];rfl
theorem af9(p:Pln):Lb1 p=okp p:=by unfold Lb1;rw[Sd3 p];rfl
theorem me5(p:Pln):Lb2 p=true:=by unfold Lb2;rw[Sd3 p];rfl
def chk(l:PLq):Int:=if (l.length:Int)>48 then 2 else if l.all okp then 0 else 12
theorem me6{l:PLq}:chk l=0↔l.length<=48/\∀p∈l,okp p=true:=by
 unfold chk;by_cases hn:(l.length:Int)>48
 ·rw[if_pos hn];exact⟨λh=>absurd h (by decide),λh=>by omega⟩
 ·rw[if_neg hn];cases h:l.all okp with
  |true=>exact⟨λ_=>⟨by omega,Qcb.1 h⟩,λ_=>rfl⟩
  |false=>exact⟨λh=>absurd h (by decide),λh'=>by rw[Qcb.2 h'.2] at h;cases h⟩
theorem btD{p:Prop}{inst:Decidable p}(h:p){α:Type}(t e:α):sl (@decide p inst) t e=t:=bt (decide_eq_true h) t e
theorem bfD{p:Prop}{inst:Decidable p}(h:¬ p){α:Type}(t e:α):sl (@decide p inst) t e=e:=bf (decide_eq_false h) t e
theorem l0{j n:Nat}(h:j<n):(j:Int)<(n:Int):=Int.ofNat_lt.2 h
theorem k9{j n:Nat}(h:¬ j<n):¬ (j:Int)<(n:Int):=λh'=>h (Int.ofNat_lt.1 h')
def Pf4(r:PLq)(p q:Pln)(out:List Pt)(s:Pln):List Pt :=
 if (mpt p q s).2&&(!ag8 out (mpt p q s).1&&inn r (mpt p q s).1) then out++[(mpt p q s).1] else out
def ag9(r:PLq)(p q:Pln)(l:PLq)(out:List Pt):List Pt:=l.foldl (Pf4 r p q) out
def Pf5(r:PLq)(p:Pln):PLq->List Pt->List Pt
 |[],out=>out
 |q::l,out=>Pf5 r p l (ag9 r p q l out)
def Pf6(r:PLq):PLq->List Pt->List Pt
 |[],out=>out
 |p::l,out=>Pf6 r l (Pf5 r p l out)
def cor(r:PLq):List Pt:=Pf6 r r []
def ph(out:List Pt):Nat:=match out with
 |[]=>0
 |_::_=>1
theorem rd7{α:Type}(t:Ty α)(l:List α)(n k:Nat):gL t (l.drop n) k=gL t l (n+k):=by simp[gL,Qda,Qbf]
theorem Oe9{ρ:Type}(R:RR ρ){x:a7×List b7}{r:ρ}(h:R.rd x=some r):G5 R (some x)=r:=by
 show Option.rec (motive:=λ_=>ρ) R.d (λx=>x) (R.rd x)=r
 rw[h]
theorem bf0{ρ:Type}(R:RR ρ){x:a7×List b7}{r:ρ}(h:R.rd x=some r):okO R (some x)=true:=by
 show Option.rec (motive:=λ_=>Bool) false (λ_=>true) (R.rd x)=true
 rw[h]
@[reducible] noncomputable def flK:List (Nat×CK):=[(0,.int .i64),(1,.int .i64),(2,.int .i64),(3,.int .i64)]
theorem Ef2(s:Pln):((Nat.ble 4 (len (tP.row s)))&&(bb3 [CK.int .i64,CK.int .i64,CK.int .i64,CK.int .i64] (tP.row s)))=true:=rfl
def slP(l:PLq):a7×List b7:=(.sl 0 0 l.length 0,[⟨57,4,bL tP l,true,false,0⟩])
theorem Ef3(l:PLq):(one (r1L tP)).rd (slP l)=some l:=by
 show Bool.rec (motive:=λ_=>Option PLq) none (some (slR tP (bL tP l) 0 l.length)) (Bool.and true (okS tP (bL tP l) 0 l.length))=_
 rw[Wc5,yd4];rfl
theorem Sd4{α:Type}(t:Ty α)(l:List α):(one (r1L t)).rd (eL t l,[])=some l:=by
 show Bool.rec (motive:=λ_=>Option (List α)) none (some (rt t l)) (Bool.and (Nat.beq t.es t.es) (okE t l))=_
 rw[g8,B7,Qij];rfl
def ws:PLq:=[⟨⟨1,0,0⟩,24⟩,⟨⟨-1,0,0⟩,24⟩,⟨⟨0,1,0⟩,24⟩,⟨⟨0,-1,0⟩,24⟩,⟨⟨0,0,1⟩,24⟩,⟨⟨0,0,-1⟩,24⟩]
def pos(X:List Pt)(p:Pln):Bool:=X.any λx=>decide (rm p x>0)
def bg0(r:PLq):Bool:=r.all (pos (cor r))
structure Okx(x:Pt):Prop where
 w1:0<x.pw
 w2:x.pw<=600000000000
 c1:Sm 300000000000000 x.px
 c2:Sm 300000000000000 x.py
 c3:Sm 300000000000000 x.pz
theorem Sm.neg{n x:Int}(h:Sm n x):Sm n (-x):=⟨by have:=h.2;omega,by have:=h.1;omega⟩
def Nx{σ:Type}(x:Stp σ)(E:Nat->Prop)(N:σ->Prop):Prop:=(∃t,x=.exit t/\E t)\/∃s,x=.next s/\N s
theorem Nx.sl{σ:Type}{c:Bool}{t e:Stp σ}{E:Nat->Prop}{N:σ->Prop}(h1:c=true->Nx t E N)(h2:c=false->Nx e E N):Nx (sl c t e) E N:=by cases c;exact h2 rfl;exact h1 rfl
theorem Nx.ex{σ:Type}{t:Nat}{E:Nat->Prop}{N:σ->Prop}(h:E t):Nx (.exit t) E N:=.inl ⟨t,rfl,h⟩
theorem Nx.nx{σ:Type}{s:σ}{E:Nat->Prop}{N:σ->Prop}(h:N s):Nx (.next s) E N:=.inr ⟨s,rfl,h⟩
theorem ga3{σ τ:Type}{step:σ->Stp σ}{mk:Nat->τ->σ}(n:Nat)(I:Nat->τ->Prop)(E:Nat->σ->Prop)(hn:n<=1000000000)
  (h:∀j a,j<n->I j a->Nx (step (mk j a)) (λt=>E t (mk j a)) (λs=>∃a',s=mk (j+1) a'/\I (j+1) a'))
  (hf:∀j a,n<=j->I j a->∃t,step (mk j a)=.exit t/\E t (mk j a)) (j0:Nat) (a:τ) (hi:I j0 a):∃t s,lp step (mk j0 a)=(t,s)/\E t s:=by
 have key:=Hc8 (step:=step) (I:=λm s=>∃j a,m=n-j/\s=mk j a/\I j a) (Q:=E) (λm s ⟨j,a,hm,hs,ha⟩=>by
  subst hs;by_cases hlt:j<n
  ·rcases h j a hlt ha with h1|⟨s',h1,a',h2,h3⟩
   ·exact .inl h1
   ·subst h2;exact .inr ⟨_,n-(j+1),by omega,h1,j+1,a',rfl,rfl,h3⟩
  ·exact .inl (hf j a (by omega) ha)) (n-j0) (mk j0 a) (by omega) ⟨j0,a,rfl,rfl,hi⟩
 exact⟨_,_,rfl,key⟩
def Rd{ρ:Type}(R:RR ρ)(o:ROq)(P:ρ->Prop):Prop:=∃x r,o=some x/\R.rd x=some r/\P r
theorem Rd.p{ρ:Type}{R:RR ρ}{o:ROq}{P:ρ->Prop}(h:Rd R o P):P (G5 R o):=by
 obtain⟨x,r,h1,h2,h3⟩:=h;rw[h1,Oe9 R h2];exact h3
theorem Rd.g{ρ:Type}{R:RR ρ}{o:ROq}{P:ρ->Prop}(h:Rd R o P):okO R o=true:=by
 obtain⟨x,r,h1,h2,h3⟩:=h;rw[h1];exact bf0 R h2
theorem Rd.sl{ρ:Type}{R:RR ρ}{c:Bool}{t e:ROq}{P:ρ->Prop}(h1:c=true->Rd R t P)(h2:c=false->Rd R e P):Rd R (sl c t e) P:=by cases c;exact h2 rfl;exact h1 rfl
def inV(v:V3):Bool:=smb 24 v.x&&(smb 24 v.y&&smb 24 v.z)
theorem Mb5(v:V3):inV v=true↔Sm 24 v.x/\Sm 24 v.y/\Sm 24 v.z:=by unfold inV;rw[Qas,Qas,ec1,ec1,ec1]
theorem bf1(v:V3):pc0 v=some (b (inV v),[]):=by
 unfold pc0 inV smb;cases h1:decide (v.x < -24)<;>cases h2:decide (v.x>24)<;>cases h3:decide (v.y < -24)<;>cases h4:decide (v.y>24)<;>cases h5:decide (v.z < -24)<;>cases h6:decide (v.z>24)<;>rfl
theorem Fe7(v:V3):nb2 v=inV v:=by unfold nb2;rw[bf1];rfl
theorem me7(v:V3):nb3 v=true:=by unfold nb3;rw[bf1];rfl
def sub(a b:V3):V3:=⟨a.x-b.x,a.y-b.y,a.z-b.z⟩
theorem Fe8{a b:V3}(ha:inV a=true)(hb:inV b=true):Oa7 a b=sub a b/\Sm 48 (sub a b).x/\Sm 48 (sub a b).y/\Sm 48 (sub a b).z:=by
 rw[Mb5] at ha hb;obtain⟨⟨a1,a2⟩,⟨a3,a4⟩,a5,a6⟩:=ha;obtain⟨⟨b1,b2⟩,⟨b3,b4⟩,b5,b6⟩:=hb;unfold Oa7 sub;rw[eb6 (by omega) (by omega),eb6 (by omega) (by omega),eb6 (by omega) (by omega)]
 exact⟨rfl,⟨by show _<=a.x-b.x;omega,by show a.x-b.x<=_;omega⟩,⟨by show _<=a.y-b.y;omega,by show a.y-b.y<=_;omega⟩,⟨by show _<=a.z-b.z;omega,by show a.z-b.z<=_;omega⟩⟩
theorem Rb2{a b c:V3}(ha:inV a=true)(hb:inV b=true)(hc:inV c=true) :
  Ja3 (Oa7 b a) (Oa7 c a)=d7 (sub b a) (sub c a)/\Sm 4608 (d7 (sub b a) (sub c a)).x/\Sm 4608 (d7 (sub b a) (sub c a)).y/\Sm 4608 (d7 (sub b a) (sub c a)).z:=by
 obtain⟨e1,⟨u1,u2⟩,⟨u3,u4⟩,u5,u6⟩:=Fe8 hb ha;obtain⟨e2,⟨v1,v2⟩,⟨v3,v4⟩,v5,v6⟩:=Fe8 hc ha;rw[e1,e2,Fe6];generalize sub b a=p at *
 generalize sub c a=q at *
 have h1:=mb u3 u4 v5 v6;have h2:=mb u5 u6 v3 v4;have h3:=mb u5 u6 v1 v2;have h4:=mb u1 u2 v5 v6;have h5:=mb u1 u2 v3 v4;have h6:=mb u3 u4 v1 v2;have k:Sm 4608 (d7 p q).x/\Sm 4608 (d7 p q).y/\Sm 4608 (d7 p q).z:=by unfold Sm d7;simp only;omega
 obtain⟨k1,k2,k3⟩:=k;rw[qc9 (k1.mono (by omega)),qc9 (k2.mono (by omega)),qc9 (k3.mono (by omega))]
 exact⟨rfl,k1,k2,k3⟩
def G7(a b c:V3):Pln×Bool :=
 if inV a&&(inV b&&inV c) then
  if g3 (d7 (sub b a) (sub c a))=0 then (⟨⟨0,0,0⟩,0⟩,false)
  else (⟨⟨Int.tdiv (d7 (sub b a) (sub c a)).x (g3 (d7 (sub b a) (sub c a))),Int.tdiv (d7 (sub b a) (sub c a)).y (g3 (d7 (sub b a) (sub c a))),Int.tdiv (d7 (sub b a) (sub c a)).z (g3 (d7 (sub b a) (sub c a)))⟩,
   dot ⟨Int.tdiv (d7 (sub b a) (sub c a)).x (g3 (d7 (sub b a) (sub c a))),Int.tdiv (d7 (sub b a) (sub c a)).y (g3 (d7 (sub b a) (sub c a))),Int.tdiv (d7 (sub b a) (sub c a)).z (g3 (d7 (sub b a) (sub c a)))⟩ a⟩,true)
 else (⟨⟨0,0,0⟩,0⟩,false)
theorem wc8(v:V3):0<=g3 v:=by unfold g3;omega
theorem Ed8(a c d:V3):Sa2 a c d=some (.tup [.agg (tP.row (G7 a c d).1),b (G7 a c d).2],[]):=by
 unfold Sa2 G7;simp only[Fe7,me7];cases ha:inV a with
 |false=>rfl
 |true =>
  cases hc:inV c with
  |false=>rfl
  |true =>
   cases hd:inV d with
   |false=>rfl
   |true =>
    obtain⟨e,k1,k2,k3⟩:=Rb2 ha hc hd;rw[e];generalize d7 (sub c a) (sub d a)=n at *
    have m1:=k1.mono (m:=1000000000000000000) (by omega)
    have m2:=k2.mono (m:=1000000000000000000) (by omega)
    have m3:=k3.mono (m:=1000000000000000000) (by omega)
    rw[af8 m1 m2 m3,Ed7 m1 m2 m3];by_cases h0:g3 n=0
    ·rw[show (g3 n==0)=true from by rw[h0];rfl]
     simp only[Qig,if_true,h0];rfl
    ·have hp:=wc8 n;have q1:=xb5 (g:=g3 n) k1 (by omega)
     have q2:=xb5 (g:=g3 n) k2 (by omega)
     have q3:=xb5 (g:=g3 n) k3 (by omega)
     rw[show (g3 n==0)=false from by rw[beq_eq_false_iff_ne];exact h0,Ef1 m1 m2 m3 h0]
     simp only[Qig,if_true,h0,if_false];rw[qc9 (q1.mono (by omega)),qc9 (q2.mono (by omega)),qc9 (q3.mono (by omega))]
     have hdot:Fa0 ⟨Int.tdiv n.x (g3 n),Int.tdiv n.y (g3 n),Int.tdiv n.z (g3 n)⟩ a=dot ⟨Int.tdiv n.x (g3 n),Int.tdiv n.y (g3 n),Int.tdiv n.z (g3 n)⟩ a:=by
      unfold Fa0;simp only[Hc7,Zc3];obtain⟨⟨a1,a2⟩,⟨a3,a4⟩,a5,a6⟩:=(Mb5 a).1 ha;have r1:=mb q1.1 q1.2 a1 a2;have r2:=mb q2.1 q2.2 a3 a4;have r3:=mb q3.1 q3.2 a5 a6;rw[eb6 (by omega) (by omega)]
      rfl
     rw[hdot];rfl
theorem bd1(a b c:V3):Fa1 a b c=G7 a b c:=by unfold Fa1;rw[Ed8];rfl
theorem wc9(a b c:V3):Fa2 a b c=true:=by unfold Fa2;rw[Ed8];rfl
theorem of6(p:Pln)(v:V3):Rd (one r1I) (Ya4 p v) (λ_=>True):=by
 unfold Ya4;simp only[me5,me7,f0];exact Rd.sl (λ_=>⟨_,_,rfl,rfl,trivial⟩) λ_=>Rd.sl (λ_=>⟨_,_,rfl,rfl,trivial⟩) λ_=>Rd.sl (λ_=>⟨_,_,rfl,rfl,trivial⟩) λ_=>Rd.sl (λ_=>⟨_,_,rfl,rfl,trivial⟩) λ_=>⟨_,_,rfl,rfl,trivial⟩
theorem bd2(p:Pln)(v:V3):jb7 p v=true:=(of6 p v).g
theorem Pf7(P:Ca0)(hl:P.d6.length<=1000000000):∃t s,lp (D1 P) ⟨0⟩=(t,s)/\(t=1\/t=2\/t=3):=by
 obtain⟨l,x1,x2,x3,x4,x5,x6,x7,x8⟩:=P;refine ga3 (step:=D1 ⟨l,x1,x2,x3,x4,x5,x6,x7,x8⟩) (mk:=λj (_:Unit)=>(⟨(j:Int)⟩:fa7)) l.length (λ_ _=>True) (λt _=>t=1\/t=2\/t=3) hl (λj a hj _=>?_) (λj a hj _=>?_) 0 () trivial
 ·simp only[D1,ka5,bd2,Int.toNat_natCast,m8 hj (show l.length<=4611686018427387904 from Qai hl (by omega))]
  rw[btD (l0 hj),bt (f7 hj),f0];exact Nx.sl (λ_=>Nx.sl (λ_=>.ex (by simp)) λ_=>.nx ⟨(),rfl,trivial⟩) λ_=>.ex (by simp)
 ·simp only[D1,ka5];rw[bfD (by omega)]
  exact⟨_,rfl,by simp⟩
theorem Pf8(l:List V3)(hl:l.length<=1000000000)(a c:Nat)(ha:a<l.length)(hc:c<a):∃t s,lp (S8 ⟨(a:Int),(c:Int)⟩) ⟨l,0⟩=(t,s)/\((t=1\/t=2)/\s.d6=l):=by
 refine ga3 (step:=S8 ⟨(a:Int),(c:Int)⟩) (mk:=λj (_:Unit)=>(⟨l,(j:Int)⟩:fa8)) c (λ_ _=>True) (λt s=>(t=1\/t=2)/\s.d6=l) (by omega) (λj x hj _=>?_) (λj x hj _=>?_) 0 () trivial
 ·simp only[S8,wa3,wc9,Int.toNat_natCast,g8,i5,m8 hj (show c<=4611686018427387904 by omega)]
  rw[btD (l0 hj),bt (f7 ha),bt (f7 (show c<l.length by omega)),bt (f7 (show j<l.length by omega)),f0]
  generalize hP:Ca0.mk _ _ _ _ _ _ _ _ _=P3;obtain⟨t,s,h1,h2⟩:=Pf7 P3 (by subst hP;exact hl)
  rw[h1]
  rcases h2 with rfl|rfl|rfl
  ·exact .ex (by simp)
  ·exact .nx ⟨(),rfl,trivial⟩
  ·exact .nx ⟨(),rfl,trivial⟩
 ·simp only[S8,wa3];rw[bfD (by omega)]
  exact⟨_,rfl,by simp⟩
theorem Pf9(l:List V3)(hl:l.length<=1000000000)(a:Nat)(ha:a<l.length):∃t s,lp (S9 ⟨(a:Int)⟩) ⟨l,0⟩=(t,s)/\((t=1\/t=2)/\s.d6=l):=by
 refine ga3 (step:=S9 ⟨(a:Int)⟩) (mk:=λj (_:Unit)=>(⟨l,(j:Int)⟩:fa9)) a (λ_ _=>True) (λt s=>(t=1\/t=2)/\s.d6=l) (by omega) (λj x hj _=>?_) (λj x hj _=>?_) 0 () trivial
 ·simp only[S9,wa4,g8,i5,m8 hj (show a<=4611686018427387904 by omega)]
  obtain⟨t,s,h1,h2,h3⟩:=Pf8 l hl a j ha hj;rw[btD (l0 hj),h1]
  rcases h2 with rfl|rfl
  ·exact .ex (by simp)
  ·exact .nx ⟨(),by rw[h3],trivial⟩
 ·simp only[S9,wa4];rw[bfD (by omega)]
  exact⟨_,rfl,by simp⟩
theorem Kb2(l:List V3)(hl:l.length<=1000000000):Rd (one r1B) (Ya5 l) (λ_=>True):=by
 have key:∃t s,lp (T0 ⟨⟩) ⟨l,0⟩=(t,s)/\(t=1\/t=2):=by
  refine ga3 (step:=T0 ⟨⟩) (mk:=λj (_:Unit)=>(⟨l,(j:Int)⟩:ga0)) l.length (λ_ _=>True) (λt s=>t=1\/t=2) hl (λj x hj _=>?_) (λj x hj _=>?_) 0 () trivial
  ·simp only[T0,wa5,g8,i5,m8 hj (show l.length<=4611686018427387904 by omega)]
   obtain⟨t,s,h1,h2,h3⟩:=Pf9 l hl j hj;rw[btD (l0 hj),h1]
   rcases h2 with rfl|rfl
   ·exact .ex (by simp)
   ·exact .nx ⟨(),by rw[h3],trivial⟩
  ·simp only[T0,wa5];rw[bfD (by omega)]
   exact⟨_,rfl,by simp⟩
 obtain⟨t,s,h1,h2⟩:=key;unfold Ya5;simp only[g8,i5];rw[h1]
 rcases h2 with rfl|rfl<;>exact⟨_,_,rfl,rfl,trivial⟩
theorem bf2(l:List V3)(hl:l.length<=1000000000):Hc4 l=true:=(Kb2 l hl).g
theorem ye3(l:List V3)(hl:l.length<=1000000000):Rd (one r1I) (Ja7 l) (λ_=>True):=by
 have h:=qc5 (step:=aa2 ⟨l⟩) (mk:=λj=>(⟨(j:Int)⟩:db3)) (c:=λv=>!inV v) (u:=1) (fin:=2) tV l hl
  (λj hj=>by
   simp only[aa2,pa9,Int.toNat_natCast,Fe7,me7,m8 hj (show l.length<=4611686018427387904 by omega)]
   rw[btD (l0 hj),bt (f7 hj),f0])
  (by simp only[aa2,pa9];rw[bfD (k9 (Qia _))]) 0 (Qbw _)
 unfold Ja7;simp only[g8,i5,B7,bf2 l hl];rw[show (⟨0⟩:db3)=⟨((0:Nat):Int)⟩ from rfl,h]
 refine Rd.sl (λ_=>⟨_,_,rfl,rfl,trivial⟩) λ_=>?_
 rw[Qih];cases l.any λv=>!inV v with
 |true=>exact⟨_,_,rfl,rfl,trivial⟩
 |false =>
  show Rd (one r1I) (sl (Cb3 l) (some (i 11,[])) (some (i 0,[]))) (λ_=>True)
  exact Rd.sl (λ_=>⟨_,_,rfl,rfl,trivial⟩) λ_=>⟨_,_,rfl,rfl,trivial⟩
theorem Sd5(l:List V3)(hl:l.length<=1000000000):pc4 l=true:=(ye3 l hl).g
theorem bf3(p:Pln)(l:List V3)(hl:l.length<=1000000000):Rd (one r1B) (Ja8 p l) (λ_=>True):=by
 have h:=qc5 (step:=aa3 ⟨l,p.n.x,p.n.y,p.n.z,p.b⟩) (mk:=λj=>(⟨(j:Int)⟩:O6)) (c:=λv=>decide (Ja6 p v>0)) (u:=1) (fin:=2) tV l hl
  (λj hj=>by
   simp only[aa3,qa0,Int.toNat_natCast,bd2,m8 hj (show l.length<=4611686018427387904 by omega)]
   rw[btD (l0 hj),bt (f7 hj),f0])
  (by simp only[aa3,qa0];rw[bfD (k9 (Qia _))]) 0 (Qbw _)
 unfold Ja8;simp only[g8,i5];rw[show (⟨0⟩:O6)=⟨((0:Nat):Int)⟩ from rfl,h]
 split<;>exact⟨_,_,rfl,rfl,trivial⟩
theorem of7(p:Pln)(l:List V3)(hl:l.length<=1000000000):ra9 p l=true:=(bf3 p l hl).g
theorem Ef4(p q:Pln):Rd (one r1I) (ta4 p q) (λ_=>True):=by
 have key:∃t s,lp (G6 ⟨p.n.x,p.n.y,p.n.z,p.b,q.n.x,q.n.y,q.n.z,q.b⟩) ⟨0⟩=(t,s)/\(t=1\/t=2\/t=3):=by
  refine ga3 (step:=G6 ⟨p.n.x,p.n.y,p.n.z,p.b,q.n.x,q.n.y,q.n.z,q.b⟩) (mk:=λj (_:Unit)=>(⟨(j:Int)⟩:P1)) 4 (λ_ _=>True) (λt s=>t=1\/t=2\/t=3) (by omega) (λj x hj _=>?_) (λj x hj _=>?_) 0 () trivial
  ·have hn:=m8 hj (show 4<=4611686018427387904 by omega)
   simp only[G6,ba8,Int.toNat_natCast,hn];have hlt:(j:Int)<4:=by omega
   have hin:=f7 hj;have g:∀x1 x2 x3 x4:Int,((Nat.ble ((0+(j*1))+1) 4)&&(bb3 [CK.int .i64] (i9 [i x1,i x2,i x3,i x4] (0+(j*1)))))=true:=by
    intro x1 x2 x3 x4
    match j,hj with
    |0,_=>rfl
    |1,_=>rfl
    |2,_=>rfl
    |3,_=>rfl
   rw[btD hlt];simp only[hin,g,f0];exact Nx.sl (λ_=>.ex (by simp)) λ_=>Nx.sl (λ_=>.ex (by simp)) λ_=>.nx ⟨(),rfl,trivial⟩
  ·simp only[G6,ba8];rw[bfD (by omega)]
   exact⟨_,rfl,by simp⟩
 obtain⟨t,s,h1,h2⟩:=key;unfold ta4
 simp only
 rw[h1]
 rcases h2 with rfl|rfl|rfl<;>exact⟨_,_,rfl,rfl,trivial⟩
theorem bf4(p q:Pln):Pb1 p q=true:=(Ef4 p q).g
theorem Ed9(l:PLq)(n:Nat)(h:n<=l.length):l6 (λk=>(λk=>tP.row (gL tP l k)) (0+k)) (List.range (n-0))=bL tP (l.take n):=by
 rw[<- Bb2,i8,i8,Qie,Nat.min_eq_left h,Nat.sub_zero];apply Qcl;intro k hk;rw[Qca] at hk;show tP.row (gL tP l (0+k))=tP.row (gL tP (l.take n) k);congr 1;simp[gL,Qda,Qap,hk]
theorem Fd0(l:PLq)(n:Nat):l6 (λk=>(λk=>tP.row (gL tP l k)) (n+k)) (List.range (l.length-n))=bL tP (l.drop n):=by
 rw[<- Bb2,i8,i8,Qin];apply Qcl;intro k hk;show tP.row (gL tP l (n+k))=tP.row (gL tP (l.drop n) k);rw[rd7]
theorem me8(l:PLq)(x1 x2 x3 x4:Int):app (bL tP l) [[i x1,i x2,i x3,i x4]]=bL tP (l++[⟨⟨x1,x2,x3⟩,x4⟩]):=cb5 tP l [⟨⟨x1,x2,x3⟩,x4⟩]
def zc0(x:PLq)(y:Pln)(n:Nat):PLq:=x.take n++(y::x.drop n)
theorem bf5{l:PLq}{n:Nat}{r:List (List a7)}{P:PLq->Prop}(hn:n=l.length)(hr:r=bL tP l)(h:P l):Rd (one (r1L tP)) (some (.sl 0 0 n 0,[⟨57,4,r,true,false,0⟩])) P:=by
 subst hn hr;exact⟨_,l,rfl,Ef3 l,h⟩
theorem Ef5(x:PLq)(y:Pln)(hx:x.length<=1000000):Rd (one (r1L tP)) (jb8 x y) (λr=>r≠[]/\r.length<=x.length+1/\∀p∈r,p=y\/p∈x):=by
 have h:=ga1 (step:=Y5 ⟨x,y.n.x,y.n.y,y.n.z,y.b⟩) (mk:=λj=>(⟨(j:Int)⟩:O6)) (c:=λp=>!decide (ta5 p y<0)) (u:=1) (fin:=2) tP x (by omega)
  (λj hj=>by
   simp only[Y5,Fa3,Int.toNat_natCast,bf4,m8 hj (show x.length<=4611686018427387904 by omega)]
   rw[btD (l0 hj),bt (f7 hj),f0];cases decide (ta5 (gL tP x j) y<0)<;>rfl)
  (by simp only[Y5,Fa3];rw[bfD (k9 (Qia _))]) 0 (Qbw _)
 rw[Qih] at h;have key:∃t n,lp (Y5 ⟨x,y.n.x,y.n.y,y.n.z,y.b⟩) ⟨0⟩=(t,⟨((n:Nat):Int)⟩)/\(t=1\/t=2)/\n<=x.length:=by
  rw[show (⟨0⟩:O6)=⟨((0:Nat):Int)⟩ from rfl,h]
  split
  ·exact⟨1,_,rfl,.inl rfl,by rw[Qar];exact Qiy⟩
  ·exact⟨2,_,rfl,.inr rfl,Qaf _⟩
 obtain⟨t,n,h1,h2,h3⟩:=key;have hlo:inB (n:Int) (x.length+1)=true:=f7 (by omega)
 have hd:(bL tP (x.take n)).length=n:=by rw[<- j6,Ba4,Qie];omega
 have hmem:∀p∈zc0 x y n,p=y\/p∈x:=λp hp=>by
  unfold zc0 at hp
  rcases List.mem_append.1 hp with hp|hp
  ·exact .inr (List.mem_of_mem_take hp)
  ·rcases Qbi.1 hp with hp|hp
   ·exact .inl hp
   ·exact .inr (List.mem_of_mem_drop hp)
 have hne:zc0 x y n≠[]:=by unfold zc0;simp
 have hlen:(zc0 x y n).length=x.length+1:=by unfold zc0;simp only[Qdc,List.length_cons,Qie,Qin];omega
 have lt:len (bL tP (x.take n))=n:=by rw[j6];exact hd
 have ld:len (bL tP (x.drop n))=x.length-n:=by rw[Ba4,Qin]
 have b1:(Nat.beq 1 1&&Nat.ble ((1+(x.length-n))*32) room)=true:=by rw[xb1 (by omega)];rfl
 have b2:(Nat.beq 0 0&&Nat.ble ((0+n)*32) room)=true:=by rw[xb1 (by omega)];rfl
 have e0:app [] (bL tP (x.take n))=bL tP (x.take n):=rfl;have b3:(Nat.beq (0+n) n&&Nat.ble (((0+n)+1)*32) room)=true:=by rw[xb1 (by omega),Qar,Qij];rfl
 have l3:len (bL tP (x.take n++[y]))=n+1:=by rw[Ba4,Qdc,Qie];simp only[List.length_singleton];omega
 have b4:(Nat.beq ((0+n)+1) (n+1)&&Nat.ble ((((0+n)+1)+(x.length-n))*32) room)=true:=by rw[xb1 (by omega),Qar,Qij];rfl
 have z0:∀{k:Nat},Nat.beq k 0=true->k=0:=λ{k} h=>Qad h
 have fin:∀m r,m=x.length+1->r=bL tP (zc0 x y n)->Rd (one (r1L tP)) (some (.sl 0 0 m 0,[⟨57,4,r,true,false,0⟩])) (λr=>r≠[]/\r.length<=x.length+1/\∀p∈r,p=y\/p∈x) :=
  λm r hm hr=>bf5 (by rw[hlen];exact hm) hr ⟨hne,by omega,hmem⟩
 have tail:Rd (one (r1L tP)) (some (.sl 0 0 (((0+n)+1)+(x.length-n)) 0,[⟨57,4,app (bL tP (x.take n++[y])) (bL tP (x.drop n)),true,false,0⟩])) (λr=>r≠[]/\r.length<=x.length+1/\∀p∈r,p=y\/p∈x):=by
  refine fin _ _ (by omega) ?_
  rw[cb5];unfold zc0;rw[List.append_assoc];rfl
 have same:∀p:Pln,(p.n.x==y.n.x&&(p.n.y==y.n.y&&(p.n.z==y.n.z&&(p.b==y.b&&true))))=true->n<x.length->Rd (one (r1L tP)) (some (eL tP x,[])) (λr=>r≠[]/\r.length<=x.length+1/\∀p∈r,p=y\/p∈x):=λp _ hn =>
  ⟨_,x,rfl,Sd4 tP x,List.ne_nil_of_length_pos (by omega),Nat.le_succ _,λp hp=>Or.inr hp⟩
 unfold jb8;simp only[g8,i5];rw[h1];simp only[Int.toNat_natCast,Ed9 x n h3,Fd0,lt,ld,b1,b2,e0,b3,me8,l3,b4,hlo,f0];have main:Rd (one (r1L tP)) (sl (decide ((n:Int)<(x.length:Int))) (sl (inB (n:Int) x.length) (sl (((gL tP x n).n.x==y.n.x)&&(((gL tP x n).n.y==y.n.y)&&(((gL tP x n).n.z==y.n.z)&&(((gL tP x n).b==y.b)&&true)))) (some (eL tP x,[])) (some (.sl 0 0 (((0+n)+1)+(x.length-n)) 0,[⟨57,4,app (bL tP (x.take n++[y])) (bL tP (x.drop n)),true,false,0⟩]))) none) (some (.sl 0 0 (((0+n)+1)+(x.length-n)) 0,[⟨57,4,app (bL tP (x.take n++[y])) (bL tP (x.drop n)),true,false,0⟩]))) (λr=>r≠[]/\r.length<=x.length+1/\∀p∈r,p=y\/p∈x):=by
  by_cases hn:n<x.length
  ·rw[btD (l0 hn),bt (f7 hn)];exact Rd.sl (λq=>same _ q hn) λ_=>tail
  ·rw[bfD (k9 hn)];exact tail
 rcases h2 with rfl|rfl
 ·exact main
 ·exact main
theorem xf3(x:PLq)(y:Pln)(hx:x.length<=1000000):Fa5 x y=true:=(Ef5 x y hx).g
structure Fc(ph:Nat)(out:PLq)(m:Nat):Prop where
 h:(ph=0/\out=[])\/ph=1
 l:out.length<=m
theorem Fc.more{ph m m':Nat}{out:PLq}(h:Fc ph out m)(hm:m<=m'):Fc ph out m':=⟨h.h,Qai h.l hm⟩
theorem Ef6(l:PLq)(n:Int):(two (r1L tP) r1I).rd (.tup [eL tP l,i n],[])=some (l,n):=by
 have h:(r1L tP).rd [] (eL tP l)=some l:=by
  show Bool.rec (motive:=λ_=>Option PLq) none (some (rt tP l)) (Bool.and (Nat.beq tP.es tP.es) (okE tP l))=_
  rw[g8,B7,Qij];rfl
 simp only[two,h];rfl
def phV(out:List V3):Nat:=match out with
 |[]=>0
 |_::_=>1
theorem bf6(l:List V3)(x1 x2 x3:Int):app (bL tV l) [[i x1,i x2,i x3]]=bL tV (l++[⟨x1,x2,x3⟩]):=cb5 tV l [⟨x1,x2,x3⟩]
theorem Qf0{n:Nat}{l:List V3}(hn:l.length=n)(h:n<=1000000000):(Nat.beq n (len (bL tV l))&&Nat.ble ((n+1)*24) room)=true:=by
 subst hn;rw[Ba4,Qij,Bool.true_and,Nat.ble_eq];unfold room;omega
theorem Ef7{l:List V3}{n:Nat}{r:List (List a7)}{P:List V3->Prop}(hn:n=l.length)(hr:r=bL tV l)(h:P l):Rd (one (r1L tV)) (some (.sl 0 0 n 0,[⟨52,3,r,true,false,0⟩])) P:=by
 subst hn hr;refine⟨_,l,rfl,?_,h⟩;show Bool.rec (motive:=λ_=>Option (List V3)) none (some (slR tV (bL tV l) 0 l.length)) (Bool.and true (okS tV (bL tV l) 0 l.length))=_
 rw[Wc5,yd4];rfl
theorem Ef8{α:Type}(t:Ty α)(k:Nat)(l:List α):(one (r1L t)).rd (.sl 0 0 l.length 0,[⟨k,t.es,bL t l,true,false,0⟩])=some l:=by
 show Bool.rec (motive:=λ_=>Option (List α)) none (some (slR t (bL t l) 0 l.length)) (Bool.and (Nat.beq t.es t.es) (okS t (bL t l) 0 l.length))=_
 rw[Wc5,yd4,Qij];rfl
theorem Rb3(v:V3):Ba8 v=inV v/\Ba9 v=true:=by
 have h3:[v.x,v.y,v.z].length<=1000000000:=by simp
 have:Cb1 v=some (b (inV v),[]):=by
  unfold Cb1 inV;simp only[ad8 24 _ (by omega) h3,ad9 24 _ (by omega) h3,f0]
  simp only[List.all_cons,List.all_nil,Qii]
 unfold Ba8 Ba9;rw[this];exact⟨rfl,rfl⟩
def has(c:PLq)(v:V3):Bool:=(chk c==0)&&(inV v&&inn c ⟨v.x,v.y,v.z,1⟩)
def apart(a c:PLq):Bool:=!((chk a==0)&&(chk c==0))||!bg0 (a++c++ws)
def onc(X:List Pt)(p:Pln):Nat:=X.countP λx=>rm p x==0
def keep(X:List Pt)(p:Pln):Bool:=!decide ((onc X p:Int)<3)
theorem Pc5{α:Type}(c:α->Bool):∀l:List α,(l.take (l.findIdx c)).filter (λx=>!c x)=l.take (l.findIdx c)
 |[]=>rfl
 |x::l=>by
  rw[Qiv];cases h:c x with
  |true=>rfl
  |false =>
   simp only[cond_false,List.take_succ_cons,List.filter_cons,h,Bool.not_false,if_true];rw[Pc5 c l]
theorem ye4{α:Type}(l:List α)(j:Nat)(h:j<l.length):l.take (j+1)=l.take j++[l[j]]:=by rw[List.take_succ_eq_append_getElem h]
theorem xc0{α:Type}(t:Ty α){l:List α}{j:Nat}(h:j<l.length):l.take (j+1)=l.take j++[gL t l j]:=by rw[ye4 l j h,Mb0 t h]
theorem bd3{α:Type}(t:Ty α){l r:List α}{j:Nat}(h:l.drop j=r.drop j):gL t l j=gL t r j:=by
 have h1:=rd7 t l j 0;have h2:=rd7 t r j 0;rw[Nat.add_zero] at h1 h2;rw[<- h1,<- h2,h]
theorem Pc6{α:Type}{l r:List α}{j:Nat}(h:l.drop j=r.drop j)(k:Nat):l.drop (j+k)=r.drop (j+k):=by rw[<- List.drop_drop,<- List.drop_drop,h]
structure Del(l:PLq)(f:Pln->Bool)(cur:PLq)(m j:Nat):Prop where
 len:cur.length=l.length
 t:cur.take m=(l.take j).filter f
 d:cur.drop j=l.drop j
 le:m<=j
 lm:m<=l.length
theorem of8(l:PLq)(n:Nat):i9 (bL tP l) n=bL tP (l.drop n):=by unfold bL;rw[D3,i8,i8,List.map_drop]
def eqP(x y:Pln):Bool:=x.n.x==y.n.x&&(x.n.y==y.n.y&&(x.n.z==y.n.z&&(x.b==y.b&&true)))
theorem Pc7(x y:Pln):eqP x y=true↔x=y:=by
 unfold eqP;simp only[Qii,Qas,beq_iff_eq];refine⟨λ⟨h1,h2,h3,h4⟩=>?_,λh=>by subst h;exact⟨rfl,rfl,rfl,rfl⟩⟩
 obtain⟨⟨x1,x2,x3⟩,x4⟩:=x;obtain⟨⟨y1,y2,y3⟩,y4⟩:=y
 simp only at h1 h2 h3 h4
 subst h1 h2 h3 h4;rfl
def ddF:Pln->PLq->PLq
 |_,[]=>[]
 |a,x::l=>if eqP x a then ddF x l else x::ddF x l
def dd:PLq->PLq
 |[]=>[]
 |x::l=>x::ddF x l
structure Cmp(l:PLq)(n:Nat)(cur:PLq)(m j:Nat)(R:PLq):Prop where
 len:cur.length=l.length
 t:cur.take m++ddF (gL tP l (j-1)) ((l.take n).drop j)=R
 d:cur.drop (j-1)=l.drop (j-1)
 le:m+1<=j
theorem bf7(l:PLq)(n:Nat)(hn:n<=l.length):slR tP (bL tP l) 0 n=l.take n:=yd3 tP (by rw[Qie];omega) λk hk=>by
 rw[Qar,Ea9 tP (by omega)]
 congr 1;simp[gL,Qda,Qap,hk]
theorem bf8(l:PLq)(n:Nat)(hn:n<=l.length):okS tP (bL tP l) 0 n=true:=cc5 tP (f:=λk=>gL tP l k) λk hk=>by rw[Qar,Ea9 tP (by omega)]
end Go.Ev.Ce
namespace Go.Ev.Ce
open Go Go.Ev Go.Ev.L Go.Proofs Go.Sort
theorem Fd1(l:PLq):List.Perm (Ac9 l) l:=List.mergeSort_perm l _
theorem Pe0(x y z:Pln)(h1:(!ltOf ra8 y x)=true)(h2:(!ltOf ra8 z y)=true):(!ltOf ra8 z x)=true:=by
 simp only[Qcc,jb5,decide_eq_false_iff_not] at *
 unfold LtP at *
 omega
theorem Pe1(x y:Pln):((!ltOf ra8 y x)||!ltOf ra8 x y)=true:=by
 simp only[Qcg,Qcc,jb5,decide_eq_false_iff_not];unfold LtP;omega
theorem ae8(l:PLq):(Ac9 l).Pairwise λx y=>(!ltOf ra8 y x)=true:=List.pairwise_mergeSort Pe0 Pe1 l
instance:DecidableEq Pln:=λx y=>decidable_of_iff _ (Pc7 x y)
def PC:List Pt:=[⟨0,0,0,1⟩,⟨0,0,1,4⟩,⟨0,1,0,3⟩,⟨1,0,0,2⟩]
end Go.Ev.Ce
namespace Go.Ev.Ce
open Go Go.Ev Go.Ev.L Go.Proofs
set_option maxRecDepth 100000
structure zc1 where
structure rc2 where
structure rc3 where
structure zc2 where
 alt:Nat
structure bd4 where
structure Pc8 where
structure Pc9 where
structure bd5 where
 alt:Nat
structure Ld9 where
structure Md0 where
 alt:Nat
theorem of9(p q:Pln):ta4 p q=some (i (ra8 p q),[]):=by
 have key:∃t s,lp (G6 ⟨p.n.x,p.n.y,p.n.z,p.b,q.n.x,q.n.y,q.n.z,q.b⟩) ⟨0⟩=(t,s)/\((t=1/\ra8 p q=-1)\/(t=2/\ra8 p q=1)\/(t=3/\ra8 p q=0)):=by
  refine ga3 (step:=G6 ⟨p.n.x,p.n.y,p.n.z,p.b,q.n.x,q.n.y,q.n.z,q.b⟩) (mk:=λj (_:Unit)=>(⟨(j:Int)⟩:P1)) 4
   (λj _=>(1<=j->p.n.x=q.n.x)/\(2<=j->p.n.y=q.n.y)/\(3<=j->p.n.z=q.n.z)/\(4<=j->p.b=q.b))
   (λt s=>(t=1/\ra8 p q=-1)\/(t=2/\ra8 p q=1)\/(t=3/\ra8 p q=0)) (by omega) (λj x hj hI=>?_) (λj x hj hI=>?_) 0 () ⟨by omega,by omega,by omega,by omega⟩
  ·have hn:=m8 hj (show 4<=4611686018427387904 by omega)
   simp only[G6,ba8,Int.toNat_natCast,hn];have hlt:(j:Int)<4:=by omega
   have hin:=f7 hj;have g:∀x1 x2 x3 x4:Int,((Nat.ble ((0+(j*1))+1) 4)&&(bb3 [CK.int .i64] (i9 [i x1,i x2,i x3,i x4] (0+(j*1)))))=true:=by
    intro x1 x2 x3 x4
    match j,hj with
    |0,_=>rfl
    |1,_=>rfl
    |2,_=>rfl
    |3,_=>rfl
   rw[btD hlt];simp only[hin,g,f0];obtain⟨i1,i2,i3,i4⟩:=hI
   match j,hj with
   |0,_ =>
    show Nx (sl (decide (p.n.x<q.n.x)) _ (sl (decide (p.n.x>q.n.x)) _ _)) _ _;refine Nx.sl (λh=>.ex ?_) λh=>Nx.sl (λh'=>.ex ?_) λh'=>.nx ⟨(),rfl,?_⟩<;>simp only[decide_eq_true_eq,decide_eq_false_iff_not] at h
    ·left;exact⟨rfl,by simp[ra8,bb2,h]⟩
    ·right;left;simp only[decide_eq_true_eq] at h';exact⟨rfl,by simp[ra8,bb2,h,h']⟩
    ·simp only[decide_eq_false_iff_not] at h';exact⟨by omega,by omega,by omega,by omega⟩
   |1,_ =>
    have j1:=i1 (by omega)
    show Nx (sl (decide (p.n.y<q.n.y)) _ (sl (decide (p.n.y>q.n.y)) _ _)) _ _;refine Nx.sl (λh=>.ex ?_) λh=>Nx.sl (λh'=>.ex ?_) λh'=>.nx ⟨(),rfl,?_⟩<;>simp only[decide_eq_true_eq,decide_eq_false_iff_not] at h
    ·left;exact⟨rfl,by simp[ra8,bb2,h,j1]⟩
    ·right;left;simp only[decide_eq_true_eq] at h';exact⟨rfl,by simp[ra8,bb2,h,h',j1]⟩
    ·simp only[decide_eq_false_iff_not] at h';exact⟨λ_=>j1,by omega,by omega,by omega⟩
   |2,_ =>
    have j1:=i1 (by omega);have j2:=i2 (by omega)
    show Nx (sl (decide (p.n.z<q.n.z)) _ (sl (decide (p.n.z>q.n.z)) _ _)) _ _;refine Nx.sl (λh=>.ex ?_) λh=>Nx.sl (λh'=>.ex ?_) λh'=>.nx ⟨(),rfl,?_⟩<;>simp only[decide_eq_true_eq,decide_eq_false_iff_not] at h
    ·left;exact⟨rfl,by simp[ra8,bb2,h,j1,j2]⟩
    ·right;left;simp only[decide_eq_true_eq] at h';exact⟨rfl,by simp[ra8,bb2,h,h',j1,j2]⟩
    ·simp only[decide_eq_false_iff_not] at h';exact⟨λ_=>j1,λ_=>j2,by omega,by omega⟩
   |3,_ =>
    have j1:=i1 (by omega);have j2:=i2 (by omega);have j3:=i3 (by omega)
    show Nx (sl (decide (p.b<q.b)) _ (sl (decide (p.b>q.b)) _ _)) _ _;refine Nx.sl (λh=>.ex ?_) λh=>Nx.sl (λh'=>.ex ?_) λh'=>.nx ⟨(),rfl,?_⟩<;>simp only[decide_eq_true_eq,decide_eq_false_iff_not] at h
    ·left;exact⟨rfl,by simp[ra8,bb2,h,j1,j2,j3]⟩
    ·right;left;simp only[decide_eq_true_eq] at h';exact⟨rfl,by simp[ra8,bb2,h,h',j1,j2,j3]⟩
    ·simp only[decide_eq_false_iff_not] at h';exact⟨λ_=>j1,λ_=>j2,λ_=>j3,by omega⟩
  ·simp only[G6,ba8];rw[bfD (by omega)]
   obtain⟨i1,i2,i3,i4⟩:=hI;have j1:=i1 (by omega);have j2:=i2 (by omega);have j3:=i3 (by omega);have j4:=i4 (by omega)
   exact⟨_,rfl,.inr (.inr ⟨rfl,by simp[ra8,bb2,j1,j2,j3,j4]⟩)⟩
 obtain⟨t,s,h1,h2⟩:=key;unfold ta4
 simp only
 rw[h1]
 rcases h2 with⟨rfl,e⟩|⟨rfl,e⟩|⟨rfl,e⟩<;>rw[e]<;>rfl
theorem Ef9(p q:Pln):ta5 p q=ra8 p q:=by unfold ta5;rw[of9];rfl
def atP(x:PLq)(y:Pln):Nat:=x.findIdx λp=>!decide (ra8 p y<0)
def ins(x:PLq)(y:Pln):PLq:=if (atP x y<x.length/\eqP (gL tP x (atP x y)) y=true) then x else zc0 x y (atP x y)
def ob1(l:PLq):Prop:=l.Pairwise LtP
theorem Sd6{x y z:Pln}(h1:LtP x y)(h2:LtP y z):LtP x z:=by unfold LtP at *;omega
theorem rd8(x:Pln):¬ LtP x x:=by unfold LtP;omega
theorem Fe9(x y:Pln):LtP x y\/x=y\/LtP y x:=by
 by_cases h1:LtP x y
 ·exact .inl h1
 ·by_cases h2:LtP y x
  ·exact .inr (.inr h2)
  ·refine .inr (.inl ?_);unfold LtP at h1 h2;have e1:x.n.x=y.n.x:=by omega
   have e2:x.n.y=y.n.y:=by omega
   have e3:x.n.z=y.n.z:=by omega
   have e4:x.b=y.b:=by omega
   cases x with | mk n b=>cases y with | mk m c=>cases n;cases m;simp_all
theorem bd6:∀{l r:PLq},ob1 l->ob1 r->(∀p,p∈l↔p∈r)->l=r
 |[],[],_,_,_=>rfl
 |[],b::r,_,_,h=>by have:=(h b).2 Qch;cases this
 |a::l,[],_,_,h=>by have:=(h a).1 Qch;cases this
 |a::l,b::r,hl,hr,h=>by
  obtain⟨hl1,hl2⟩:=Qik.1 hl;obtain⟨hr1,hr2⟩:=Qik.1 hr;have hab:a=b:=by
   rcases Qbi.1 ((h a).1 Qch) with e|h1
   ·exact e
   ·rcases Qbi.1 ((h b).2 Qch) with e|h2
    ·exact e.symm
    ·exact absurd (Sd6 (hr1 a h1) (hl1 b h2)) (rd8 b)
  subst hab;rw[bd6 hl2 hr2 λp=>?_]
  constructor
  ·intro hp
   rcases Qbi.1 ((h p).1 (Qck _ hp)) with e|h1
   ·subst e;exact absurd (hl1 p hp) (rd8 p)
   ·exact h1
  ·intro hp
   rcases Qbi.1 ((h p).2 (Qck _ hp)) with e|h1
   ·subst e;exact absurd (hr1 p hp) (rd8 p)
   ·exact h1
def Ib3:PLq->Pln->PLq
 |[],y=>[y]
 |a::l,y=>if ra8 a y<0 then a::Ib3 l y else if eqP a y then a::l else y::a::l
theorem bf9(y:Pln):∀x,ins x y=Ib3 x y
 |[]=>rfl
 |a::l=>by
  have ih:=bf9 y l;unfold Ib3;by_cases h:ra8 a y<0
  ·rw[if_pos h,<- ih];have e:atP (a::l) y=atP l y+1:=by unfold atP;rw[Qiv];simp[h]
   unfold ins;rw[e];have e2:gL tP (a::l) (atP l y+1)=gL tP l (atP l y):=rfl;rw[e2];simp only[List.length_cons,Nat.add_lt_add_iff_right];split
   ·rfl
   ·rfl
  ·rw[if_neg h];have e:atP (a::l) y=0:=by unfold atP;rw[Qiv];simp[h]
   unfold ins;rw[e];have e2:gL tP (a::l) 0=a:=rfl;rw[e2];simp only[List.length_cons,Nat.zero_lt_succ,true_and];split
   ·rfl
   ·rfl
theorem Xb6(y p:Pln):∀x,p∈Ib3 x y↔p=y\/p∈x
 |[]=>by simp[Ib3]
 |a::l=>by
  unfold Ib3;have ih:=Xb6 y p l;split
  ·simp only[Qbi,ih];constructor
   ·rintro (h|h|h)
    ·exact .inr (.inl h)
    ·exact .inl h
    ·exact .inr (.inr h)
   ·rintro (h|h|h)
    ·exact .inr (.inl h)
    ·exact .inl h
    ·exact .inr (.inr h)
  ·split
   ·rename_i h;rw[Pc7] at h;subst h;simp only[Qbi];constructor
    ·exact λh=>.inr h
    ·rintro (h|h)
     ·exact .inl h
     ·exact h
   ·simp only[Qbi]
theorem Qc0(y:Pln):∀{x},ob1 x->ob1 (Ib3 x y)
 |[],_=>List.pairwise_singleton _ _
 |a::l,h=>by
  obtain⟨h1,h2⟩:=Qik.1 h;unfold Ib3;split
  ·rename_i hc;rw[Zd7] at hc;refine Qik.2 ⟨λp hp=>?_,Qc0 y h2⟩
   rcases (Xb6 y p l).1 hp with e|hp
   ·subst e;exact hc
   ·exact h1 p hp
  ·rename_i hc;rw[Zd7] at hc;split
   ·exact h
   ·rename_i hne;have hlt:LtP y a:=by
     rcases Fe9 y a with h|h|h
     ·exact h
     ·exact absurd ((Pc7 _ _).2 h.symm) hne
     ·exact absurd h hc
    refine Qik.2 ⟨λp hp=>?_,h⟩
    rcases Qbi.1 hp with e|hp
    ·subst e;exact hlt
    ·exact Sd6 hlt (h1 p hp)
theorem ae9{σ:Type}{step:σ->Stp σ}{s:σ}{t:Nat}(h:step s=.exit t):lp step s=(t,s):=by rw[Ue5];exact yd0 h
theorem Pe2:Ac9 []=[]:=Qbh (wc6 [])
end Go.Ev.Ce
namespace Go.Ev.Ce
def rmZ(p:Pln)(x:Pt):Int:=p.b*x.pw-(p.n.x*x.px+p.n.y*x.py+p.n.z*x.pz)
structure Inr(r:List Pln)(x:Pt):Prop where
 w:0<x.pw
 h:∀p∈r,0<=rmZ p x
def ua8(p:Pln):Pln:=⟨⟨-p.n.x,-p.n.y,-p.n.z⟩,-p.b⟩
structure Cn(r:List Pln)(x:Pt):Prop extends Inr r x where
 c:∃p q s,p∈r/\q∈r/\s∈r/\mw p q s≠0/\rmZ p x=0/\rmZ q x=0/\rmZ s x=0
def Bdd(r:List Pln):Prop:=∀d:V3,d≠⟨0,0,0⟩->∃p∈r,0<dot p.n d
def go(x:Pt)(q:Pln)(d:V3):Pt:=⟨x.px*dot q.n d+rmZ q x*d.x,x.py*dot q.n d+rmZ q x*d.y,x.pz*dot q.n d+rmZ q x*d.z,x.pw*dot q.n d⟩
theorem Ge0(p q:Pln)(x:Pt)(d:V3):rmZ p (go x q d)=dot q.n d*rmZ p x-rmZ q x*dot p.n d:=by simp only[rmZ,go,dot];grind
theorem mb0{a b c:Int}(hc:0<c)(h:a*c<=b*c):a<=b:=Int.le_of_mul_le_mul_right h hc
theorem first(x:Pt)(d:V3):∀r:List Pln,(∀p∈r,0<=rmZ p x)->(∃p∈r,0<dot p.n d)->∃q∈r,0<dot q.n d/\∀p∈r,0<dot p.n d->rmZ q x*dot p.n d<=rmZ p x*dot q.n d
 |[],_,h=>by obtain⟨p,hp,_⟩:=h;cases hp
 |a::r,hx,h=>by
  by_cases hr:∃p∈r,0<dot p.n d
  ·obtain⟨q,hq,h1,h2⟩:=first x d r (λp hp=>hx p (Qck _ hp)) hr
   by_cases ha:0<dot a.n d
   ·by_cases hc:rmZ q x*dot a.n d<=rmZ a x*dot q.n d
    ·grind
    ·refine⟨a,Qch,ha,λp hp h3=>?_⟩
     rcases Qbi.1 hp with rfl|hp
     ·exact Int.le_refl _
     ·have h4:=h2 p hp h3;have h5:rmZ a x*dot q.n d<rmZ q x*dot a.n d:=by omega
      have h6:=Qil h4 (Qif ha);have h7:=Int.mul_lt_mul_of_pos_right h5 h3;have e1:rmZ q x*dot p.n d*dot a.n d=rmZ q x*dot a.n d*dot p.n d:=by grind
      have e2:rmZ a x*dot q.n d*dot p.n d=rmZ a x*dot p.n d*dot q.n d:=by grind
      have e3:rmZ p x*dot q.n d*dot a.n d=rmZ p x*dot a.n d*dot q.n d:=by grind
      refine mb0 h1 ?_;omega
   grind
  grind
theorem step{r:List Pln}{x:Pt}(hx:Inr r x)(d:V3)(h:∃p∈r,0<dot p.n d):∃q∈r,0<dot q.n d/\Inr r (go x q d):=by
 obtain⟨q,hq,h1,h2⟩:=first x d r hx.h h;refine⟨q,hq,h1,⟨Int.mul_pos hx.w h1,λp hp=>?_⟩⟩
 rw[Ge0];have h3:=hx.h p hp;have h4:=hx.h q hq;by_cases h5:0<dot p.n d
 ·grind
 ·have h6:=Qid (Qif h1) h3;have h7:rmZ q x*dot p.n d<=0:=Int.mul_nonpos_of_nonneg_of_nonpos h4 (by omega)
  omega
theorem cf0{h q:Pln}{x:Pt}{d:V3}(h1:0<=rmZ q x)(h2:0<=dot h.n d):rmZ h (go x q d)*x.pw<=rmZ h x*(go x q d).pw\/x.pw<=0:=by
 rcases Int.lt_or_le 0 x.pw with hw|hw
 ·left;rw[Ge0]
  have:=Qid h1 h2
  have h3:=Qid this (Qif hw);have e:rmZ h x*(go x q d).pw=dot q.n d*rmZ h x*x.pw:=by unfold go;grind
  grind
 ·exact .inr hw
def neg(d:V3):V3:=⟨-d.x,-d.y,-d.z⟩
theorem rd9(a d:V3):dot a (neg d)=-dot a d:=by unfold dot neg;grind
theorem be0{d:V3}(h:d≠⟨0,0,0⟩):neg d≠⟨0,0,0⟩:=λh'=>h (by
 cases d;unfold neg at h';simp only[V3.mk.injEq] at h' ⊢;omega)
theorem turn(h:Pln){d:V3}(hd:d≠⟨0,0,0⟩):∃e,e≠(⟨0,0,0⟩:V3)/\0<=dot h.n e/\∀a,dot a d=0->dot a e=0:=by
 by_cases h1:0<=dot h.n d
 ·grind
 ·exact⟨neg d,be0 hd,by rw[rd9];omega,λa h=>by rw[rd9,h];rfl⟩
theorem Qf1{n:V3}(hn:n≠⟨0,0,0⟩):∃d,d≠(⟨0,0,0⟩:V3)/\dot n d=0:=by
 by_cases h:n.x=0/\n.y=0
 ·exact⟨⟨1,0,0⟩,by simp,by unfold dot;simp[h.1]⟩
 ·refine⟨⟨n.y,-n.x,0⟩,λh'=>h ?_,by unfold dot;grind⟩
  simp_all
theorem V3.ext'{a b:V3}(h1:a.x=b.x)(h2:a.y=b.y)(h3:a.z=b.z):a=b:=by cases a;cases b;simp_all
theorem cf1{m n d:V3}(hm:m≠⟨0,0,0⟩)(h1:dot m d=0)(h2:dot n d≠0):d7 m n≠⟨0,0,0⟩:=λh=>by
 unfold d7 at h;simp only[V3.mk.injEq] at h;obtain⟨c1,c2,c3⟩:=h;unfold dot at h1 h2;have e1:m.x*(n.x*d.x+n.y*d.y+n.z*d.z)=0:=by grind
 have e2:m.y*(n.x*d.x+n.y*d.y+n.z*d.z)=0:=by grind
 have e3:m.z*(n.x*d.x+n.y*d.y+n.z*d.z)=0:=by grind
 have k:∀{a:Int},a*(n.x*d.x+n.y*d.y+n.z*d.z)=0->a=0:=λh=>(Qib.1 h).resolve_right h2
 exact hm (V3.ext' (k e1) (k e2) (k e3))
theorem me9(a b:V3):dot a (d7 a b)=0:=by unfold dot d7;grind
theorem ne0(a b:V3):dot b (d7 a b)=0:=by unfold dot d7;grind
theorem cf2{p q:Pln}{x:Pt}{d:V3}(h:rmZ p x=0)(h':dot p.n d=0):rmZ p (go x q d)=0:=by rw[Ge0,h,h'];simp
theorem cf3(q:Pln)(x:Pt)(d:V3):rmZ q (go x q d)=0:=by rw[Ge0];grind
theorem Qf2{q:Pln}{d:V3}(h:0<dot q.n d):q.n≠⟨0,0,0⟩:=λh'=>by rw[h'] at h;unfold dot at h;simp at h
theorem xf4{a b c u v w:Int}(hu:0<u)(hv:0<v)(hw:0<w)(h1:a*v<=b*u)(h2:b*w<=c*v):a*w<=c*u:=by
 have h3:=Qil h1 (Qif hw);have h4:=Qil h2 (Qif hu);have e1:a*v*w=a*w*v:=by grind
 have e2:b*u*w=b*w*u:=by grind
 have e3:c*v*u=c*u*v:=by grind
 exact mb0 hv (by omega)
theorem Ff0{r:List Pln}(hb:Bdd r)(h:Pln){x:Pt}(hx:Inr r x):∃v,Cn r v/\rmZ h v*x.pw<=rmZ h x*v.pw:=by
 obtain⟨d0,n0,p0,_⟩:=turn h (d:=⟨1,0,0⟩) (by simp)
 obtain⟨q1,m1,k1,i1⟩:=step hx d0 (hb d0 n0);have l1:=(cf0 (h:=h) (x:=x) (hx.h q1 m1) p0).resolve_right (by have:=hx.w;omega)
 obtain⟨e1,ne1,he1⟩:=Qf1 (Qf2 k1);obtain⟨d1,n1,p1,z1⟩:=turn h ne1;obtain⟨q2,m2,k2,i2⟩:=step i1 d1 (hb d1 n1);have l2:=(cf0 (h:=h) (x:=go x q1 d0) (i1.h q2 m2) p1).resolve_right (by have:=i1.w;omega)
 have hc:=cf1 (Qf2 k1) (z1 _ he1) (n:=q2.n) (by omega)
 obtain⟨d2,n2,p2,z2⟩:=turn h hc;obtain⟨q3,m3,k3,i3⟩:=step i2 d2 (hb d2 n2);have l3:=(cf0 (h:=h) (x:=go (go x q1 d0) q2 d1) (i2.h q3 m3) p2).resolve_right (by have:=i2.w;omega)
 have a1:rmZ q1 (go (go x q1 d0) q2 d1)=0:=cf2 (cf3 _ _ _) (z1 _ he1);refine⟨_,⟨i3,q3,q1,q2,m3,m1,m2,λh0=>?_,cf3 _ _ _,cf2 a1 (z2 _ (me9 _ _)),cf2 (cf3 _ _ _) (z2 _ (ne0 _ _))⟩,?_⟩
 ·have:dot q3.n d2=0:=z2 _ h0
  omega
 ·exact xf4 i3.w i2.w hx.w l3 (xf4 i2.w i1.w hx.w l2 l1)
theorem ic4{r:List Pln}(hb:Bdd r){h:Pln}(hv:∀v,Cn r v->0<=rmZ h v){x:Pt}(hx:Inr r x):0<=rmZ h x:=by
 obtain⟨v,h1,h2⟩:=Ff0 hb h hx;have h3:=Qid (hv v h1) (Qif hx.w);exact mb0 h1.w (by rw[Qiq];omega)
def bg1(r:List Pln):Prop:=∃x:Pt,0<x.pw/\∀p∈r,0<rmZ p x
structure Eqv(x v:Pt):Prop where
 e1:x.px*v.pw=v.px*x.pw
 e2:x.py*v.pw=v.py*x.pw
 e3:x.pz*v.pw=v.pz*x.pw
theorem Eqv.rm{x v:Pt}(h:Eqv x v)(p:Pln):rmZ p x*v.pw=rmZ p v*x.pw:=by
 obtain⟨e1,e2,e3⟩:=h;unfold rmZ
 grind
theorem Eqv.inr{r:List Pln}{x v:Pt}(h:Eqv x v)(hw:0<x.pw)(hv:Inr r v):Inr r x:=⟨hw,λp hp=>by
 have:=h.rm p
 have h2:=Qid (hv.h p hp) (Qif hw);exact mb0 hv.w (by rw[Qiq];omega)⟩
end Go.Ev.Ce
namespace Go.Ev.Ce
open Go Go.Ev Go.Ev.L Go.Proofs
structure Hit(r:PLq)(Q:Pt->Prop)(p q s:Pln):Prop where
 h1:(mpt p q s).2=true
 h2:inn r (mpt p q s).1=true
 h3:Q (mpt p q s).1
theorem Ff1(c:PLq):Bdd (c++ws):=λd hd=>by
 have k:∀{n:V3} {m:Int},(⟨n,m⟩:Pln)∈ws->0<dot n d->∃p∈c++ws,0<dot p.n d:=λh h'=>⟨_,Qce _ h,h'⟩
 by_cases h1:0<d.x
 ·exact k (n:=⟨1,0,0⟩) (m:=24) (by simp[ws]) (by unfold dot;simp;omega)
 by_cases h2:d.x<0
 ·exact k (n:=⟨-1,0,0⟩) (m:=24) (by simp[ws]) (by unfold dot;simp;omega)
 by_cases h3:0<d.y
 ·exact k (n:=⟨0,1,0⟩) (m:=24) (by simp[ws]) (by unfold dot;simp;omega)
 by_cases h4:d.y<0
 ·exact k (n:=⟨0,-1,0⟩) (m:=24) (by simp[ws]) (by unfold dot;simp;omega)
 by_cases h5:0<d.z
 ·exact k (n:=⟨0,0,1⟩) (m:=24) (by simp[ws]) (by unfold dot;simp;omega)
 by_cases h6:d.z<0
 ·exact k (n:=⟨0,0,-1⟩) (m:=24) (by simp[ws]) (by unfold dot;simp;omega)
 exact absurd (V3.ext' (by show d.x=0;omega) (by show d.y=0;omega) (by show d.z=0;omega)) hd
theorem pf0(x:PLq)(y:Pln):Ib3 x y≠[]:=by
 intro h
 have:=(Xb6 y y x).2 (.inl rfl)
 rw[h] at this;cases this
theorem Xb7(y:Pln):∀x:PLq,(Ib3 x y).length<=x.length+1
 |[]=>Qaf _
 |a::l=>by
  have:=Xb7 y l
  unfold Ib3;split
  ·simp only[List.length_cons];omega
  ·split<;>simp only[List.length_cons]<;>omega
def phP(out:PLq):Nat:=match out with
 |[]=>0
 |_::_=>1
def P8(p:Pln)(v:V3):Int:=if okp p&&inV v then (if dot p.n v-p.b<0 then -1 else if dot p.n v-p.b>0 then 1 else 0) else 0
theorem cf4{p:Pln}{v:V3}(hp:Bd p)(hv:inV v=true):Sm 331776 (dot p.n v):=by
 obtain⟨⟨a1,a2⟩,⟨a3,a4⟩,a5,a6⟩:=(Mb5 v).1 hv;have r1:=mb hp.x1 hp.x2 a1 a2;have r2:=mb hp.y1 hp.y2 a3 a4;have r3:=mb hp.z1 hp.z2 a5 a6;unfold Sm dot;omega
theorem pf1(p:Pln)(v:V3):Ya4 p v=some (i (P8 p v),[]):=by
 unfold Ya4 P8;simp only[af9,me5,Fe7,me7];cases hp:okp p with
 |false=>rfl
 |true =>
  cases hv:inV v with
  |false=>rfl
  |true =>
   have hb:=Ed6 hp;have hd:=cf4 hb hv;have e:Fa0 p.n v=dot p.n v:=by
    unfold Fa0;simp only[Hc7,Zc3];exact qc9 (hd.mono (by omega))
   have e2:W (dot p.n v-p.b)=dot p.n v-p.b:=eb6 (by have:=hd.1;have:=hb.b2;omega) (by have:=hd.2;have:=hb.b1;omega)
   rw[e,e2];by_cases h1:dot p.n v-p.b<0
   ·simp only[Qig,if_true,h1,decide_true];rfl
   ·by_cases h2:dot p.n v-p.b>0
    ·simp only[Qig,if_true,h1,h2,decide_true,decide_false,if_false];rfl
    ·simp only[Qig,if_true,h1,h2,decide_false,if_false];rfl
theorem be1(p:Pln)(v:V3):Ja6 p v=P8 p v:=by unfold Ja6;rw[pf1];rfl
theorem Qc1{p:Pln}{v:V3}(hp:okp p=true)(hv:inV v=true):P8 p v>0↔dot p.n v>p.b:=by
 unfold P8;rw[hp,hv];simp only[Qig,if_true];split
 ·omega
 ·split<;>omega
theorem Xb8{p:Pln}{v:V3}(hp:okp p=true)(hv:inV v=true):P8 p v=0↔dot p.n v=p.b:=by
 unfold P8;rw[hp,hv];simp only[Qig,if_true];split
 ·omega
 ·split<;>omega
theorem Ff2(v:V3):g3 v∣v.x/\g3 v∣v.y/\g3 v∣v.z:=by
 unfold g3;refine⟨?_,?_,?_⟩<;>rw[<- Int.dvd_natAbs]<;>apply Int.natCast_dvd_natCast.2
 ·exact Qiu (Qio _ _) (Qio _ _)
 ·exact Qiu (Qio _ _) (Qip _ _)
 ·exact Qip _ _
theorem Ff3(v:V3)(h:g3 v≠0):g3 ⟨Int.tdiv v.x (g3 v),Int.tdiv v.y (g3 v),Int.tdiv v.z (g3 v)⟩=1:=by
 generalize hg:g3 v=g at *
 have h0:0<=g:=hg ▸ wc8 v;obtain⟨n,rfl⟩:∃n:Nat,g=n:=⟨g.toNat,by omega⟩
 have hn:0<n:=by omega
 have hgn:Nat.gcd (Nat.gcd v.x.natAbs v.y.natAbs) v.z.natAbs=n:=by unfold g3 at hg;omega
 have d1:n∣Nat.gcd v.x.natAbs v.y.natAbs:=hgn ▸ Qio _ _;have d3:n∣v.z.natAbs:=hgn ▸ Qip _ _;have d4:n∣v.x.natAbs:=Qiu d1 (Qio _ _);have d5:n∣v.y.natAbs:=Qiu d1 (Qip _ _);unfold g3;simp only[Int.natAbs_tdiv,Int.natAbs_natCast];show ((Nat.gcd (Nat.gcd (v.x.natAbs / n) (v.y.natAbs / n)) (v.z.natAbs / n):Nat):Int)=1;rw[Nat.gcd_div d4 d5,Nat.gcd_div d1 d3,hgn,Nat.div_self hn];rfl
structure Thr(a b c:V3)(p:Pln):Prop where
 ok:okp p=true
 k:∃g:Int,0<g/\g*p.n.x=(d7 (sub b a) (sub c a)).x/\g*p.n.y=(d7 (sub b a) (sub c a)).y/\g*p.n.z=(d7 (sub b a) (sub c a)).z
 o:p.b=dot p.n a
theorem Ca6{a b c:V3}(h:(G7 a b c).2=true):(inV a=true/\inV b=true/\inV c=true)/\Thr a b c (G7 a b c).1:=by
 unfold G7 at h ⊢;cases ha:inV a with
 |false=>rw[ha] at h;cases h
 |true =>
  cases hb:inV b with
  |false=>rw[ha,hb] at h;cases h
  |true =>
   cases hc:inV c with
   |false=>rw[ha,hb,hc] at h;cases h
   |true =>
    rw[ha,hb,hc] at h;simp only[Qig,if_true] at h ⊢;obtain⟨_,k1,k2,k3⟩:=Rb2 ha hb hc;generalize hn:d7 (sub b a) (sub c a)=n at *
    by_cases h0:g3 n=0
    ·rw[if_pos h0] at h;cases h
    ·rw[if_neg h0];have hp:=wc8 n;obtain⟨d1,d2,d3⟩:=Ff2 n;have q1:=xb5 (g:=g3 n) k1 (by omega)
     have q2:=xb5 (g:=g3 n) k2 (by omega)
     have q3:=xb5 (g:=g3 n) k3 (by omega)
     refine⟨⟨trivial,trivial,trivial⟩,⟨?_,⟨g3 n,by omega,by rw[hn];exact Qir d1,by rw[hn];exact Qir d2,by rw[hn];exact Qir d3⟩,rfl⟩⟩
     obtain⟨⟨a1,a2⟩,⟨a3,a4⟩,a5,a6⟩:=(Mb5 a).1 ha;have r1:=mb q1.1 q1.2 a1 a2;have r2:=mb q2.1 q2.2 a3 a4;have r3:=mb q3.1 q3.2 a5 a6;unfold okp;rw[Ff3 n h0];simp only[List.all_cons,List.all_nil,Qii,Qas,ec1,beq_self_eq_true,true_and,and_true];refine⟨⟨q1,q2,q3⟩,?_⟩;unfold Sm dot
     simp only
     omega
theorem Ge1(a b c:V3):Bd (G7 a b c).1:=by
 cases h:(G7 a b c).2 with
 |true=>exact Ed6 (Ca6 h).2.ok
 |false =>
  have:(G7 a b c).1=⟨⟨0,0,0⟩,0⟩:=by
   unfold G7 at h ⊢;split
   ·rename_i hc;rw[if_pos hc] at h;split
    ·rfl
    ·rename_i h0;rw[if_neg h0] at h;cases h
   ·rfl
  rw[this]
  constructor<;>simp
theorem cf5{p:Pln}(h:Bd p):jb6 p=ua8 p:=by
 unfold jb6 Oa7 ua8
 simp only
 have:=h.x1;have:=h.x2;have:=h.y1;have:=h.y2;have:=h.z1;have:=h.z2;have:=h.b1;have:=h.b2
 rw[eb6 (by omega) (by omega),eb6 (by omega) (by omega),eb6 (by omega) (by omega),eb6 (by omega) (by omega)]
 simp only[Int.zero_sub]
theorem Qc2{p:Pln}(h:okp p=true):okp (ua8 p)=true:=by
 unfold okp ua8 g3 at *
 simp only[List.all_cons,List.all_nil,Qii,Qas,ec1,Int.natAbs_neg] at h ⊢;obtain⟨⟨h1,h2,h3⟩,h4,h5⟩:=h;exact⟨⟨h1.neg,h2.neg,h3.neg⟩,h4,h5.neg⟩
def Pe3(l:List V3)(p:Pln):Bool:=l.any λv=>P8 p v != 0
def nf(l:List V3)(a c k:Nat):Bool:=(G7 (gL tV l a) (gL tV l c) (gL tV l k)).2&&Pe3 l (G7 (gL tV l a) (gL tV l c) (gL tV l k)).1
def nf2(l:List V3)(a c:Nat):Bool:=(List.range c).any (nf l a c)
def nf1(l:List V3)(a:Nat):Bool:=(List.range a).any (nf2 l a)
def nf0(l:List V3):Bool:=(List.range l.length).any (nf1 l)
theorem sb9{σ:Type}{step:σ->Stp σ}{mk:Nat->σ}(n:Nat)(c:Nat->Bool)(u fin:Nat)(hn:n<=1000000000)(h:∀j,j<n->step (mk j)=sl (c j) (.exit u) (.next (mk (j+1))))(hf:step (mk n)=.exit fin) :
  ∃j,lp step (mk 0)=(if (List.range n).any c then u else fin,mk j):=by
 have key:=ga3 (step:=step) (mk:=λj (_:Unit)=>mk j) n (λj _=>j<=n/\∀i,i<j->c i=false) (λt s=>t=(if (List.range n).any c then u else fin)/\∃j,s=mk j) hn
  (λj _ hj hi=>by
   rw[h j hj];refine Nx.sl (λhc=>.ex ⟨?_,j,rfl⟩) (λhc=>.nx ⟨(),rfl,by omega,λi hi'=>?_⟩)
   ·rw[if_pos (Qic.2 ⟨j,Qca.2 hj,hc⟩)]
   ·by_cases e:i=j
    ·rw[e];exact hc
    ·exact hi.2 i (by omega))
  (λj _ hj hi=>by
   have e:j=n:=by omega
   subst e;refine⟨fin,hf,?_,j,rfl⟩;rw[if_neg λhh=>?_]
   obtain⟨i,hi1,hi2⟩:=Qic.1 hh;rw[hi.2 i (Qca.1 hi1)] at hi2;cases hi2) 0 () ⟨by omega,by omega⟩
 obtain⟨t,s,h1,rfl,j,rfl⟩:=key;exact⟨j,h1⟩
theorem cf6(l:List V3)(x1 x2 x3:Int)(okb:Bool)(p:Pln)(hl:l.length<=1000000000):∃t s,lp (D1 ⟨l,x1,x2,x3,okb,p.n.x,p.n.y,p.n.z,p.b⟩) ⟨0⟩=(t,s)/\(((okb&&Pe3 l p)=true/\t=1)\/((okb&&Pe3 l p)=false/\(t=2\/t=3))):=by
 cases okb with
 |false =>
  cases l with
  |nil =>
   refine⟨3,⟨0⟩,?_,.inr ⟨rfl,.inr rfl⟩⟩;exact ae9 (step:=D1 ⟨[],x1,x2,x3,false,p.n.x,p.n.y,p.n.z,p.b⟩) rfl
  |cons v l =>
   refine⟨2,⟨0⟩,?_,.inr ⟨rfl,.inl rfl⟩⟩;refine ae9 (step:=D1 ⟨v::l,x1,x2,x3,false,p.n.x,p.n.y,p.n.z,p.b⟩) ?_;simp only[D1,ka5];rw[btD (by simp only[List.length_cons];omega)]
   rfl
 |true =>
  have h:=qc5 (step:=D1 ⟨l,x1,x2,x3,true,p.n.x,p.n.y,p.n.z,p.b⟩) (mk:=λj=>(⟨(j:Int)⟩:fa7)) (c:=λv=>P8 p v != 0) (u:=1) (fin:=3) tV l hl
   (λj hj=>by
    simp only[D1,ka5,bd2,be1,Int.toNat_natCast,m8 hj (show l.length<=4611686018427387904 by omega)]
    rw[btD (l0 hj),bt (f7 hj)]
    rfl)
   (by simp only[D1,ka5];rw[bfD (k9 (Qia _))]) 0 (Qbw _)
  rw[Qih] at h;have h:(lp (D1 ⟨l,x1,x2,x3,true,p.n.x,p.n.y,p.n.z,p.b⟩) ⟨0⟩).1=_:=h;cases hlp:lp (D1 ⟨l,x1,x2,x3,true,p.n.x,p.n.y,p.n.z,p.b⟩) ⟨0⟩ with
  |mk t s =>
  rw[hlp] at h;refine⟨t,s,rfl,?_⟩
  simp only at h
  rw[h];unfold Pe3;cases hh:l.any λv=>P8 p v != 0 with
  |true=>exact .inl ⟨rfl,rfl⟩
  |false=>exact .inr ⟨rfl,.inr rfl⟩
theorem cf7(l:List V3)(hl:l.length<=1000000000)(a c:Nat)(ha:a<l.length)(hc:c<a):∃j,lp (S8 ⟨(a:Int),(c:Int)⟩) ⟨l,0⟩=(if nf2 l a c then 1 else 2,⟨l,((j:Nat):Int)⟩) :=
 sb9 (step:=S8 ⟨(a:Int),(c:Int)⟩) (mk:=λj=>(⟨l,(j:Int)⟩:fa8)) c (nf l a c) 1 2 (by omega)
  (λj hj=>by
   simp only[S8,wa3,bd1,wc9,Int.toNat_natCast,g8,i5,m8 hj (show c<=4611686018427387904 by omega)]
   rw[btD (l0 hj),bt (f7 ha),bt (f7 (show c<l.length by omega)),bt (f7 (show j<l.length by omega)),f0]
   obtain⟨t,s,h1,h2⟩:=cf6 l (a:Int) (c:Int) (j:Int) (G7 (gL tV l a) (gL tV l c) (gL tV l j)).2 (G7 (gL tV l a) (gL tV l c) (gL tV l j)).1 hl;rw[h1];unfold nf
   rcases h2 with⟨e,rfl⟩|⟨e,rfl|rfl⟩<;>rw[e]<;>rfl)
  (by simp only[S8,wa3];rw[bfD (k9 (Qia _))])
theorem cf8(l:List V3)(hl:l.length<=1000000000)(a:Nat)(ha:a<l.length):∃j,lp (S9 ⟨(a:Int)⟩) ⟨l,0⟩=(if nf1 l a then 1 else 2,⟨l,((j:Nat):Int)⟩) :=
 sb9 (step:=S9 ⟨(a:Int)⟩) (mk:=λj=>(⟨l,(j:Int)⟩:fa9)) a (nf2 l a) 1 2 (by omega)
  (λj hj=>by
   obtain⟨j',h1⟩:=cf7 l hl a j ha hj;simp only[S9,wa4,g8,i5,m8 hj (show a<=4611686018427387904 by omega)]
   rw[btD (l0 hj),h1];cases nf2 l a j<;>rfl)
  (by simp only[S9,wa4];rw[bfD (k9 (Qia _))])
theorem pf2(l:List V3)(hl:l.length<=1000000000):Ya5 l=some (b (!nf0 l),[]):=by
 obtain⟨j,h⟩:=sb9 (step:=T0 ⟨⟩) (mk:=λj=>(⟨l,(j:Int)⟩:ga0)) l.length (nf1 l) 1 2 hl
  (λj hj=>by
   obtain⟨j',h1⟩:=cf8 l hl j hj;simp only[T0,wa5,g8,i5,m8 hj (show l.length<=4611686018427387904 by omega)]
   rw[btD (l0 hj),h1];cases nf1 l j<;>rfl)
  (by simp only[T0,wa5];rw[bfD (k9 (Qia _))])
 have h:lp (T0 ⟨⟩) ⟨l,0⟩=(if nf0 l then 1 else 2,⟨l,((j:Nat):Int)⟩):=h
 unfold Ya5;simp only[g8,i5];rw[h];cases nf0 l<;>rfl
theorem Ff4(l:List V3)(hl:l.length<=1000000000):Cb3 l=!nf0 l:=by unfold Cb3;rw[pf2 l hl];rfl
def zc3(l:List V3):Int:=if (l.length:Int)>48 then 2 else if l.all inV then (if nf0 l then 0 else 11) else 3
theorem ye5(l:List V3)(hl:l.length<=1000000000):Ja7 l=some (i (zc3 l),[]):=by
 have h:=qc5 (step:=aa2 ⟨l⟩) (mk:=λj=>(⟨(j:Int)⟩:db3)) (c:=λv=>!inV v) (u:=1) (fin:=2) tV l hl
  (λj hj=>by
   simp only[aa2,pa9,Int.toNat_natCast,Fe7,me7,m8 hj (show l.length<=4611686018427387904 by omega)]
   rw[btD (l0 hj),bt (f7 hj),f0])
  (by simp only[aa2,pa9];rw[bfD (k9 (Qia _))]) 0 (Qbw _)
 rw[Qih] at h;have e:(l.any λv=>!inV v)=!l.all inV:=by rw[Qix]
 unfold Ja7 zc3;simp only[g8,i5,B7,bf2 l hl,Ff4 l hl];rw[show (⟨0⟩:db3)=⟨((0:Nat):Int)⟩ from rfl,h,e]
 by_cases h48:(l.length:Int)>48
 ·rw[if_pos h48,btD h48]
 ·rw[if_neg h48,bfD h48];cases l.all inV with
  |false=>rfl
  |true=>cases nf0 l<;>rfl
theorem Sd7(l:List V3)(hl:l.length<=1000000000):Lb6 l=zc3 l:=by unfold Lb6;rw[ye5 l hl];rfl
def hold(p:Pln)(l:List V3):Bool:=!l.any λv=>decide (P8 p v>0)
theorem cf9(p:Pln)(l:List V3)(hl:l.length<=1000000000):Ja8 p l=some (b (hold p l),[]):=by
 have h:=qc5 (step:=aa3 ⟨l,p.n.x,p.n.y,p.n.z,p.b⟩) (mk:=λj=>(⟨(j:Int)⟩:O6)) (c:=λv=>decide (P8 p v>0)) (u:=1) (fin:=2) tV l hl
  (λj hj=>by
   simp only[aa3,qa0,Int.toNat_natCast,be1,bd2,m8 hj (show l.length<=4611686018427387904 by omega)]
   rw[btD (l0 hj),bt (f7 hj),f0])
  (by simp only[aa3,qa0];rw[bfD (k9 (Qia _))]) 0 (Qbw _)
 rw[Qih] at h;unfold Ja8 hold;simp only[g8,i5];rw[show (⟨0⟩:O6)=⟨((0:Nat):Int)⟩ from rfl,h]
 cases l.any λv=>decide (P8 p v>0)<;>rfl
theorem pf7(p:Pln)(l:List V3)(hl:l.length<=1000000000):Aa8 p l=hold p l:=by unfold Aa8;rw[cf9 p l hl];rfl
theorem ye6 (x:PLq) (y:Pln) (hx:x.length≤1000000):Rd (one (r1L tP)) (jb8 x y) (fun r=>r=ins x y):=by
  have h:=ga1 (step:=Y5 ⟨x,y.n.x,y.n.y,y.n.z,y.b⟩) (mk:=fun j=>(⟨(j:Int)⟩:O6)) (c:=fun p=>!decide (ra8 p y < 0)) (u:=1) (fin:=2) tP x (by omega)
    (fun j hj=>by
      simp only[Y5,Fa3,Int.toNat_natCast,bf4,Ef9,m8 hj (show x.length<=4611686018427387904 by omega)]
      rw[btD (l0 hj),bt (f7 hj),f0];show sl (decide (ra8 (gL tP x j) y<0)) _ _=_;cases decide (ra8 (gL tP x j) y<0)<;>rfl)
    (by simp only[Y5,Fa3];rw[bfD (k9 (Qia _))]) 0 (Qbw _)
  rw[Qih] at h
  have key:∃ t,lp (Y5 ⟨x,y.n.x,y.n.y,y.n.z,y.b⟩) ⟨0⟩=(t,⟨((atP x y:Nat):Int)⟩)∧(t=1∨t=2):=by
    rw[show (⟨0⟩:O6)=⟨((0:Nat):Int)⟩ from rfl,h]
    split
    · exact⟨1,by rw[Qar];rfl,.inl rfl⟩
    · rename_i hn
      refine⟨2,?_,.inr rfl⟩
      have:atP x y=x.length:=by
        unfold atP;rw[List.findIdx_eq_length];intro p hp;cases hb:(!decide (ra8 p y<0)) with
        |false=>rfl
        |true=>exact absurd (Qic.2 ⟨p,hp,hb⟩) hn
      rw[this]
  obtain⟨t,h1,h2⟩:=key;have h3:atP x y<=x.length:=Qiy;have hdef:ins x y=if (atP x y<x.length/\eqP (gL tP x (atP x y)) y=true) then x else zc0 x y (atP x y):=rfl
  generalize atP x y=n at *
  have hlo:inB (n:Int) (x.length+1)=true:=f7 (by omega)
  have hd:(bL tP (x.take n)).length=n:=by rw[<- j6,Ba4,Qie];omega
  have hlen:(zc0 x y n).length=x.length+1:=by unfold zc0;simp only[Qdc,List.length_cons,Qie,Qin];omega
  have lt:len (bL tP (x.take n))=n:=by rw[j6];exact hd
  have ld:len (bL tP (x.drop n))=x.length-n:=by rw[Ba4,Qin]
  have b1:(Nat.beq 1 1&&Nat.ble ((1+(x.length-n))*32) room)=true:=by rw[xb1 (by omega)];rfl
  have b2:(Nat.beq 0 0&&Nat.ble ((0+n)*32) room)=true:=by rw[xb1 (by omega)];rfl
  have e0:app [] (bL tP (x.take n))=bL tP (x.take n):=rfl;have b3:(Nat.beq (0+n) n&&Nat.ble (((0+n)+1)*32) room)=true:=by rw[xb1 (by omega),Qar,Qij];rfl
  have l3:len (bL tP (x.take n++[y]))=n+1:=by rw[Ba4,Qdc,Qie];simp only[List.length_singleton];omega
  have b4:(Nat.beq ((0+n)+1) (n+1)&&Nat.ble ((((0+n)+1)+(x.length-n))*32) room)=true:=by rw[xb1 (by omega),Qar,Qij];rfl
  have z0:∀{k:Nat},Nat.beq k 0=true->k=0:=λ{k} h=>Qad h
  have fin:ins x y=zc0 x y n→∀ m r,m=x.length+1→r=bL tP (zc0 x y n)→Rd (one (r1L tP)) (some (.sl 0 0 m 0,[⟨57,4,r,true,false,0⟩])) (fun r=>r=ins x y) :=
    λhq m r hm hr=>bf5 (by rw[hlen];exact hm) hr hq.symm
  have tail:ins x y=zc0 x y n→Rd (one (r1L tP)) (some ((.sl 0 0 (((0+n)+1)+(x.length - n)) 0),[⟨57,4,(app (bL tP (x.take n++[y])) (bL tP (x.drop n))),true,false,0⟩])) (fun r=>r=ins x y):=fun hq=>by
    refine fin hq _ _ (by omega) ?_
    rw[cb5];unfold zc0;rw[List.append_assoc];rfl
  unfold jb8;simp only[g8,i5];rw[h1];simp only[Int.toNat_natCast,Ed9 x n h3,Fd0,lt,ld,b1,b2,e0,b3,me8,l3,b4,hlo,f0]
  have main:Rd (one (r1L tP)) (sl (decide ((n:Int) < (x.length:Int))) (sl (inB (n:Int) x.length) (sl (((gL tP x n).n.x==y.n.x)&&(((gL tP x n).n.y==y.n.y)&&(((gL tP x n).n.z==y.n.z)&&(((gL tP x n).b==y.b)&&true)))) (some (eL tP x,[])) (some ((.sl 0 0 (((0+n)+1)+(x.length - n)) 0),[⟨57,4,(app (bL tP (x.take n++[y])) (bL tP (x.drop n))),true,false,0⟩]))) none) (some ((.sl 0 0 (((0+n)+1)+(x.length - n)) 0),[⟨57,4,(app (bL tP (x.take n++[y])) (bL tP (x.drop n))),true,false,0⟩]))) (fun r=>r=ins x y):=by
    by_cases hn:n<x.length
    · rw[btD (l0 hn),bt (f7 hn)]
      exact Rd.sl (fun q=>⟨_,x,rfl,Sd4 tP x,by rw[hdef,if_pos ⟨hn,q⟩]⟩) fun q=>tail (by
        rw[hdef,if_neg λh=>?_]
        have h:=h.2;rw[show eqP (gL tP x n) y=false from q] at h
        cases h)
    · rw[bfD (k9 hn)]
      exact tail (by rw[hdef,if_neg λh=>hn h.1])
  rcases h2 with rfl|rfl
  · exact main
  · exact main
theorem df0(x:PLq)(y:Pln)(hx:x.length<=1000000):Fa4 x y=Ib3 x y:=(ye6 x y hx).p.trans (bf9 y x)
def Mb6(l:List V3)(a c:Nat)(out:PLq)(k:Nat):PLq :=
  if (G7 (gL tV l a) (gL tV l c) (gL tV l k)).2 then
    (if hold (ua8 (G7 (gL tV l a) (gL tV l c) (gL tV l k)).1) l then Ib3 (if hold (G7 (gL tV l a) (gL tV l c) (gL tV l k)).1 l then Ib3 out (G7 (gL tV l a) (gL tV l c) (gL tV l k)).1 else out) (ua8 (G7 (gL tV l a) (gL tV l c) (gL tV l k)).1)
     else (if hold (G7 (gL tV l a) (gL tV l c) (gL tV l k)).1 l then Ib3 out (G7 (gL tV l a) (gL tV l c) (gL tV l k)).1 else out))
  else out
def F2(l:List V3)(a:Nat)(out:PLq)(c:Nat):PLq:=(List.range c).foldl (Mb6 l a c) out
def F1(l:List V3)(out:PLq)(a:Nat):PLq:=(List.range a).foldl (F2 l a) out
def F0(l:List V3):PLq:=(List.range l.length).foldl (F1 l) []
theorem xc1(x:PLq)(y:Pln):phP (Ib3 x y)=1:=by
  cases h:Ib3 x y with
  |nil=>exact absurd h (pf0 _ _)
  |cons _ _=>rfl
theorem bd7(l:List V3)(a c:Nat)(out:PLq)(k:Nat):(Mb6 l a c out k).length<=out.length+2:=by
  unfold Mb6;split
  · split
    · refine Qai (Xb7 _ _) ?_
      split
      · have:=Xb7 (G7 (gL tV l a) (gL tV l c) (gL tV l k)).1 out;omega
      · omega
    · split
      · have:=Xb7 (G7 (gL tV l a) (gL tV l c) (gL tV l k)).1 out;omega
      · omega
  · omega
theorem o8{τ:Type}(f:τ->Nat->τ)(a:τ)(n:Nat):(List.range (n+1)).foldl f a=f ((List.range n).foldl f a) n:=by
  rw[List.range_succ,List.foldl_append];rfl
theorem Xb9{f:PLq->Nat->PLq}{m:Nat}(h:∀o k,(f o k).length<=o.length+m)(o:PLq):∀n,((List.range n).foldl f o).length<=o.length+m*n
  |0=>Qaf _
  | n+1=>by
    rw[o8];have h1:=h ((List.range n).foldl f o) n;have h2:=Xb9 h o n;rw[Nat.mul_succ];omega
theorem Qf3(l:List V3)(hl:l.length<=48)(a c:Nat)(ha:a<l.length)(hc:c<a)(out:PLq)(ho:out.length<=900000) :
    ∃j,lp (ka6 ⟨l,(a:Int),(c:Int)⟩) ⟨phP out,0,out⟩=(phP (F2 l a out c)+1,⟨phP (F2 l a out c),((j:Nat):Int),F2 l a out c⟩):=by
  have key:=ga3 (step:=ka6 ⟨l,(a:Int),(c:Int)⟩) (mk:=fun j (o:PLq)=>(⟨phP o,(j:Int),o⟩:C4)) c (fun j o=>j≤c∧o=(List.range j).foldl (Mb6 l a c) out) (fun t s=>t=phP (F2 l a out c)+1∧∃ j:Nat,s=⟨phP (F2 l a out c),(j:Int),F2 l a out c⟩) (by omega)
    (fun j o hj hi=>by
      obtain⟨_,hi⟩:=hi
      have hlen:o.length≤990000:=by
        rw[hi]
        have:=Xb9 (bd7 l a c) out j
        omega
      have hn:=m8 hj (show c<=4611686018427387904 by omega)
      have hh:∀p,ra9 p l=true:=λp=>of7 p l (by omega)
      have hp:∀p,Aa8 p l=hold p l:=λp=>pf7 p l (by omega)
      have hg1:∀y,Fa5 o y=true:=λy=>xf3 o y (by omega)
      have hq1:∀y,Fa4 o y=Ib3 o y:=λy=>df0 o y (by omega)
      have hg2:∀y z,Fa5 (Ib3 o y) z=true:=λy z=>xf3 _ z (by have:=Xb7 y o;omega)
      have hq2:∀y z,Fa4 (Ib3 o y) z=Ib3 (Ib3 o y) z:=λy z=>df0 _ z (by have:=Xb7 y o;omega)
      have hfl:jb6 (G7 (gL tV l a) (gL tV l c) (gL tV l j)).1=ua8 (G7 (gL tV l a) (gL tV l c) (gL tV l j)).1:=cf5 (Ge1 _ _ _)
      have fin : ∀ {s : C4}, s = ⟨phP (Mb6 l a c o j), ((j + 1 : Nat) : Int), Mb6 l a c o j⟩ → Nx (.next s) (fun t => t = phP (F2 l a out c) + 1 ∧ ∃ j' : Nat, (⟨phP o, (j : Int), o⟩ : C4) = ⟨phP (F2 l a out c), (j' : Int), F2 l a out c⟩)
          (λs=>∃o',s=(⟨phP o',((j+1:Nat):Int),o'⟩:C4)/\(j+1<=c/\o'=(List.range (j+1)).foldl (Mb6 l a c) out)):=λ{s} hs =>
        .nx ⟨_,hs,by omega,by rw[o8,<- hi]⟩
      clear hi
      unfold Mb6 at fin;generalize hT:G7 (gL tV l a) (gL tV l c) (gL tV l j)=T at *
      have hb1:inB (a:Int) l.length=true:=f7 ha;have hb2:inB (c:Int) l.length=true:=f7 (by omega)
      have hb3:inB (j:Int) l.length=true:=f7 (by omega)
      cases o with
      | nil =>
        show Nx (qa1 Stp.next Stp.exit Stp.fail _ _) _ _;simp only[qa1,bd1,wc9,Int.toNat_natCast,g8,B7,hT,hh,hp,hfl,hg1,hq1,hg2,hq2,hn,hb1,hb2,hb3];rw[btD (l0 hj)];cases h2:T.2 with
        |false=>exact fin (by rw[h2];rfl)
        | true =>
          cases h3:hold T.1 l with
          | false =>
            cases h4:hold (ua8 T.1) l with
            |false=>exact fin (by rw[h2,h3,h4];rfl)
            |true=>exact fin (by rw[h2,h3,h4];simp only[if_true,if_false,xc1,Qhc])
          | true =>
            cases h4:hold (ua8 T.1) l with
            |false=>exact fin (by rw[h2,h3,h4];simp only[if_true,if_false,xc1,Qhc])
            |true=>exact fin (by rw[h2,h3,h4];simp only[if_true,xc1])
      | cons q o =>
        show Nx (qa2 Stp.next Stp.exit Stp.fail _ _) _ _;simp only[qa2,bd1,wc9,Int.toNat_natCast,g8,B7,hT,hh,hp,hfl,hg1,hq1,hg2,hq2,hn,hb1,hb2,hb3];rw[btD (l0 hj)];cases h2:T.2 with
        |false=>exact fin (by rw[h2];rfl)
        | true =>
          cases h3:hold T.1 l with
          | false =>
            cases h4:hold (ua8 T.1) l with
            |false=>exact fin (by rw[h2,h3,h4];rfl)
            |true=>exact fin (by rw[h2,h3,h4];simp only[if_true,if_false,xc1,Qhc])
          | true =>
            cases h4:hold (ua8 T.1) l with
            |false=>exact fin (by rw[h2,h3,h4];simp only[if_true,if_false,xc1,Qhc])
            |true=>exact fin (by rw[h2,h3,h4];simp only[if_true,xc1]))
    (fun j o hj hi=>by
      obtain⟨h1,hi⟩:=hi;have e:j=c:=by omega
      subst e;have hF:o=F2 l a out j:=hi;rw[<- hF];cases o with
      | nil =>
        refine⟨1,?_,rfl,j,rfl⟩;show qa1 Stp.next Stp.exit Stp.fail _ _=_;simp only[qa1];rw[bfD (k9 (Qia _))]
      | cons q o =>
        refine⟨2,?_,rfl,j,rfl⟩;show qa2 Stp.next Stp.exit Stp.fail _ _=_;simp only[qa2];rw[bfD (k9 (Qia _))]) 0 out ⟨Qbw _,rfl⟩
  obtain⟨t,s,h1,rfl,j,rfl⟩:=key;exact⟨j,h1⟩
theorem Qf4(l:List V3)(hl:l.length<=48)(a:Nat)(ha:a<l.length)(out:PLq)(ho:out.length<=800000) :
    ∃j,lp (ka7 ⟨(a:Int)⟩) ⟨phP out,l,0,out⟩=(phP (F1 l out a)+1,⟨phP (F1 l out a),l,((j:Nat):Int),F1 l out a⟩):=by
  have hL2:∀o k,k<=48->(F2 l a o k).length<=o.length+96:=λo k hk=>by have:=Xb9 (bd7 l a k) o k;show ((List.range k).foldl (Mb6 l a k) o).length<=_;omega
  have hpre:∀ j,j≤a→((List.range j).foldl (F2 l a) out).length≤out.length+96*j:=by
    intro j
    induction j with
    |zero=>intro _;exact Qaf _
    | succ j ih =>
      intro h;rw[o8]
      have:=ih (by omega)
      have:=hL2 ((List.range j).foldl (F2 l a) out) j (by omega)
      omega
  have key:=ga3 (step:=ka7 ⟨(a:Int)⟩) (mk:=fun j (o:PLq)=>(⟨phP o,l,(j:Int),o⟩:C5)) a (fun j o=>j≤a∧o=(List.range j).foldl (F2 l a) out) (fun t s=>t=phP (F1 l out a)+1∧∃ j:Nat,s=⟨phP (F1 l out a),l,(j:Int),F1 l out a⟩) (by omega)
    (fun j o hj hi=>by
      obtain⟨hja,hi⟩:=hi;have hlen:o.length<=900000:=by rw[hi];have:=hpre j hja;omega
      have hn:=m8 hj (show a<=4611686018427387904 by omega)
      obtain⟨j',e1⟩:=Qf3 l hl a j ha hj o hlen
      have fin : ∀ {s : C5}, s = ⟨phP (F2 l a o j), l, ((j + 1 : Nat) : Int), F2 l a o j⟩ → Nx (.next s) (fun t => t = phP (F1 l out a) + 1 ∧ ∃ j' : Nat, (⟨phP o, l, (j : Int), o⟩ : C5) = ⟨phP (F1 l out a), l, (j' : Int), F1 l out a⟩)
          (λs=>∃o',s=(⟨phP o',l,((j+1:Nat):Int),o'⟩:C5)/\(j+1<=a/\o'=(List.range (j+1)).foldl (F2 l a) out)):=λ{s} hs =>
        .nx ⟨_,hs,by omega,by rw[o8,<- hi]⟩
      clear hi
      generalize hF:F2 l a o j=R at *
      cases o with
      | nil =>
        show Nx (qa3 Stp.next Stp.exit Stp.fail _ _) _ _;simp only[qa3,g8,i5,hn];have e1:lp (ka6 ⟨l,(a:Int),(j:Int)⟩) ⟨0,0,[]⟩=_:=e1;rw[btD (l0 hj),e1];cases R with
        |nil=>exact fin rfl
        |cons q R=>exact fin rfl
      | cons q o =>
        show Nx (qa4 Stp.next Stp.exit Stp.fail _ _) _ _;simp only[qa4,g8,i5,hn];have e1:lp (ka6 ⟨l,(a:Int),(j:Int)⟩) ⟨1,0,q::o⟩=_:=e1;rw[btD (l0 hj),e1];cases R with
        |nil=>exact fin rfl
        |cons q R=>exact fin rfl)
    (fun j o hj hi=>by
      obtain⟨h1,hi⟩:=hi;have e:j=a:=by omega
      subst e;have hF:o=F1 l out j:=hi;rw[<- hF];cases o with
      | nil =>
        refine⟨1,?_,rfl,j,rfl⟩;show qa3 Stp.next Stp.exit Stp.fail _ _=_;simp only[qa3];rw[bfD (k9 (Qia _))]
      | cons q o =>
        refine⟨2,?_,rfl,j,rfl⟩;show qa4 Stp.next Stp.exit Stp.fail _ _=_;simp only[qa4];rw[bfD (k9 (Qia _))]) 0 out ⟨Qbw _,rfl⟩
  obtain⟨t,s,h1,rfl,j,rfl⟩:=key;exact⟨j,h1⟩
theorem Qf5(l:List V3)(hl:l.length<=48) :
    ∃j,lp (db5 ⟨⟩) ⟨0,l,0,[]⟩=(phP (F0 l)+1,⟨phP (F0 l),l,((j:Nat):Int),F0 l⟩):=by
  have hL2:∀a o k,k<=48->(F2 l a o k).length<=o.length+96:=λa o k hk=>by have:=Xb9 (bd7 l a k) o k;show ((List.range k).foldl (Mb6 l a k) o).length<=_;omega
  have hL1:∀ o a,a≤48→∀ j,j≤a→((List.range j).foldl (F2 l a) o).length≤o.length+96*j:=by
    intro o a ha j
    induction j with
    |zero=>intro _;exact Qaf _
    | succ j ih =>
      intro h;rw[o8]
      have:=ih (by omega)
      have:=hL2 a ((List.range j).foldl (F2 l a) o) j (by omega)
      omega
  have hpre:∀ j,j≤l.length→((List.range j).foldl (F1 l) []).length≤5000*j:=by
    intro j
    induction j with
    |zero=>intro _;exact Qaf _
    | succ j ih =>
      intro h;rw[o8]
      have:=ih (by omega)
      have:(F1 l ((List.range j).foldl (F1 l) []) j).length<=_:=hL1 ((List.range j).foldl (F1 l) []) j (by omega) j (Qaf _)
      omega
  have key:=ga3 (step:=db5 ⟨⟩) (mk:=fun j (o:PLq)=>(⟨phP o,l,(j:Int),o⟩:D2)) l.length (fun j o=>j≤l.length∧o=(List.range j).foldl (F1 l) []) (fun t s=>t=phP (F0 l)+1∧∃ j:Nat,s=⟨phP (F0 l),l,(j:Int),F0 l⟩) (by omega)
    (fun j o hj hi=>by
      obtain⟨hja,hi⟩:=hi;have hlen:o.length<=800000:=by rw[hi];have:=hpre j hja;omega
      have hn:=m8 hj (show l.length<=4611686018427387904 by omega)
      obtain⟨j',e1⟩:=Qf4 l hl j hj o hlen
      have fin : ∀ {s : D2}, s = ⟨phP (F1 l o j), l, ((j + 1 : Nat) : Int), F1 l o j⟩ → Nx (.next s) (fun t => t = phP (F0 l) + 1 ∧ ∃ j' : Nat, (⟨phP o, l, (j : Int), o⟩ : D2) = ⟨phP (F0 l), l, (j' : Int), F0 l⟩)
          (λs=>∃o',s=(⟨phP o',l,((j+1:Nat):Int),o'⟩:D2)/\(j+1<=l.length/\o'=(List.range (j+1)).foldl (F1 l) [])):=λ{s} hs =>
        .nx ⟨_,hs,by omega,by rw[o8,<- hi]⟩
      clear hi
      generalize hF:F1 l o j=R at *
      cases o with
      | nil =>
        show Nx (qa5 Stp.next Stp.exit Stp.fail ⟨⟩ _) _ _;simp only[qa5,g8,i5,hn];have e1:lp (ka7 ⟨(j:Int)⟩) ⟨0,l,0,[]⟩=_:=e1;rw[btD (l0 hj),e1];cases R with
        |nil=>exact fin rfl
        |cons q R=>exact fin rfl
      | cons q o =>
        show Nx (qa6 Stp.next Stp.exit Stp.fail ⟨⟩ _) _ _;simp only[qa6,g8,i5,hn];have e1:lp (ka7 ⟨(j:Int)⟩) ⟨1,l,0,q::o⟩=_:=e1;rw[btD (l0 hj),e1];cases R with
        |nil=>exact fin rfl
        |cons q R=>exact fin rfl)
    (fun j o hj hi=>by
      obtain⟨h1,hi⟩:=hi;have e:j=l.length:=by omega
      subst e;have hF:o=F0 l:=hi;rw[<- hF];cases o with
      | nil =>
        refine⟨1,?_,rfl,_,rfl⟩;show qa5 Stp.next Stp.exit Stp.fail ⟨⟩ _=_;simp only[qa5];rw[bfD (k9 (Qia _))]
      | cons q o =>
        refine⟨2,?_,rfl,_,rfl⟩;show qa6 Stp.next Stp.exit Stp.fail ⟨⟩ _=_;simp only[qa6];rw[bfD (k9 (Qia _))]) 0 [] ⟨Qbw _,rfl⟩
  obtain⟨t,s,h1,rfl,j,rfl⟩:=key;exact⟨j,h1⟩
def be2(l:List V3):PLq×Int:=if zc3 l=0 then (F0 l,0) else ([],zc3 l)
theorem df1 (l:List V3) (hl:l.length≤48):Rd (two (r1L tP) r1I) (Ja9 l) (fun r=>r=be2 l):=by
  obtain⟨j,e1⟩:=Qf5 l hl;have hb:l.length<=1000000000:=by omega
  unfold Ja9 be2;simp only[g8,i5,B7,Sd5 l hb,Sd7 l hb,f0];rw[e1];by_cases h0:zc3 l=0
  · rw[if_pos h0,show (zc3 l != 0)=false by rw[h0];rfl,Lc7]
    cases hF:F0 l with
    |nil=>exact⟨_,([],0),rfl,rfl,rfl⟩
    |cons q o=>exact⟨_,(q::o,0),rfl,Ef6 (q::o) 0,rfl⟩
  · rw[if_neg h0,show (zc3 l != 0)=true by simpa using h0,f0]
    exact⟨_,([],zc3 l),rfl,rfl,rfl⟩
def Qc3(l:PLq)(p:Pln):Bool:=l.any λq=>eqP q p
theorem ne2(l:PLq)(p:Pln):Qc3 l p=true↔p∈l:=by
 unfold Qc3;rw[Qic];exact⟨λ⟨q,h,e⟩=>by rw[Pc7] at e;exact e ▸ h,λh=>⟨p,h,(Pc7 p p).2 rfl⟩⟩
def ipt(v:V3):Pt:=⟨v.x,v.y,v.z,1⟩
theorem Ff5{v:V3}(h:inV v=true):∀p∈ws,0<=rmZ p (ipt v):=by
 obtain⟨⟨a1,a2⟩,⟨a3,a4⟩,a5,a6⟩:=(Mb5 v).1 h;intro p hp;simp only[ws,Qbi,List.not_mem_nil,or_false] at hp
 rcases hp with rfl|rfl|rfl|rfl|rfl|rfl<;>simp only[rmZ,ipt]<;>omega
theorem ye7{p:Pln}(h:okp p=true):g3 p.n=1:=by
 unfold okp at h;simp only[Qas,beq_iff_eq] at h;exact h.2.1
theorem id4{p:Pln}(h:okp p=true):p.n≠⟨0,0,0⟩:=λe=>by
 have:=ye7 h
 rw[e] at this
 revert this
 decide
theorem df2(c:Int)(n:V3):g3 ⟨c*n.x,c*n.y,c*n.z⟩=c.natAbs*g3 n:=by
 unfold g3;simp only[Int.natAbs_mul,Nat.gcd_mul_left];rw[Int.natCast_mul]
theorem df3{m n:V3}(hm:g3 m=1)(hn:g3 n=1)(h:d7 m n=⟨0,0,0⟩):n=m\/n=neg m:=by
 unfold d7 at h;simp only[V3.mk.injEq] at h;obtain⟨c1,c2,c3⟩:=h;have k:∀{c d:Int},c*m.x=d*n.x->c*m.y=d*n.y->c*m.z=d*n.z->c.natAbs=d.natAbs:=λ{c d} e1 e2 e3=>by
  have a1:=df2 c m;have a2:=df2 d n;rw[e1,e2,e3,a2,hm,hn] at a1;omega
 have ax:=k (c:=n.x) (d:=m.x) (by grind) (by grind) (by grind)
 have ay:=k (c:=n.y) (d:=m.y) (by grind) (by grind) (by grind)
 have az:=k (c:=n.z) (d:=m.z) (by grind) (by grind) (by grind)
 have sg:∀{a c:Int},a.natAbs=c.natAbs->a=c\/a=-c:=λh=>by omega
 -- the sign of one component that is not zero is that of all
 have go:∀{s u t v:Int},u≠0->s*v=u*t->s=u->t=v:=λ{s u t v} hu h e=>by
  subst e;exact (Qiw hu h).symm
 have gn:∀{s u t v:Int},u≠0->s*v=u*t->s=-u->t=-v:=λ{s u t v} hu h e=>by
  subst e
  have:u*t=u*(-v):=by rw[<- h];grind
  exact Qiw hu this
 by_cases hx:m.x=0
 ·have hx':n.x=0:=by omega
  by_cases hy:m.y=0
  ·have hy':n.y=0:=by omega
   rcases sg az with e|e
   ·exact .inl (V3.ext' (by omega) (by omega) e)
   ·exact .inr (V3.ext' (by show n.x=-m.x;omega) (by show n.y=-m.y;omega) e)
  ·rcases sg ay with e|e
   ·exact .inl (V3.ext' (by omega) e (go hy (by grind) e))
   ·exact .inr (V3.ext' (by show n.x=-m.x;omega) e (gn hy (by grind) e))
 ·rcases sg ax with e|e
  ·exact .inl (V3.ext' e (go hx (by grind) e) (go hx (by grind) e))
  ·exact .inr (V3.ext' e (gn hx (by grind) e) (gn hx (by grind) e))
structure bg2(l:List V3):Prop where
 h:∃a c k v,a∈l/\c∈l/\k∈l/\v∈l/\dot (d7 (sub c a) (sub k a)) (sub v a)≠0
theorem gLm{l:List V3}{j:Nat}(h:j<l.length):gL tV l j∈l:=Ga7 tV h
theorem bg3{l:List V3}(hf:nf0 l=true):bg2 l:=by
 unfold nf0 at hf;obtain⟨a,ha,hf⟩:=Qic.1 hf;unfold nf1 at hf;obtain⟨c,hc,hf⟩:=Qic.1 hf;unfold nf2 at hf;obtain⟨k,hk,hf⟩:=Qic.1 hf;rw[Qca] at ha hc hk;unfold nf at hf;rw[Qas] at hf;obtain⟨h1,h2⟩:=hf;obtain⟨⟨i1,i2,i3⟩,⟨ok,⟨g,hg,e1,e2,e3⟩,o⟩⟩:=Ca6 h1;unfold Pe3 at h2;obtain⟨v,hv,h2⟩:=Qic.1 h2;generalize (G7 (gL tV l a) (gL tV l c) (gL tV l k)).1=p at *
 refine⟨_,_,_,v,gLm ha,gLm (show c<l.length by omega),gLm (show k<l.length by omega),hv,λh0=>?_⟩
 have hs:P8 p v≠0:=by simpa using h2
 have hiv:inV v=true:=by
  cases hi:inV v with
  |true=>rfl
  |false=>exact absurd (by unfold P8;rw[ok,hi];rfl) hs
 apply hs;rw[Xb8 ok hiv,o]
 have:g*(dot p.n v-dot p.n (gL tV l a))=dot (d7 (sub (gL tV l c) (gL tV l a)) (sub (gL tV l k) (gL tV l a))) (sub v (gL tV l a)):=by
  unfold dot;rw[<- e1,<- e2,<- e3];unfold sub
  grind
 rw[h0] at this
 have:=(Qib.1 this).resolve_left (by omega)
 omega
theorem Yb0{p:Pln}{l:List V3}(hp:okp p=true)(hl:l.all inV=true):hold p l=true↔∀v∈l,dot p.n v<=p.b:=by
 unfold hold;rw[Qcc,<- Bool.not_eq_true,Qic];constructor
 ·intro h v hv;have h1:¬ P8 p v>0:=λh'=>h ⟨v,hv,by simpa using h'⟩
  rw[Qc1 hp (Qcb.1 hl v hv)] at h1;omega
 ·rintro h ⟨v,hv,h1⟩;have h1:P8 p v>0:=by simpa using h1
  rw[Qc1 hp (Qcb.1 hl v hv)] at h1
  have:=h v hv
  omega
structure Fct(l:List V3)(p:Pln):Prop where
 ok:okp p=true
 hd:hold p l=true
theorem rc4(p:Pln)(v:V3):dot (ua8 p).n v=-dot p.n v:=by unfold dot ua8;grind
theorem Pe4(l:List V3)(a c k:Nat)(out:PLq)(p:Pln):p∈Mb6 l a c out k↔p∈out\/((G7 (gL tV l a) (gL tV l c) (gL tV l k)).2=true /\
  ((p=(G7 (gL tV l a) (gL tV l c) (gL tV l k)).1/\hold p l=true)\/(p=ua8 (G7 (gL tV l a) (gL tV l c) (gL tV l k)).1/\hold p l=true))):=by
 unfold Mb6;generalize G7 (gL tV l a) (gL tV l c) (gL tV l k)=T;cases h2:T.2 with
 |false=>simp
 |true =>
  simp only[if_true];cases h4:hold (ua8 T.1) l with
  |false =>
   simp only[Qhc,if_false];cases h3:hold T.1 l with
   |false =>
    simp only[Qhc,if_false];constructor
    ·exact λh=>.inl h
    ·rintro (h|⟨_,⟨rfl,h⟩|⟨rfl,h⟩⟩)
     ·exact h
     ·rw[h3] at h;cases h
     ·rw[h4] at h;cases h
   |true =>
    simp only[if_true,Xb6];constructor
    ·rintro (rfl|h)
     ·exact .inr ⟨trivial,.inl ⟨rfl,h3⟩⟩
     ·exact .inl h
    ·rintro (h|⟨_,⟨rfl,h⟩|⟨rfl,h⟩⟩)
     ·exact .inr h
     ·exact .inl rfl
     ·rw[h4] at h;cases h
  |true =>
   simp only[if_true,Xb6];cases h3:hold T.1 l with
   |false =>
    simp only[Qhc,if_false];constructor
    ·rintro (rfl|h)
     ·exact .inr ⟨trivial,.inr ⟨rfl,h4⟩⟩
     ·exact .inl h
    ·rintro (h|⟨_,⟨rfl,h⟩|⟨rfl,h⟩⟩)
     ·exact .inr h
     ·rw[h3] at h;cases h
     ·exact .inl rfl
   |true =>
    simp only[if_true,Xb6];constructor
    ·rintro (rfl|rfl|h)
     ·exact .inr ⟨trivial,.inr ⟨rfl,h4⟩⟩
     ·exact .inr ⟨trivial,.inl ⟨rfl,h3⟩⟩
     ·exact .inl h
    ·rintro (h|⟨_,⟨rfl,h⟩|⟨rfl,h⟩⟩)
     ·exact .inr (.inr h)
     ·exact .inr (.inl rfl)
     ·exact .inl rfl
theorem Db7{f:PLq->Nat->PLq}{Q:Nat->Pln->Prop}(h:∀o k p,p∈f o k↔p∈o\/Q k p)(o:PLq)(p:Pln):∀n,p∈(List.range n).foldl f o↔p∈o\/∃k,k<n/\Q k p
 |0=>by simp
 |n+1=>by
  rw[o8,h,Db7 h o p n];constructor
  ·rintro ((h|⟨k,hk,h⟩)|h)
   ·exact .inl h
   ·exact .inr ⟨k,by omega,h⟩
   ·exact .inr ⟨n,by omega,h⟩
  ·rintro (h|⟨k,hk,h⟩)
   ·exact .inl (.inl h)
   ·by_cases e:k=n
    ·subst e;exact .inr h
    ·exact .inl (.inr ⟨k,by omega,h⟩)
def Fq (l : List V3) (a c k : Nat) (p : Pln) : Prop := (G7 (gL tV l a) (gL tV l c) (gL tV l k)).2 = true ∧
  ((p=(G7 (gL tV l a) (gL tV l c) (gL tV l k)).1/\hold p l=true)\/(p=ua8 (G7 (gL tV l a) (gL tV l c) (gL tV l k)).1/\hold p l=true))
theorem Ff6(l:List V3)(a c:Nat)(out:PLq)(p:Pln):p∈F2 l a out c↔p∈out\/∃k,k<c/\Fq l a c k p:=Db7 (λo k p=>Pe4 l a c k o p) out p c
theorem Ff7(l:List V3)(a:Nat)(out:PLq)(p:Pln):p∈F1 l out a↔p∈out\/∃c,c<a/\∃k,k<c/\Fq l a c k p:=Db7 (λo c p=>Ff6 l a c o p) out p a
theorem ye8(l:List V3)(p:Pln):p∈F0 l↔∃a,a<l.length/\∃c,c<a/\∃k,k<c/\Fq l a c k p:=by
 have:=Db7 (λo a p=>Ff7 l a o p) [] p l.length
 simpa [F0] using this
theorem Pe5{l:List V3}{a c:Nat}{out:PLq}{k:Nat}(h:ob1 out):ob1 (Mb6 l a c out k):=by
 unfold Mb6;split
 ·split
  ·refine Qc0 _ ?_;split
   ·exact Qc0 _ h
   ·exact h
  ·split
   ·exact Qc0 _ h
   ·exact h
 ·exact h
theorem Qc4{f:PLq->Nat->PLq}(h:∀o k,ob1 o->ob1 (f o k)){o:PLq}(ho:ob1 o):∀n,ob1 ((List.range n).foldl f o)
 |0=>ho
 |n+1=>by rw[o8];exact h _ _ (Qc4 h ho n)
theorem Ff8{l:List V3}{a c:Nat}{out:PLq}(h:ob1 out):ob1 (F2 l a out c):=Qc4 (λ_ _ h=>Pe5 h) h c
theorem Ff9{l:List V3}{a:Nat}{out:PLq}(h:ob1 out):ob1 (F1 l out a):=Qc4 (λ_ _ h=>Ff8 h) h a
theorem Fd2(l:List V3):ob1 (F0 l):=Qc4 (λ_ _ h=>Ff9 h) .nil l.length
theorem Sd8{l:PLq}(h:ob1 l):l.Nodup:=List.Pairwise.imp (λ{x y} (h:LtP x y) (e:x=y)=>rd8 y (e ▸ h)) h
theorem ye9{l:List V3}{p:Pln}(hp:p∈F0 l):Fct l p:=by
 obtain⟨a,ha,c,hc,k,hk,h1,⟨h2,h3⟩|⟨h2,h3⟩⟩:=(ye8 l p).1 hp
 ·exact⟨h2 ▸ (Ca6 h1).2.ok,h3⟩
 ·exact⟨h2 ▸ Qc2 (Ca6 h1).2.ok,h3⟩
structure Qf6(c:PLq):Prop where
 l:c.length<=47
 v:∀p∈c,okp p=true
 f:bg1 (c++ws)
theorem Qf6.chk{c:PLq}(h:Qf6 c):(chk c==0)=true:=by
 rw[beq_iff_eq,me6];exact⟨by have:=h.l;omega,h.v⟩
end Go.Ev.Ce
namespace Go.Ev.Ce
def K4(a b:V3):V3:=⟨a.x-b.x,a.y-b.y,a.z-b.z⟩
def N3(u w x:V3):V3:=d7 (K4 w u) (K4 x u)
def kc7:List V3->V3
 |[]=>⟨0,0,0⟩
 |v::l=>⟨v.x+(kc7 l).x,v.y+(kc7 l).y,v.z+(kc7 l).z⟩
def Qc5:List Int->Int
 |[]=>0
 |x::l=>x+Qc5 l
theorem ne3(n:V3):∀l:List V3,dot n (kc7 l)=Qc5 (l.map (dot n))
 |[]=>by simp[kc7,Qc5,dot]
 |v::l=>by
  have:=ne3 n l
  simp only[Qbo,Qc5,<- this];simp only[kc7,dot]
  grind
theorem ne4(m s:Int):∀l:List Int,Qc5 (l.map λa=>m*a-s)=m*Qc5 l-s*l.length
 |[]=>by simp[Qc5]
 |a::l=>by
  have:=ne4 m s l
  simp only[Qbo,Qc5,this,List.length_cons]
  grind
theorem id5:∀{l:List Int},(∀a∈l,a<=0)->Qc5 l<=0
 |[],_=>by simp[Qc5]
 |a::l,h=>by
  have:=id5 (l:=l) λx hx=>h x (Qck _ hx)
  have:=h a Qch
  simp only[Qc5];omega
theorem bd8:∀{l:List Int},(∀a∈l,a<=0)->Qc5 l=0->∀a∈l,a=0
 |[],_,_=>λa ha=>by cases ha
 |a::l,h,h0=>by
  have h1:=id5 (l:=l) λx hx=>h x (Qck _ hx)
  have h2:=h a Qch;simp only[Qc5] at h0;intro b hb
  rcases Qbi.1 hb with rfl|hb
  ·omega
  ·exact bd8 (l:=l) (λx hx=>h x (Qck _ hx)) (by omega) b hb
def Sol(l:List V3):Prop:=∃a c k v,a∈l/\c∈l/\k∈l/\v∈l/\dot (N3 a c k) (K4 v a)≠0
theorem Sol.off{l:List V3}(h:Sol l){n:V3}(hn:n≠⟨0,0,0⟩)(b:Int):∃v∈l,dot n v≠b:=by
 obtain⟨a,c,k,v,ha,hc,hk,hv,hd⟩:=h;by_cases h1:dot n a=b
 ·by_cases h2:dot n c=b
  ·by_cases h3:dot n k=b
   ·by_cases h4:dot n v=b
    ·exfalso;unfold N3 at hd;generalize hD:dot (d7 (K4 c a) (K4 k a)) (K4 v a)=D at *
     have q1:dot n (K4 c a)=0:=by unfold dot K4 at *;grind
     have q2:dot n (K4 k a)=0:=by unfold dot K4 at *;grind
     have q3:dot n (K4 v a)=0:=by unfold dot K4 at *;grind
     generalize K4 c a=p at *
     generalize K4 k a=q at *
     generalize K4 v a=r at *
     have i1:D*n.x=(d7 q r).x*dot n p+(d7 r p).x*dot n q+(d7 p q).x*dot n r:=by rw[<- hD];simp only[dot,d7];grind
     have i2:D*n.y=(d7 q r).y*dot n p+(d7 r p).y*dot n q+(d7 p q).y*dot n r:=by rw[<- hD];simp only[dot,d7];grind
     have i3:D*n.z=(d7 q r).z*dot n p+(d7 r p).z*dot n q+(d7 p q).z*dot n r:=by rw[<- hD];simp only[dot,d7];grind
     rw[q1,q2,q3] at i1 i2 i3;have z:∀{x:Int},D*x=0->x=0:=λh=>(Qib.1 h).resolve_left hd
     exact hn (V3.ext' (z (by omega)) (z (by omega)) (z (by omega)))
    ·exact⟨v,hv,h4⟩
   ·exact⟨k,hk,h3⟩
  ·exact⟨c,hc,h2⟩
 ·exact⟨a,ha,h1⟩
theorem Sol.ne{l:List V3}(h:Sol l):∃v,v∈l:=by obtain⟨a,_,_,_,ha,_⟩:=h;exact⟨a,ha⟩
structure Fac(l:List V3)(n:V3)(b:Int):Prop where
 hd:∀v∈l,dot n v<=b
 on:∃u w x,u∈l/\w∈l/\x∈l/\N3 u w x≠⟨0,0,0⟩/\dot n u=b/\dot n w=b/\dot n x=b
def Gf0(l:List V3)(c:List Pln):Prop:=∀n b,n≠⟨0,0,0⟩->Fac l n b->∃s t:Int,0<s/\0<t/\∃q∈c,t*q.n.x=s*n.x/\t*q.n.y=s*n.y/\t*q.n.z=s*n.z/\t*q.b=s*b
def pol(m:Int)(S v:V3):Pln:=⟨⟨m*v.x-S.x,m*v.y-S.y,m*v.z-S.z⟩,1⟩
theorem pf8(m:Int)(S v d:V3):dot (pol m S v).n d=m*dot d v-dot d S:=by simp only[dot,pol];grind
theorem ne5(l:List V3)(d:V3):Qc5 (l.map λv=>(l.length:Int)*dot d v-dot d (kc7 l))=0:=by
 have h:=ne4 (l.length:Int) (dot d (kc7 l)) (l.map (dot d));rw[List.map_map] at h;have e:((λa=>(l.length:Int)*a-dot d (kc7 l))∘dot d)=λv=>(l.length:Int)*dot d v-dot d (kc7 l):=rfl
 rw[e] at h;rw[h,<- ne3,List.length_map]
 grind
theorem Pe6{a b:V3}(h:dot a b≠0):b≠⟨0,0,0⟩:=λe=>h (by subst e;simp[dot])
theorem Fd3{a b:V3}(h:dot a b≠0):a≠⟨0,0,0⟩:=λe=>h (by subst e;simp[dot])
theorem Ge2{l:List V3}(h:Sol l):0<(l.length:Int):=by
 obtain⟨v,hv⟩:=h.ne
 grind
theorem qf0{l:List V3}(h:Sol l):Bdd (l.map (pol l.length (kc7 l))):=λd hd=>by
 by_cases hh:∃p∈l.map (pol l.length (kc7 l)),0<dot p.n d
 ·exact hh
 exfalso;have hm:=Ge2 h;have hall:∀a∈l.map (λv=>(l.length:Int)*dot d v-dot d (kc7 l)),a<=0:=λa ha=>by
  obtain⟨v,hv,rfl⟩:=Qbr.1 ha;refine Int.not_lt.1 λh'=>hh ⟨pol l.length (kc7 l) v,Qbr.2 ⟨v,hv,rfl⟩,?_⟩
  rw[pf8];omega
 have hz:=bd8 hall (ne5 l d);obtain⟨a,ha⟩:=h.ne;obtain⟨v,hv,hne⟩:=h.off hd (dot d a);have e1:=hz _ (Qbr.2 ⟨a,ha,rfl⟩);have e2:=hz _ (Qbr.2 ⟨v,hv,rfl⟩);apply hne
 have:(l.length:Int)*(dot d v-dot d a)=0:=by grind
 have:=(Qib.1 this).resolve_left (by omega)
 omega
theorem xc2{l:List V3}(h4:Sol l){c:List Pln}(hc:Gf0 l c){x:Pt}(hx:Inr c x){h:Pln}(hh:∀v∈l,dot h.n v<=h.b):0<=rmZ h x:=by
 have hm:=Ge2 h4;have hr:=qf0 h4;generalize hS:kc7 l=S at hr;generalize hM:(l.length:Int)=m at hr hm
 -- the linear function on the polar
 have hv:∀y,Cn (l.map (pol m S)) y->0<=rmZ ⟨⟨m*x.px-x.pw*S.x,m*x.py-x.pw*S.y,m*x.pz-x.pw*S.z⟩,x.pw⟩ y:=λy hy=>by
  obtain⟨p1,p2,p3,hp1,hp2,hp3,hw,e1,e2,e3⟩:=hy.c;obtain⟨v1,m1,rfl⟩:=Qbr.1 hp1;obtain⟨v2,m2,rfl⟩:=Qbr.1 hp2;obtain⟨v3,m3,rfl⟩:=Qbr.1 hp3;have rp:∀v,rmZ (pol m S v) y=y.pw-(m*dot ⟨y.px,y.py,y.pz⟩ v-dot ⟨y.px,y.py,y.pz⟩ S):=λv=>by simp only[rmZ,pol,dot];grind
  rw[rp] at e1 e2 e3;have hn3:dot (pol m S v1).n (N3 v1 v2 v3)≠0:=λh0=>hw (by
   have:mw (pol m S v1) (pol m S v2) (pol m S v3)=m*m*dot (pol m S v1).n (N3 v1 v2 v3):=by simp only[mw,pol,dot,N3,d7,K4];grind
   rw[this,h0,Int.mul_zero])
  have hne:N3 v1 v2 v3≠⟨0,0,0⟩:=Pe6 hn3;have hfac:Fac l ⟨m*y.px,m*y.py,m*y.pz⟩ (y.pw+dot ⟨y.px,y.py,y.pz⟩ S):=by
   have ed:∀v,dot ⟨m*y.px,m*y.py,m*y.pz⟩ v=m*dot ⟨y.px,y.py,y.pz⟩ v:=λv=>by simp only[dot];grind
   refine⟨λv hv=>?_,v1,v2,v3,m1,m2,m3,hne,?_,?_,?_⟩
   ·have:=hy.h (pol m S v) (Qbr.2 ⟨v,hv,rfl⟩)
    rw[rp] at this;rw[ed];omega
   ·rw[ed];omega
   ·rw[ed];omega
   ·rw[ed];omega
  have hyn:(⟨m*y.px,m*y.py,m*y.pz⟩:V3)≠⟨0,0,0⟩:=λe=>by
   have k:∀{a:Int},m*a=0->a=0:=λh=>(Qib.1 h).resolve_left (by omega)
   simp only[V3.mk.injEq] at e;have a1:=k e.1;have a2:=k e.2.1;have a3:=k e.2.2;rw[a1,a2,a3] at e1;have hw:=hy.w;simp only[dot] at e1;simp only[Qiq,Int.add_zero,Int.mul_zero,Int.sub_zero] at e1;omega
  obtain⟨s,t,hs,ht,q,hq,f1,f2,f3,f4⟩:=hc _ _ hyn hfac;have hxq:=hx.h q hq;have e:t*rmZ q x=s*rmZ ⟨⟨m*x.px-x.pw*S.x,m*x.py-x.pw*S.y,m*x.pz-x.pw*S.z⟩,x.pw⟩ y:=by
   have:t*rmZ q x=(t*q.b)*x.pw-((t*q.n.x)*x.px+(t*q.n.y)*x.py+(t*q.n.z)*x.pz):=by simp only[rmZ];grind
   rw[this,f1,f2,f3,f4];simp only[rmZ,dot];grind
  have h1:=Qid (Qif ht) hxq;rw[e] at h1;exact Qis h1 hs
 by_cases hn:h.n=⟨0,0,0⟩
 ·obtain⟨v,hv⟩:=h4.ne;have h1:=hh v hv;have e:rmZ h x=h.b*x.pw:=by simp only[rmZ,hn];grind
  rw[e];rw[hn] at h1;simp only[dot,Qiq,Int.add_zero] at h1;exact Qid h1 (Qif hx.w)
 ·-- the polar point of h
  have hall:∀a∈l.map (λv=>(l.length:Int)*dot h.n v-dot h.n (kc7 l)),a<=(l.length:Int)*h.b-dot h.n (kc7 l):=λa ha=>by
   obtain⟨v,hv,rfl⟩:=Qbr.1 ha
   have:=Qim (hh v hv) (show 0<=(l.length:Int) by omega)
   omega
  have hpos:0<m*h.b-dot h.n S:=by
   rw[<- hM,<- hS];by_cases h0:0<(l.length:Int)*h.b-dot h.n (kc7 l)
   ·exact h0
   exfalso;have hz:=bd8 (λa ha=>by have:=hall a ha;omega) (ne5 l h.n)
   obtain⟨v,hv,hne⟩:=h4.off hn h.b;have e1:=hz _ (Qbr.2 ⟨v,hv,rfl⟩);have h2:=hh v hv
   have:(l.length:Int)*dot h.n v<(l.length:Int)*h.b:=Int.mul_lt_mul_of_pos_left (by omega) (by omega)
   omega
  have hy:Inr (l.map (pol m S)) ⟨h.n.x,h.n.y,h.n.z,m*h.b-dot h.n S⟩:=⟨hpos,λp hp=>by
   obtain⟨v,hv,rfl⟩:=Qbr.1 hp;have e:rmZ (pol m S v) ⟨h.n.x,h.n.y,h.n.z,m*h.b-dot h.n S⟩=m*(h.b-dot h.n v):=by simp only[rmZ,pol,dot];grind
   rw[e];exact Qid (by omega) (by have:=hh v hv;omega)⟩
  have h1:=ic4 hr hv hy;have e:rmZ ⟨⟨m*x.px-x.pw*S.x,m*x.py-x.pw*S.y,m*x.pz-x.pw*S.z⟩,x.pw⟩ ⟨h.n.x,h.n.y,h.n.z,m*h.b-dot h.n S⟩=m*rmZ h x:=by simp only[rmZ,dot];grind
  rw[e] at h1;exact Qis h1 hm
theorem qf1(own:List V3):(∃a c k,a∈own/\c∈own/\k∈own/\dot a (d7 c k)≠0)\/∃d,d≠(⟨0,0,0⟩:V3)/\∀n∈own,dot n d=0:=by
 by_cases h1:∃a∈own,a≠⟨0,0,0⟩
 ·obtain⟨a,ha,hne⟩:=h1;by_cases h2:∃c∈own,d7 a c≠⟨0,0,0⟩
  ·obtain⟨c,hc,hx⟩:=h2;by_cases h3:∃k∈own,dot k (d7 a c)≠0
   ·grind
   ·exact .inr ⟨d7 a c,hx,λn hn=>Qeb λh=>h3 ⟨n,hn,h⟩⟩
  ·obtain⟨d,hd,h0⟩:=Qf1 hne;refine .inr ⟨d,hd,λn hn=>?_⟩
   have hc:d7 a n=⟨0,0,0⟩:=Qeb λh=>h2 ⟨n,hn,h⟩
   have e:∀{s t:Int},s*t=0->s≠0->t=0:=λh hs=>(Qib.1 h).resolve_left hs
   unfold d7 at hc;simp only[V3.mk.injEq] at hc;obtain⟨c1,c2,c3⟩:=hc;have k1:a.x*dot n d=0:=by
    have:a.x*dot n d=n.x*dot a d+(a.x*n.y-a.y*n.x)*d.y-(a.z*n.x-a.x*n.z)*d.z:=by simp only[dot];grind
    simp_all
   have k2:a.y*dot n d=0:=by
    have:a.y*dot n d=n.y*dot a d+(a.y*n.z-a.z*n.y)*d.z-(a.x*n.y-a.y*n.x)*d.x:=by simp only[dot];grind
    simp_all
   have k3:a.z*dot n d=0:=by
    have:a.z*dot n d=n.z*dot a d+(a.z*n.x-a.x*n.z)*d.x-(a.y*n.z-a.z*n.y)*d.y:=by simp only[dot];grind
    simp_all
   by_cases hx:a.x=0
   ·by_cases hy:a.y=0
    ·exact e k3 λhz=>hne (V3.ext' hx hy hz)
    ·exact e k2 hy
   ·exact e k1 hx
 ·exact .inr ⟨⟨1, 0, 0⟩, by simp, fun n hn => by
   have:n=⟨0,0,0⟩:=Qeb λh=>h1 ⟨n,hn,h⟩
   rw[this];simp[dot]⟩
theorem big(d:V3):∀c:List Pln,∃N:Int,0<N/\∀p∈c,dot p.n d<=N/\-dot p.n d<=N
 |[]=>⟨1,by decide,λp hp=>by cases hp⟩
 |q::c=>by
  obtain⟨N,h0,h⟩:=big d c;refine⟨N+(dot q.n d).natAbs,by omega,λp hp=>?_⟩
  grind
theorem Fd4{p q s:Pln}(hw:mw p q s≠0){d:V3}(h1:dot p.n d=0)(h2:dot q.n d=0)(h3:dot s.n d=0):d=⟨0,0,0⟩:=by
 have i1:mw p q s*d.x=(d7 q.n s.n).x*dot p.n d+(d7 s.n p.n).x*dot q.n d+(d7 p.n q.n).x*dot s.n d:=by simp only[mw,dot,d7];grind
 have i2:mw p q s*d.y=(d7 q.n s.n).y*dot p.n d+(d7 s.n p.n).y*dot q.n d+(d7 p.n q.n).y*dot s.n d:=by simp only[mw,dot,d7];grind
 have i3:mw p q s*d.z=(d7 q.n s.n).z*dot p.n d+(d7 s.n p.n).z*dot q.n d+(d7 p.n q.n).z*dot s.n d:=by simp only[mw,dot,d7];grind
 rw[h1,h2,h3] at i1 i2 i3;have z:∀{x:Int},mw p q s*x=0->x=0:=λh=>(Qib.1 h).resolve_left hw
 exact V3.ext' (z (by omega)) (z (by omega)) (z (by omega))
def Spn(c:List Pln)(v:V3):Prop:=∃p q s,p∈c/\q∈c/\s∈c/\mw p q s≠0/\dot p.n v=p.b/\dot q.n v=q.b/\dot s.n v=s.b
theorem qf2{l:List V3}(h4:Sol l){c w:List Pln}(hc:Gf0 l c)(hin:∀p∈c++w,∀v∈l,dot p.n v<=p.b){x:Pt}(hx:Cn (c++w) x):∃v∈l,Eqv x ⟨v.x,v.y,v.z,1⟩/\Spn c v:=by
 obtain⟨p,q,s,hp,hq,hs,hw,e1,e2,e3⟩:=hx.c;have hxc:Inr c x:=⟨hx.w,λa ha=>hx.h a (Qbj _ ha)⟩
 have hv:∃v∈l,dot p.n v=p.b/\dot q.n v=q.b/\dot s.n v=s.b:=by
  apply Qeb;intro hno;have h1:=xc2 h4 hc hxc (h:=⟨⟨p.n.x+q.n.x+s.n.x,p.n.y+q.n.y+s.n.y,p.n.z+q.n.z+s.n.z⟩,p.b+q.b+s.b-1⟩) λv hv=>by
   have a1:=hin p hp v hv;have a2:=hin q hq v hv;have a3:=hin s hs v hv;have e:dot ⟨p.n.x+q.n.x+s.n.x,p.n.y+q.n.y+s.n.y,p.n.z+q.n.z+s.n.z⟩ v=dot p.n v+dot q.n v+dot s.n v:=by simp only[dot];grind
   simp only[e]
   have:¬ (dot p.n v=p.b/\dot q.n v=q.b/\dot s.n v=s.b):=λh=>hno ⟨v,hv,h⟩
   omega
  have e:rmZ ⟨⟨p.n.x+q.n.x+s.n.x,p.n.y+q.n.y+s.n.y,p.n.z+q.n.z+s.n.z⟩,p.b+q.b+s.b-1⟩ x=rmZ p x+rmZ q x+rmZ s x-x.pw:=by simp only[rmZ];grind
  rw[e,e1,e2,e3] at h1
  have:=hx.w
  omega
 obtain⟨v,hv,t1,t2,t3⟩:=hv;have hd:(⟨x.px-v.x*x.pw,x.py-v.y*x.pw,x.pz-v.z*x.pw⟩:V3)=⟨0,0,0⟩:=by
  have k:∀{a:Pln},dot a.n v=a.b->rmZ a x=0->dot a.n ⟨x.px-v.x*x.pw,x.py-v.y*x.pw,x.pz-v.z*x.pw⟩=0:=λ{a} h1 h2=>by
   rw[rmZ,<- h1] at h2;simp only[dot] at h2 ⊢
   grind
  exact Fd4 hw (k t1 e1) (k t2 e2) (k t3 e3)
 simp only[V3.mk.injEq] at hd;refine⟨v,hv,⟨?_,?_,?_⟩,?_⟩
 ·grind
 ·grind
 ·grind
 -- the facets through it span the space
 have hf:∀a:Pln,decide (dot a.n v=a.b)=true↔dot a.n v=a.b:=λa=>by simp
 rcases qf1 ((c.filter λa=>decide (dot a.n v=a.b)).map Pln.n) with⟨a,b,k,ha',hb',hk',hd⟩|⟨d,hd,h0⟩
 ·obtain⟨a,ha,rfl⟩:=Qbr.1 ha';obtain⟨b,hb,rfl⟩:=Qbr.1 hb';obtain⟨k,hk,rfl⟩:=Qbr.1 hk';rw[Qff,hf] at ha hb hk;exact⟨a,b,k,ha.1,hb.1,hk.1,hd,ha.2,hb.2,hk.2⟩
 ·exfalso;obtain⟨N,hN,hb⟩:=big d c;have h0':∀a∈c,dot a.n v=a.b->dot a.n d=0:=λa ha h=>h0 a.n (Qbr.2 ⟨a,Qff.2 ⟨ha,by simpa using h⟩,rfl⟩)
  have iny:∀e:V3,(∀a∈c,dot a.n v=a.b->dot a.n e=0)->(∀a∈c,dot a.n e<=N)->Inr c ⟨N*v.x+e.x,N*v.y+e.y,N*v.z+e.z,N⟩:=λe he hle=>⟨hN,λa ha=>by
   have ea:rmZ a ⟨N*v.x+e.x,N*v.y+e.y,N*v.z+e.z,N⟩=N*(a.b-dot a.n v)-dot a.n e:=by simp only[rmZ,dot];grind
   rw[ea];have h1:=hin a (Qbj _ ha) v hv;by_cases ht:dot a.n v=a.b
   ·rw[he a ha ht,ht];simp
   ·have h2:N*1<=N*(a.b-dot a.n v):=Qim (by omega) (by omega)
    have:=hle a ha
    omega⟩
  have y1:=iny d h0' λa ha=>(hb a ha).1
  have y2:=iny (neg d) (λa ha h=>by rw[rd9,h0' a ha h];rfl) λa ha=>by rw[rd9];exact (hb a ha).2
  have z:∀a∈c++w,dot a.n v=a.b->dot a.n d=0:=λa ha ht=>by
   have a1:=xc2 h4 hc y1 (h:=a) (hin a ha);have a2:=xc2 h4 hc y2 (h:=a) (hin a ha);have e1:rmZ a ⟨N*v.x+d.x,N*v.y+d.y,N*v.z+d.z,N⟩=N*(a.b-dot a.n v)-dot a.n d:=by simp only[rmZ,dot];grind
   have e2:rmZ a ⟨N*v.x+(neg d).x,N*v.y+(neg d).y,N*v.z+(neg d).z,N⟩=N*(a.b-dot a.n v)+dot a.n d:=by simp only[rmZ,dot,neg];grind
   rw[e1,ht] at a1;rw[e2,ht] at a2;simp only[Int.sub_self,Int.mul_zero] at a1 a2;omega
  exact hd (Fd4 hw (z p hp t1) (z q hq t2) (z s hs t3))
end Go.Ev.Ce
namespace Go.Ev.Ce
open Go Go.Ev Go.Ev.L Go.Proofs
theorem Gf1{l:List V3}(hf:nf0 l=true):Sol l:=(bg3 hf).h
theorem qf3{v:V3}(h:g3 v=0):v=⟨0,0,0⟩:=by
 unfold g3 at h;have h:Nat.gcd (Nat.gcd v.x.natAbs v.y.natAbs) v.z.natAbs=0:=by omega
 rw[Qiz,Qiz] at h;exact V3.ext' (by show v.x=0;omega) (by show v.y=0;omega) (by show v.z=0;omega)
theorem ob2{a c k:V3}(ha:inV a=true)(hc:inV c=true)(hk:inV k=true)(h:N3 a c k≠⟨0,0,0⟩):(G7 a c k).2=true:=by
 unfold G7;rw[ha,hc,hk];simp only[Qig,if_true];rw[if_neg (λh0=>h (qf3 h0):¬ g3 (d7 (sub c a) (sub k a))=0)]
theorem Sd9{a c k:V3}{p:Pln}(h:Thr a c k p):N3 a c k≠⟨0,0,0⟩:=λe=>by
 obtain⟨ok,⟨g,hg,e1,e2,e3⟩,_⟩:=h;have e':d7 (sub c a) (sub k a)=⟨0,0,0⟩:=e;rw[e'] at e1 e2 e3;have z:∀{x:Int},g*x=0->x=0:=λh=>(Qib.1 h).resolve_left (by omega)
 exact id4 ok (V3.ext' (z e1) (z e2) (z e3))
theorem Fd5{a c k:V3}{p:Pln}(h:Thr a c k p):dot p.n a=p.b/\dot p.n c=p.b/\dot p.n k=p.b:=by
 obtain⟨ok,⟨g,hg,e1,e2,e3⟩,o⟩:=h;have z:∀{x y:Int},g*(x-y)=0->x=y:=λh=>by have:=(Qib.1 h).resolve_left (by omega);omega
 refine⟨o.symm,?_,?_⟩
 ·rw[o];apply z
  have:g*(dot p.n c-dot p.n a)=(g*p.n.x)*(c.x-a.x)+(g*p.n.y)*(c.y-a.y)+(g*p.n.z)*(c.z-a.z):=by simp only[dot];grind
  rw[this,e1,e2,e3];simp only[d7,sub];grind
 ·rw[o];apply z
  have:g*(dot p.n k-dot p.n a)=(g*p.n.x)*(k.x-a.x)+(g*p.n.y)*(k.y-a.y)+(g*p.n.z)*(k.z-a.z):=by simp only[dot];grind
  rw[this,e1,e2,e3];simp only[d7,sub];grind
theorem kb6(p:Pln)(v:V3):dot (ua8 p).n v=(ua8 p).b↔dot p.n v=p.b:=by
 rw[rc4];show -dot p.n v=-p.b↔_;omega
theorem Qc6{a c k:V3}{p q:Pln}(h:Thr a c k q)(hp:okp p=true)(t1:dot p.n a=p.b)(t2:dot p.n c=p.b)(t3:dot p.n k=p.b):p=q\/p=ua8 q:=by
 obtain⟨s1,s2,s3⟩:=Fd5 h;obtain⟨ok,⟨g,hg,e1,e2,e3⟩,o⟩:=h;have d1:dot p.n (sub c a)=0:=by simp only[dot,sub] at *;grind
 have d2:dot p.n (sub k a)=0:=by simp only[dot,sub] at *;grind
 have hc:d7 q.n p.n=⟨0,0,0⟩:=by
  have z:∀{x:Int},g*x=0->x=0:=λh=>(Qib.1 h).resolve_left (by omega)
  generalize sub c a=u at *
  generalize sub k a=w at *
  refine V3.ext' (z ?_) (z ?_) (z ?_)
  ·have:g*(d7 q.n p.n).x=(g*q.n.y)*p.n.z-(g*q.n.z)*p.n.y:=by simp only[d7];grind
   rw[this,e2,e3]
   have:(d7 u w).y*p.n.z-(d7 u w).z*p.n.y=w.x*dot p.n u-u.x*dot p.n w:=by simp only[d7,dot];grind
   rw[this,d1,d2];simp
  ·have:g*(d7 q.n p.n).y=(g*q.n.z)*p.n.x-(g*q.n.x)*p.n.z:=by simp only[d7];grind
   rw[this,e1,e3]
   have:(d7 u w).z*p.n.x-(d7 u w).x*p.n.z=w.y*dot p.n u-u.y*dot p.n w:=by simp only[d7,dot];grind
   rw[this,d1,d2];simp
  ·have:g*(d7 q.n p.n).z=(g*q.n.x)*p.n.y-(g*q.n.y)*p.n.x:=by simp only[d7];grind
   rw[this,e1,e2]
   have:(d7 u w).x*p.n.y-(d7 u w).y*p.n.x=w.z*dot p.n u-u.z*dot p.n w:=by simp only[d7,dot];grind
   rw[this,d1,d2];simp
 obtain⟨pn,pb⟩:=p;obtain⟨qn,qb⟩:=q
 rcases df3 (ye7 ok) (ye7 hp) hc with e|e
 ·left
  simp only at e o t1 s1 t2 t3
  subst e;rw[<- t1,s1]
 ·right
  simp only at e o t1 s1 t2 t3
  subst e;rw[<- t1];simp only[dot,neg,ua8] at s1 ⊢;simp only[Pln.mk.injEq,true_and]
  grind
structure bd9(l:List V3)(p:Pln):Prop extends Fac l p.n p.b where
 ok:okp p=true
theorem Qc7{l:List V3}{p:Pln}{u w x:V3}(hu:u∈l)(hw:w∈l)(hx:x∈l)(h:Thr u w x p)(hh:∀v∈l,dot (ua8 p).n v<=(ua8 p).b):bd9 l (ua8 p):=by
 obtain⟨s1,s2,s3⟩:=Fd5 h;exact⟨⟨hh,u,w,x,hu,hw,hx,Sd9 h,(kb6 p u).2 s1,(kb6 p w).2 s2,(kb6 p x).2 s3⟩,Qc2 h.ok⟩
theorem sd0{l:List V3}{p:Pln}{u w x:V3}(hu:u∈l)(hw:w∈l)(hx:x∈l)(h:Thr u w x p)(hh:∀v∈l,dot p.n v<=p.b):bd9 l p:=by
 obtain⟨s1,s2,s3⟩:=Fd5 h;exact⟨⟨hh,u,w,x,hu,hw,hx,Sd9 h,s1,s2,s3⟩,h.ok⟩
theorem df4{u w x:V3}(h:N3 u w x≠⟨0,0,0⟩):N3 w u x≠⟨0,0,0⟩/\N3 u x w≠⟨0,0,0⟩/\N3 x w u≠⟨0,0,0⟩/\N3 w x u≠⟨0,0,0⟩/\N3 x u w≠⟨0,0,0⟩:=by
 have e1:N3 w u x=neg (N3 u w x):=V3.ext' (by simp only[N3,d7,K4,neg];grind) (by simp only[N3,d7,K4,neg];grind) (by simp only[N3,d7,K4,neg];grind)
 have e2:N3 u x w=neg (N3 u w x):=V3.ext' (by simp only[N3,d7,K4,neg];grind) (by simp only[N3,d7,K4,neg];grind) (by simp only[N3,d7,K4,neg];grind)
 have e3:N3 x w u=neg (N3 u w x):=V3.ext' (by simp only[N3,d7,K4,neg];grind) (by simp only[N3,d7,K4,neg];grind) (by simp only[N3,d7,K4,neg];grind)
 have e4:N3 w x u=N3 u w x:=V3.ext' (by simp only[N3,d7,K4];grind) (by simp only[N3,d7,K4];grind) (by simp only[N3,d7,K4];grind)
 have e5:N3 x u w=N3 u w x:=V3.ext' (by simp only[N3,d7,K4];grind) (by simp only[N3,d7,K4];grind) (by simp only[N3,d7,K4];grind)
 rw[e1,e2,e3,e4,e5];exact⟨be0 h,be0 h,be0 h,h,h⟩
theorem Qf7{u w x:V3}(h:N3 u w x≠⟨0,0,0⟩):u≠w/\u≠x/\w≠x:=by
 refine⟨λe=>h ?_,λe=>h ?_,λe=>h ?_⟩<;>subst e<;>refine V3.ext' ?_ ?_ ?_<;>simp only[N3,d7,K4]<;>grind
theorem qf4{l:List V3}{u w x:V3}(hu:u∈l)(hw:w∈l)(hx:x∈l)(h:N3 u w x≠⟨0,0,0⟩) :
  ∃a,a<l.length/\∃c,c<a/\∃k,k<c/\N3 (gL tV l a) (gL tV l c) (gL tV l k)≠⟨0,0,0⟩/\∀f:V3->Prop,f u->f w->f x->f (gL tV l a)/\f (gL tV l c)/\f (gL tV l k):=by
 obtain⟨i,hi,rfl⟩:=Qef.1 hu;obtain⟨j,hj,rfl⟩:=Qef.1 hw;obtain⟨k,hk,rfl⟩:=Qef.1 hx;obtain⟨n1,n2,n3⟩:=Qf7 h;obtain⟨s1,s2,s3,s4,s5⟩:=df4 h;have d1:i≠j:=λe=>n1 (by subst e;rfl)
 have d2:i≠k:=λe=>n2 (by subst e;rfl)
 have d3:j≠k:=λe=>n3 (by subst e;rfl)
 rw[<- Mb0 tV hi,<- Mb0 tV hj,<- Mb0 tV hk] at *
 rcases Qit d1 with h1|h1<;>rcases Qit d2 with h2|h2<;>rcases Qit d3 with h3|h3
 ·exact⟨k,hk,j,h3,i,h1,s3,λf a b c=>⟨c,b,a⟩⟩
 ·exact⟨j,hj,k,h3,i,h2,s4,λf a b c=>⟨b,c,a⟩⟩
 ·omega
 ·exact⟨j,hj,i,h1,k,h2,s1,λf a b c=>⟨b,a,c⟩⟩
 ·exact⟨k,hk,i,h2,j,h1,s5,λf a b c=>⟨c,a,b⟩⟩
 ·omega
 ·exact⟨i,hi,k,h2,j,h3,s2,λf a b c=>⟨a,c,b⟩⟩
 ·exact⟨i,hi,j,h1,k,h3,h,λf a b c=>⟨a,b,c⟩⟩
theorem Z1{l:List V3}(hl:l.all inV=true)(p:Pln):p∈F0 l↔bd9 l p:=by
 have hin:=Qcb.1 hl;constructor
 ·intro hp;obtain⟨a,ha,c,hc,k,hk,h1,h2⟩:=(ye8 l p).1 hp;have ma:=gLm ha;have mc:=gLm (show c<l.length by omega)
  have mk:=gLm (show k<l.length by omega)
  have ht:=(Ca6 h1).2
  rcases h2 with⟨rfl,h3⟩|⟨rfl,h3⟩
  ·exact sd0 ma mc mk ht ((Yb0 ht.ok hl).1 h3)
  ·exact Qc7 ma mc mk ht ((Yb0 (Qc2 ht.ok) hl).1 h3)
 ·intro h;obtain⟨u,w,x,hu,hw,hx,h3,t1,t2,t3⟩:=h.on;obtain⟨a,ha,c,hc,k,hk,hn,hall⟩:=qf4 hu hw hx h3;obtain⟨i1,i2,i3⟩:=hall (λv=>inV v=true) (hin u hu) (hin w hw) (hin x hx)
  obtain⟨e1,e2,e3⟩:=hall (λv=>dot p.n v=p.b) t1 t2 t3
  have h2:=ob2 i1 i2 i3 hn;refine (ye8 l p).2 ⟨a,ha,c,hc,k,hk,h2,?_⟩;have hh:=(Yb0 h.ok hl).2 h.hd
  rcases Qc6 (Ca6 h2).2 h.ok e1 e2 e3 with e|e
  ·exact .inl ⟨e,hh⟩
  ·exact .inr ⟨e,hh⟩
theorem qf5{n:V3}(h:n≠⟨0,0,0⟩):0<dot n n:=by
 have sq:∀a:Int,0<=a*a:=λa=>by
  by_cases h:0<=a
  ·exact Qid h h
  ·have:=Qid (show 0<=-a by omega) (show 0<=-a by omega)
   rw[Int.neg_mul_neg] at this;exact this
 have z:∀{a:Int},a*a=0->a=0:=λh=>(Qib.1 h).elim id id
 have s1:=sq n.x;have s2:=sq n.y;have s3:=sq n.z;by_cases h0:0<dot n n
 ·exact h0
 ·exfalso;simp only[dot] at h0;exact h (V3.ext' (z (by omega)) (z (by omega)) (z (by omega)))
theorem Ge3{l:List V3}(hl:l.all inV=true){c:PLq}(hc:∀p,bd9 l p->p∈c):Gf0 l c:=λn b hn hf=>by
 have hin:=Qcb.1 hl;obtain⟨u,w,x,hu,hw,hx,h3,t1,t2,t3⟩:=hf.on;have h2:=ob2 (hin u hu) (hin w hw) (hin x hx) h3;have ht:=(Ca6 h2).2;generalize (G7 u w x).1=q at ht;obtain⟨s1,s2,s3⟩:=Fd5 ht;have hnn:=qf5 hn;have d1:dot n (K4 w u)=0:=by simp only[dot,K4] at *;grind
 have d2:dot n (K4 x u)=0:=by simp only[dot,K4] at *;grind
 -- the normals are parallel
 have par:dot n n*q.n.x=dot q.n n*n.x/\dot n n*q.n.y=dot q.n n*n.y/\dot n n*q.n.z=dot q.n n*n.z:=by
  obtain⟨ok,⟨g,hg,e1,e2,e3⟩,o⟩:=ht;have z:∀{x y:Int},g*(x-y)=0->x=y:=λh=>by have:=(Qib.1 h).resolve_left (by omega);omega
  have eg:g*dot q.n n=(d7 (K4 w u) (K4 x u)).x*n.x+(d7 (K4 w u) (K4 x u)).y*n.y+(d7 (K4 w u) (K4 x u)).z*n.z:=by
   have:g*dot q.n n=(g*q.n.x)*n.x+(g*q.n.y)*n.y+(g*q.n.z)*n.z:=by simp only[dot];grind
   rw[this,e1,e2,e3];rfl
  have e1:g*q.n.x=(d7 (K4 w u) (K4 x u)).x:=e1;have e2:g*q.n.y=(d7 (K4 w u) (K4 x u)).y:=e2;have e3:g*q.n.z=(d7 (K4 w u) (K4 x u)).z:=e3;generalize K4 w u=p at *
  generalize K4 x u=r at *
  refine⟨z ?_,z ?_,z ?_⟩
  ·have:g*(dot n n*q.n.x-dot q.n n*n.x)=dot n n*(g*q.n.x)-(g*dot q.n n)*n.x:=by grind
   rw[this,e1,eg]
   have:dot n n*(d7 p r).x-((d7 p r).x*n.x+(d7 p r).y*n.y+(d7 p r).z*n.z)*n.x=(n.y*r.z-n.z*r.y)*dot n p-(n.y*p.z-n.z*p.y)*dot n r:=by simp only[dot,d7];grind
   rw[this,d1,d2];simp
  ·have:g*(dot n n*q.n.y-dot q.n n*n.y)=dot n n*(g*q.n.y)-(g*dot q.n n)*n.y:=by grind
   rw[this,e2,eg]
   have:dot n n*(d7 p r).y-((d7 p r).x*n.x+(d7 p r).y*n.y+(d7 p r).z*n.z)*n.y=(n.z*r.x-n.x*r.z)*dot n p-(n.z*p.x-n.x*p.z)*dot n r:=by simp only[dot,d7];grind
   rw[this,d1,d2];simp
  ·have:g*(dot n n*q.n.z-dot q.n n*n.z)=dot n n*(g*q.n.z)-(g*dot q.n n)*n.z:=by grind
   rw[this,e3,eg]
   have:dot n n*(d7 p r).z-((d7 p r).x*n.x+(d7 p r).y*n.y+(d7 p r).z*n.z)*n.z=(n.x*r.y-n.y*r.x)*dot n p-(n.x*p.y-n.y*p.x)*dot n r:=by simp only[dot,d7];grind
   rw[this,d1,d2];simp
 have fin:∀r:Pln,Thr u w x q->(r=q\/r=ua8 q)->0<dot r.n n->(dot n n*r.n.x=dot r.n n*n.x/\dot n n*r.n.y=dot r.n n*n.y/\dot n n*r.n.z=dot r.n n*n.z)->∃s t:Int,0<s/\0<t/\∃q∈c,t*q.n.x=s*n.x/\t*q.n.y=s*n.y/\t*q.n.z=s*n.z/\t*q.b=s*b:=λr ht hr hp ⟨p1,p2,p3⟩=>by
  have hru:dot r.n u=r.b:=by
   rcases hr with rfl|rfl
   ·exact s1
   ·exact (kb6 q u).2 s1
  have ed:∀v,dot n n*dot r.n v=dot r.n n*dot n v:=λv=>by
   have:dot n n*dot r.n v=(dot n n*r.n.x)*v.x+(dot n n*r.n.y)*v.y+(dot n n*r.n.z)*v.z:=by
    generalize dot n n=t;simp only[dot];grind
   rw[this,p1,p2,p3];generalize dot r.n n=s;simp only[dot];grind
  have eb:dot n n*r.b=dot r.n n*b:=by rw[<- hru,ed,t1]
  have hd:∀v∈l,dot r.n v<=r.b:=λv hv=>by
   have h1:=Qim (hf.hd v hv) (Qif hp);rw[<- ed,<- eb] at h1;exact Int.le_of_mul_le_mul_left h1 hnn
  have hF:bd9 l r:=by
   rcases hr with rfl|rfl
   ·exact sd0 hu hw hx ht hd
   ·exact Qc7 hu hw hx ht hd
  exact⟨dot r.n n,dot n n,hp,hnn,r,hc r hF,p1,p2,p3,eb⟩
 by_cases h0:0<dot q.n n
 ·exact fin q ht (.inl rfl) h0 par
 ·refine fin (ua8 q) ht (.inr rfl) ?_ ?_
  ·rw[rc4]
   have:dot q.n n≠0:=λe=>by
    obtain⟨p1,p2,p3⟩:=par;rw[e] at p1 p2 p3;simp only[Qiq] at p1 p2 p3;have z:∀{x:Int},dot n n*x=0->x=0:=λh=>(Qib.1 h).resolve_left (by omega)
    exact id4 ht.ok (V3.ext' (z p1) (z p2) (z p3))
   omega
  ·rw[rc4];obtain⟨p1,p2,p3⟩:=par;show dot n n*-q.n.x=_/\dot n n*-q.n.y=_/\dot n n*-q.n.z=_;rw[Int.mul_neg,Int.mul_neg,Int.mul_neg,p1,p2,p3,Int.neg_mul,Int.neg_mul,Int.neg_mul];exact⟨rfl,rfl,rfl⟩
end Go.Ev.Ce
