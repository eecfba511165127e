/- Own work. -/
import Derived.Test.YtigadclidanicaaGreatEvOaDS
set_option linter.all false
noncomputable section
def Qia:=@List.length_append
def Qib:=@List.length_take
def Qic:=@List.drop_zero
def Qid:=@Nat.zero_add
def Qie:=@List.length_drop
def Qif:=@List.drop_eq_getElem_cons
def Qig:=@List.getD_eq_getElem?_getD
def Qih:=@Nat.lt_irrefl
def Qii:=@Nat.zero_le
def Qij:=@List.mem_cons_of_mem
def Qik:=@List.getElem_mem
def Qil:=@Nat.le_refl
def Qim:=@List.length_set
def Qin:=@Bool.and_eq_true
def Qio:=@List.not_all_eq_any_not
def Qip:=@List.getElem?_eq_getElem
def Qiq:=@Bool.and_true
def Qir:=@List.take_succ_eq_append_getElem
def Qis:=@List.drop_eq_nil_of_le
def Qit:=@List.take_append_of_le_length
def Qiu:=@Nat.beq_refl
def Qiv:=@Nat.gcd_pos_of_pos_right
def Qiw:=@List.append_assoc
def Qix:=@List.take_of_length_le
def Qiy:=@List.findIdx_lt_length_of_exists
def Qiz:=@List.filter_cons
def Qiaa:=@List.length_replicate
def Qiab:=@List.mem_append
def Qiac:=@List.append_nil
def Qiad:=@Bool.not_false
def Qiae:=@Bool.false_eq_true
def Qiaf:=@List.mem_cons_self
def Qiag:=@Int.emod_lt_of_pos
def Qiah:=@List.filter_append
def Qiai:=@Nat.gcd_zero_left
def Qiaj:=@Bool.not_eq_true'
def Qiak:=@Nat.blt_eq
def Qial:=@Nat.ble_eq
def Qiam:=@Int.ofNat_lt
def Qian:=@Nat.gcd_le_right
def Qiao:=@List.not_mem_nil
def Qiap:=@Bool.not_eq_true
def Qiaq:=@List.any_eq_true
def Qiar:=@List.all_eq_true
def Qias:=@Int.emod_nonneg
def Qiat:=@List.drop_drop
def Qiau:=@List.getElem_set_self
def Qiav:=@List.mem_cons
def Qiaw:=@List.map_drop
namespace Go.Ev.Ce
open Go Go.Ev Go.Ev.L Go.Proofs
set_option maxRecDepth 100000
structure gb8 where
 is1:Int
 ab7:List Int
 m8:Int
def md0:List (Nat×Sum):=[(34,ec8)]
theorem cd3:j9 prog G md0:=⟨lc4,trivial⟩
structure gb9 where
 alt:Nat
 (is0 m8:Int)
def za8{α:Type}(kk:gb9->α)(x:gb8):α:=let y0:=(W ((W (x.m8+1))-1));let t1:=(ca5 (gL tI x.ab7 y0.toNat) x.is1);(sl (decide (x.m8>=(↑(List.length x.ab7):Int))) (kk ⟨1,0,x.m8⟩) (sl (inB y0 (List.length x.ab7)) (sl (V7 (gL tI x.ab7 y0.toNat) x.is1) (kk ⟨1,t1,W (x.m8+1)⟩) (kk ⟨0,0,0⟩)) (kk ⟨0,0,0⟩)))
def A4(x:gb8):gb9:=za8 (λr=>r) x
def wb1(x:gb8)(r:gb9):DT (d7×List d8):=(.ite (Nat.beq r.alt 1) (.ret (i r.is0,[⟨0,2,[[eL tI x.ab7,i r.m8]],true,false,0⟩])) .fail)
theorem xd8{α β:Type}(F:α->β)(kk:gb9->α)(x:gb8):F (za8 kk x)=za8 (λr=>F (kk r)) x:=by unfold za8;(repeat' apply k8 (f:=F))<;>rfl
def sc1:Sum:=Sa0 ⟨[.s (.o (.ptr 0 0 0 0)),.s (.o (.int .i64))],[⟨0,2,true,some [[.c 1 (nL tI),.o (.int .i64)]]⟩],λa H=>(⟨toI (slT a 1),rL tI (slT (rwT (elT H 0) 0) 0),toI (slT (rwT (elT H 0) 0) 1)⟩,())⟩ (λx=>wb1 x (A4 x))
theorem md1:j6 prog G 43 sc1:=I1 (enc:=λx=>⟨[.ptr 0 0 0 0,i x.is1],[⟨0,2,[[eL tI x.ab7,i x.m8]],true,false,0⟩]⟩) (λa H=>by kernel_rfl) (bd b43 cd3) λx=>B6 (Eq.trans (b:=za8 (λr=>(wb1 x r).run) x) (by kernel_rfl) (xd8 (λr=>(wb1 x r).run) (λr=>r) x).symm)
def Qe7:List (Nat×Sum):=[]
theorem Be9:j9 prog G Qe7:=trivial
def md2(x:V3)(y:V3):V3:=(⟨W (x.x-y.x),W (x.y-y.y),W (x.z-y.z)⟩:V3)
def ce5:Sum:=ta3 (ya7 tV) (ya7 tV) (λx y=>.ret ((one r1V).enc (md2 x y),[]))
theorem Qe8:j6 prog G 89 ce5:=Ta3 (bd b89 Be9) λx y=>B6 (by kernel_rfl)
def Ce0:List (Nat×Sum):=[(89,ce5)]
theorem ne6:j9 prog G Ce0:=⟨Qe8,trivial⟩
def wb2(x:Pln):Pln:=let t1:=(md2 (⟨0,0,0⟩:V3) x.n);(⟨t1,W (0-x.b)⟩:Pln)
def Tc1:Sum:=ca1 (ya7 tP) (λx=>.ret ((one r1P).enc (wb2 x),[]))
theorem td2:j6 prog G 67 Tc1:=gb2 (bd b67 ne6) λx=>B6 (by kernel_rfl)
structure of2 where
 (B3 m8 s5 v8 Ma5 Ma6 Ma7 Ma8:Int)
structure of3 where
 is7:Int
def Qe9:List (Nat×Sum):=[(34,ec8)]
theorem Ce1:j9 prog G Qe9:=⟨lc4,trivial⟩
def fc7(x:Pln)(y:V3):ROq:=let t1:=(ca5 y.z 9);let y0:=(g8 [[i y.y],[i 0],[i 4608],[i 4609],[i (-4609)],[i (W (2*x.n.x))],[i 2097152],[i 2097153],[i (-2097152)]] (0+t1.toNat));let y1:=(i (toI (hdA y0)));let t2:=(ca5 y.x 5);(sl (V7 y.z 9) (sl (inB t1 9) (sl ((Nat.ble 1 (len y0))&&(ra7 [CK.int .i64] y0)) (sl (V7 y.x 5) (sl (t2==0) (some (.agg [y1,i x.n.y,i x.n.z,i x.b],[])) (sl (t2==1) (some (.agg [i x.n.x,y1,i x.n.z,i x.b],[])) (sl (t2==2) (some (.agg [i x.n.x,i x.n.y,y1,i x.b],[])) (sl (t2==3) (some (.agg [i x.n.x,i x.n.y,i x.n.z,y1],[])) (sl (t2==4) (some (.agg [i (W (2*x.n.x)),i (W (2*x.n.y)),i (W (2*x.n.z)),i x.b],[])) (some (.agg [i x.n.x,i x.n.y,i x.n.z,i x.b],[]))))))) none) none) none) none)
def ce6(x:Pln)(y:V3):Pln:=V2 (one r1P) (fc7 x y)
def md3(x:Pln)(y:V3):Bool:=okO (one r1P) (fc7 x y)
def ce7:Sum:=ta3 (ya7 tP) (ya7 tV) (λx y=>.guard (md3 x y) (.ret ((one r1P).enc (ce6 x y),[])))
theorem Re0:j6 prog G 68 ce7:=ub3 (bd b68 Ce1) (one r1P) (o:=fc7) λx y=>B6 (by kernel_rfl)
def td3:List (Nat×Sum):=[]
theorem ne7:j9 prog G td3:=trivial
structure pb4 where
 (j5 ea1:PLq)
structure ua7 where
 is5:Int
def Oc8(p:pb4)(s:ua7):St:=⟨eL tP p.j5::eL tP p.ea1::ra 3 (i s.is5::ra 20 []),[]⟩
def Wa6{α:Type}(k:ua7->α)(e:Nat->α)(z:α)(p:pb4)(s:ua7):α:=let y1:=(gL tP p.ea1 s.is5.toNat);let y0:=(gL tP p.j5 s.is5.toNat);(sl (decide (s.is5<(↑(List.length p.j5):Int))) (sl (inB s.is5 (List.length p.j5)) (sl (inB s.is5 (List.length p.ea1)) (sl (!((y0.n.x==y1.n.x)&&((y0.n.y==y1.n.y)&&((y0.n.z==y1.n.z)&&((y0.b==y1.b)&&true))))) (e 1) (k ⟨W (s.is5+1)⟩)) z) z) (e 2))
def eb9(p:pb4)(s:ua7):Stp ua7:=Wa6 .next .exit .fail p s
def mc6:Lo pb4 ua7:=⟨En td3,0,lg1,[1,1,0,1,4,4],[0,1,5],.p,[⟨sLq tP::sLq tP::ru2 3 (sIq::ru2 20 []),[],λa H=>(⟨aLq tP a 0,aLq tP a 1⟩,⟨aIq a 5⟩)⟩],eb9,[(none,λp s=>⟨[b false],[]⟩),(some 0,λp s=>upq (Oc8 p s) [(11,i s.is5),(12,eL tP p.j5),(13,i (↑(List.length p.j5):Int)),(14,b (decide (s.is5<(↑(List.length p.j5):Int))))])],Oc8⟩
theorem Ud9:mc6.Ok:=Lo.ok [] (by kernel_rfl) .nil rfl (.cons (λa H=>by kernel_rfl) .nil) λp s=>(.of @Wa6 (λF _ _ _ _ _=>by unfold Wa6;(repeat' apply k8 (f:=F))<;>rfl) (by kernel_rfl))
def Pb3(x:PLq)(y:PLq):ROq:=let t1:=(lp (eb9 (⟨rt tP x,rt tP y⟩:pb4)) (⟨0⟩:ua7));(sl ((↑(List.length x):Int) != (↑(List.length y):Int)) (some (b false,[])) (sl ((cnE tP x)&&((cnE tP y)&&true)) (sl (Nat.beq t1.1 1) (some (b false,[])) (sl (Nat.beq t1.1 2) (some (b true,[])) none)) none))
def mc7(x:PLq)(y:PLq):Bool:=V2 (one r1B) (Pb3 x y)
def mc8(x:PLq)(y:PLq):Bool:=okO (one r1B) (Pb3 x y)
def Kd5:Sum:=ta3 (na2 tP) (na2 tP) (λx y=>.guard (mc8 x y) (.ret ((one r1B).enc (mc7 x y),[])))
theorem Ce2:j6 prog G 59 Kd5:=ub3 (bd b59 ne7) (one r1B) (o:=Pb3) λx y=>Ga2 (.s .p (.s .p (.s (.s .p (.b (.u mc6.ls))) .p))) [mc6.pr] (by kernel_rfl) (.cons Ud9 .nil) (by kernel_rfl)
def Kd6:List (Nat×Sum):=[(34,ec8),(68,ce7),(67,Tc1)]
theorem Ce3:j9 prog G Kd6:=⟨lc4,Re0,td2,trivial⟩
structure Bb4 where
 is6:Int
structure Ja5 where
 ns5:Nat
 eh0:List (List d7)
def cd4(p:Bb4)(s:Ja5):St:=⟨ra 5 (.sl 0 0 s.ns5 0::i p.is6::ra 91 []),[⟨66,4,s.eh0,true,false,0⟩]⟩
def yb6{α:Type}(k:Ja5->α)(e:Nat->α)(z:α)(p:Bb4)(s:Ja5):α:=let y0:=(rdR tP s.eh0 (0+p.is6.toNat));(sl (decide ((↑s.ns5:Int)<=48)) (sl (inB p.is6 s.ns5) (sl (ldR tP s.eh0 (0+p.is6.toNat)) (sl (Nat.beq s.ns5 (len s.eh0)&&Nat.ble ((s.ns5+1)*32) room) (k ⟨s.ns5+1,app s.eh0 [[i y0.n.x,i y0.n.y,i y0.n.z,i y0.b]]⟩) z) z) z) (e 1))
def pb5(p:Bb4)(s:Ja5):Stp Ja5:=yb6 .next .exit .fail p s
def Bc4:Lo Bb4 Ja5:=⟨En Kd6,0,kg7,[1,1,1,1,0,1,4,1,3,1,3,1,3,1,3,1,3,1,2,4,4],[5,6],.p,[⟨ru2 5 (.s (.o (.sl 0 0 (some 0) none))::sIq::ru2 91 []),[⟨66,4,true,none⟩],λa H=>(⟨aIq a 6⟩,⟨slN (slT a 5),elT H 0⟩)⟩],pb5,[(some 1,λp s=>upq (cd4 p s) [(87,.sl 0 0 s.ns5 0),(88,i (↑s.ns5:Int)),(89,b (decide ((↑s.ns5:Int)<=48)))])],cd4⟩
theorem ne8:Bc4.Ok:=Lo.ok [] (by kernel_rfl) .nil rfl (.cons (λa H=>by kernel_rfl) .nil) λp s=>(.of @yb6 (λF _ _ _ _ _=>by unfold yb6;(repeat' apply k8 (f:=F))<;>rfl) (by kernel_rfl))
def fc8(x:PLq)(y:V3):ROq:=let t2:=(ca5 y.x 6);let t5:=(ca5 y.z 9);let a0:=(o9 (λk=>(tP).row (gL tP x k)) (List.range (List.length x)));let y4:=(↑(0+(len a0)):Int);let y2:=((0+(len a0))+1);let t1:=(ca5 y.y y4);let y1:=(ldR tP (app [] a0) (0+t1.toNat));let y0:=(inB t1 (0+(len a0)));let t6:=(lp (pb5 (⟨t1⟩:Bb4)) (⟨0+(len a0),app [] a0⟩:Ja5));let a1:=(H9 (l4 (app [] a0) (0+(W (t1+1)).toNat)) ((0+(len a0))-(W (t1+1)).toNat));let y3:=((t1.toNat-0)+(len a1));let a2:=(g8 (app [] a0) (0+t1.toNat));let a3:=(rdR tP (app [] a0) (0+t1.toNat));let t3:=(ce6 a3 (⟨y.z,y.y,y.x⟩:V3));let t4:=(wb2 a3);let a4:=(Nat.blt (0+t1.toNat) (len (app [] a0)));let y6:=(a4&&(Nat.ble (3+1) (len a2)));let y5:=(a4&&(Nat.ble (0+4) (len a2)));(sl (Nat.beq 0 0&&Nat.ble ((0+(len a0))*32) room) (sl (y4==0) (some (.sl 0 0 1 0,[⟨66,4,[[i 0,i 0,i 0,i 0]],true,false,0⟩])) (sl (V7 y.y y4) (sl (V7 y.x 6) (sl (t2==0) (sl y0 (sl y1 (sl (md3 a3 (⟨y.z,y.y,y.x⟩:V3)) (sl y0 (sl y5 (some (.sl 0 0 (0+(len a0)) 0,[⟨66,4,setAt (app [] a0) (0+t1.toNat) (L0 a2 0 [i t3.n.x,i t3.n.y,i t3.n.z,i t3.b]),true,false,0⟩])) none) none) none) none) none) (sl (t2==1) (sl (inB t1 y2) (sl (inB (W (t1+1)) y2) (sl (Nat.ble y3 (len (app [] a0))) (some (.sl 0 0 y3 0,[⟨66,4,app (H9 (app [] a0) (t1.toNat-0)) (app a1 (l4 (app [] a0) y3)),true,false,0⟩])) none) none) none) (sl (t2==2) (sl y0 (sl y1 (sl y0 (sl y5 (some (.sl 0 0 (0+(len a0)) 0,[⟨66,4,setAt (app [] a0) (0+t1.toNat) (L0 a2 0 [i t4.n.x,i t4.n.y,i t4.n.z,i t4.b]),true,false,0⟩])) none) none) none) none) (sl (t2==3) (sl y0 (sl y1 (sl (Nat.beq (0+(len a0)) (len (app [] a0))&&Nat.ble (y2*32) room) (some (.sl 0 0 y2 0,[⟨66,4,app (app [] a0) [[i a3.n.x,i a3.n.y,i a3.n.z,i a3.b]],true,false,0⟩])) none) none) none) (sl (t2==4) (sl y0 (sl (y6&&(ra7 [CK.int .i64] (l4 a2 3))) (sl (V7 y.z 9) (sl y0 (sl y6 (some (.sl 0 0 (0+(len a0)) 0,[⟨66,4,setAt (app [] a0) (0+t1.toNat) (L0 a2 3 [i (W ((W ((toI (hdA (l4 a2 3)))+t5))-4))]),true,false,0⟩])) none) none) none) none) none) (sl (t2==5) (sl (Nat.beq t6.1 1) (some (.sl 0 0 t6.2.ns5 0,[⟨66,4,t6.2.eh0,true,false,0⟩])) none) (some (.sl 0 0 (0+(len a0)) 0,[⟨66,4,app [] a0,true,false,0⟩])))))))) none) none)) none)
def Ic8(x:PLq)(y:V3):PLq:=V2 (one (r1L tP)) (fc8 x y)
def md4(x:PLq)(y:V3):Bool:=okO (one (r1L tP)) (fc8 x y)
def ce8:Sum:=ta3 (na2 tP) (ya7 tV) (λx y=>.guard (md4 x y) (.ret ((one (r1L tP)).enc (Ic8 x y),[])))
theorem Re1:j6 prog G 35 ce8:=ub3 (bd b35 Ce3) (one (r1L tP)) (o:=fc8) λx y=>Ga2 (.s .p (.s .p (.s .p (.s .p (.s (.s .p (.b (.s .p (.c .p (.s .p (.c .p (.s .p (.c .p (.s .p (.c .p (.s .p (.c .p (.s .p (.c (.b (.u Bc4.ls)) .p)))))))))))))) .p))))) [Bc4.pr] (by kernel_rfl) (.cons ne8 .nil) (by kernel_rfl)
def uc3:List (Nat×Sum):=[]
theorem mc9:j9 prog G uc3:=trivial
structure Ba7 where
 (alt ns0:Nat)
 eh0:List (List d7)
def ca8{α:Type}(kk:Ba7->α)(x:Pln×PLq):α:=let y0:=(List.range (List.length x.2+1));(sl (Nat.beq 0 0&&Nat.ble ((0+(len (o9 (λk=>(tP).row (gL tP (x.1::x.2) k)) y0)))*32) room) (kk ⟨1,(0+(len (o9 (λk=>(tP).row (gL tP (x.1::x.2) k)) y0))),(app [] (o9 (λk=>(tP).row (gL tP (x.1::x.2) k)) y0))⟩) (kk ⟨0,0,[]⟩))
def Ba8(x:Pln×PLq):Ba7:=ca8 (λr=>r) x
def Sa5(r:Ba7):DT (d7×List d8):=(.ite (Nat.beq r.alt 1) (.ret (.sl 0 0 r.ns0 0,[⟨66,4,r.eh0,true,false,0⟩])) .fail)
theorem Bc5{α β:Type}(F:α->β)(kk:Ba7->α)(x:Pln×PLq):F (ca8 kk x)=ca8 (λr=>F (kk r)) x:=by unfold ca8;(repeat' apply k8 (f:=F))<;>rfl
def Bb5:Sum:=ca1 (sf4 tP) (λx=>Sa5 (Ba8 x))
theorem uc4:j6 prog G 75 Bb5:=gb2 (bd b75 mc9) λx=>B6 (Eq.trans (b:=ca8 (λr=>(Sa5 r).run) x) (by kernel_rfl) (Bc5 (λr=>(Sa5 r).run) (λr=>r) x).symm)
def ne9:List (Nat×Sum):=[(39,Wa2),(106,yb4),(75,Bb5),(107,za2),(109,Ha6),(111,La2)]
theorem Vd0:j9 prog G ne9:=⟨ab3,Ob9,uc4,Wa5,eb8,kb2,trivial⟩
def Bb6(x:Pln×PLq):ROq:=let y0:=(rt tP (x.1::x.2));let t1:=(Ba4 y0);let t2:=(Ra0 y0);let t3:=(Ba8 (hC tP (λk=>(tP).row (gL tP (x.1::x.2) k)),tC tP (List.length x.2) (λk=>(tP).row (gL tP (x.1::x.2) k))));let t4:=(P0 ⟨t3.ns0,t3.eh0,rt tX t2⟩);let t5:=(fa8 ⟨t4.ns0,app (bL tP (kb3 (slR tP t4.eh0 0 t4.ns0))) (l4 t4.eh0 t4.ns0)⟩);(sl (okE tP (x.1::x.2)) (sl (Ba5 y0) (sl (!t1) (some (.v (.slice none 0 0),[])) (sl (okE tP (x.1::x.2)) (sl (Ra1 y0) (sl (okL tP (List.length x.2+1) (λk=>(tP).row (gL tP (x.1::x.2) k))) (sl (Nat.beq t3.alt 1) (sl ((cnE tX t2)&&true) (sl (Nat.beq t4.alt 1) (sl (Bool.and (Nat.ble t4.ns0 room) (Bool.and (Nat.ble t4.ns0 (len t4.eh0)) (okS tP t4.eh0 0 t4.ns0))) (sl (Nat.beq t5.alt 1) (some (.sl 0 0 t5.ns0 0,[⟨66,4,t5.eh0,true,false,0⟩])) none) none) none) none) none) none) none) none)) none) none)
def td4(x:Pln×PLq):PLq:=V2 (one (r1L tP)) (Bb6 x)
def td5(x:Pln×PLq):Bool:=okO (one (r1L tP)) (Bb6 x)
def Ce4:Sum:=ca1 (sf4 tP) (λx=>.guard (td5 x) (.ret ((one (r1L tP)).enc (td4 x),[])))
theorem oe0:j6 prog G 87 Ce4:=ab0 (bd b87 Vd0) (one (r1L tP)) (o:=Bb6) λx=>B6 (by kernel_rfl)
structure Wf2 where
 j5:PLq
 (B3 m8 s5 v8:Int)
structure Wf3 where
 is5:Int
def oe1:List (Nat×Sum):=[(70,Ac0),(72,ld0),(71,Sc5)]
theorem Vd1:j9 prog G oe1:=⟨bd3,Id9,sd8,trivial⟩
def Bb7(x:PLq)(y:PLq):ROq:=let y1:=(List.range (List.length y));let y0:=(List.range (List.length x));let t1:=(jb8 (rt tP x));let t2:=(jb8 (rt tP y));let t3:=(ec5 (slR tP (app (app [] (o9 (λk=>(tP).row (gL tP x k)) y0)) (o9 (λk=>(tP).row (gL tP y k)) y1)) 0 ((0+(len (o9 (λk=>(tP).row (gL tP x k)) y0)))+(len (o9 (λk=>(tP).row (gL tP y k)) y1)))));let t4:=(Nb8 (rt tP t3));(sl (okE tP x) (sl (jb9 (rt tP x)) (sl (t1 != 0) (some (b true,[])) (sl (okE tP y) (sl (jb9 (rt tP y)) (sl (t2 != 0) (some (b true,[])) (sl (Nat.beq 0 0&&Nat.ble ((0+(len (o9 (λk=>(tP).row (gL tP x k)) y0)))*32) room) (sl (Nat.beq (0+(len (o9 (λk=>(tP).row (gL tP x k)) y0))) (len (app [] (o9 (λk=>(tP).row (gL tP x k)) y0)))&&Nat.ble (((0+(len (o9 (λk=>(tP).row (gL tP x k)) y0)))+(len (o9 (λk=>(tP).row (gL tP y k)) y1)))*32) room) (sl (okS tP (app (app [] (o9 (λk=>(tP).row (gL tP x k)) y0)) (o9 (λk=>(tP).row (gL tP y k)) y1)) 0 ((0+(len (o9 (λk=>(tP).row (gL tP x k)) y0)))+(len (o9 (λk=>(tP).row (gL tP y k)) y1)))) (sl (ec6 (slR tP (app (app [] (o9 (λk=>(tP).row (gL tP x k)) y0)) (o9 (λk=>(tP).row (gL tP y k)) y1)) 0 ((0+(len (o9 (λk=>(tP).row (gL tP x k)) y0)))+(len (o9 (λk=>(tP).row (gL tP y k)) y1))))) (sl (okE tP t3) (sl (Nb9 (rt tP t3)) (some (b (!t4),[])) none) none) none) none) none) none)) none) none)) none) none)
def Wb5(x:PLq)(y:PLq):Bool:=V2 (one r1B) (Bb7 x y)
def Wb6(x:PLq)(y:PLq):Bool:=okO (one r1B) (Bb7 x y)
def td6:Sum:=ta3 (na2 tP) (na2 tP) (λx y=>.guard (Wb6 x y) (.ret ((one r1B).enc (Wb5 x y),[])))
theorem oe2:j6 prog G 41 td6:=ub3 (bd b41 Vd1) (one r1B) (o:=Bb7) λx y=>B6 (by kernel_rfl)
def oe3:List (Nat×Sum):=[]
theorem Vd2:j9 prog G oe3:=trivial
def Bc6(x:V3)(y:V3):V3:=(⟨W (x.x-y.x),W (x.y-y.y),W (x.z-y.z)⟩:V3)
def td7:Sum:=ta3 (ya7 tV) (ya7 tV) (λx y=>.ret ((one r1V).enc (Bc6 x y),[]))
theorem oe4:j6 prog G 154 td7:=Ta3 (bd zg6 Vd2) λx y=>B6 (by kernel_rfl)
def Vd3:List (Nat×Sum):=[(154,td7)]
theorem Kd7:j9 prog G Vd3:=⟨oe4,trivial⟩
def pb6(x:Pln):Pln:=let t1:=(Bc6 (⟨0,0,0⟩:V3) x.n);(⟨t1,W (0-x.b)⟩:Pln)
def cd5:Sum:=ca1 (ya7 tP) (λx=>.ret ((one r1P).enc (pb6 x),[]))
theorem Vd4:j6 prog G 134 cd5:=gb2 (bd yg5 Kd7) λx=>B6 (by kernel_rfl)
end Go.Ev.Ce
namespace Go.Ev.L
open Go Go.Ev
theorem xf5(n:Int):W n=(n+9223372036854775808) % 18446744073709551616-9223372036854775808:=IntKind.wrap_i64 n
theorem La6{n:Int}(h1:-9223372036854775808<=n)(h2:n<=9223372036854775807):W n=n:=by rw[xf5];omega
theorem Ye1(n:Int):∃k,W n=n+18446744073709551616*k:=⟨-((n+9223372036854775808) / 18446744073709551616),by rw[xf5];omega⟩
theorem Ic9(n k:Int):W (n+18446744073709551616*k)=W n:=by rw[xf5,xf5];omega
theorem Bc7(a b:Int):W (W a+b)=W (a+b):=by
 obtain⟨k,hk⟩:=Ye1 a;rw[hk,show a+18446744073709551616*k+b=a+b+18446744073709551616*k by omega,Ic9]
theorem md5(a b:Int):W (a+W b)=W (a+b):=by rw[Int.add_comm,Bc7,Int.add_comm]
theorem Kd8(a b:Int):W (W a-b)=W (a-b):=by
 obtain⟨k,hk⟩:=Ye1 a;rw[hk,show a+18446744073709551616*k-b=a-b+18446744073709551616*k by omega,Ic9]
theorem oe5(a b:Int):W (a-W b)=W (a-b):=by
 obtain⟨k,hk⟩:=Ye1 b;rw[hk,show a-(b+18446744073709551616*k)=a-b+18446744073709551616*(-k) by omega,Ic9]
theorem Re2(a b:Int):W (W a*b)=W (a*b):=by
 obtain⟨k,hk⟩:=Ye1 a;rw[hk,show (a+18446744073709551616*k)*b=a*b+18446744073709551616*(k*b) by grind,Ic9]
theorem xf6(a b:Int):W (a*W b)=W (a*b):=by rw[Int.mul_comm,Re2,Int.mul_comm]
theorem u7{j n:Nat}(h:j<n)(hn:n<=4611686018427387904):W ((j:Int)+1)=((j+1:Nat):Int):=by
 rw[La6 (by omega) (by omega)];omega
theorem Bc8{j n:Nat}(h:j<n):decide ((j:Int)<(n:Int))=true:=decide_eq_true (by omega)
theorem nc0{j n:Nat}(h:¬ j<n):decide ((j:Int)<(n:Int))=false:=decide_eq_false (by omega)
theorem i9{j n:Nat}(h:j<n):inB (j:Int) n=true:=by
 show Nat.blt j n=true;rw[Qiak];exact h
theorem Ye2(m:Int)(n:Nat):inB m n=decide (0<=m/\m<n):=by
 unfold inB;cases m with
 |ofNat k =>
  rw[Bool.eq_iff_iff,decide_eq_true_eq];show Nat.blt k n=true↔_;rw[Qiak];constructor
  ·intro h;exact⟨Int.natCast_nonneg k,Qiam.2 h⟩
  ·intro h;exact Qiam.1 h.2
 |negSucc k=>exact (decide_eq_false (λh=>by omega)).symm
theorem bt{c:Bool}(h:c=true){α:Type}(t e:α):sl c t e=t:=by rw[h];rfl
theorem bf{c:Bool}(h:c=false){α:Type}(t e:α):sl c t e=e:=by rw[h];rfl
theorem ab4{n:Nat}(h:n<=1000000000000):Nat.ble (n*32) room=true:=by
 rw[Qial];unfold room;omega
theorem xf7{σ:Type}{step:σ->Stp σ}{I:Nat->σ->Prop}{Q:Nat->σ->Prop}(h:∀m s,I m s->(∃t,step s=.exit t/\Q t s)\/∃s' m',m=m'+1/\step s=.next s'/\I m' s') :
  ∀(m n:Nat) (s:σ),m<=n->I m s->Q (lp0 step n s).1 (lp0 step n s).2
 |m,n,s,hn,hi=>by
  rcases h m s hi with⟨t,h1,h2⟩|⟨s',m',rfl,h1,h2⟩
  ·rw[Fd7 h1];exact h2
  ·cases n with
   |zero=>omega
   |succ n =>
    rw[xe5 h1];exact xf7 h m' n s' (by omega) h2
theorem nc1{σ:Type}{step:σ->Stp σ}{I:Nat->σ->Prop}{Q:Nat->σ->Prop}(h:∀m s,I m s->(∃t,step s=.exit t/\Q t s)\/∃s' m',m=m'+1/\step s=.next s'/\I m' s')
  (m:Nat) (s:σ) (hm:m<=18446744073709551615) (hi:I m s):Q (lp step s).1 (lp step s).2:=by
 rw[rf9];exact xf7 h m rounds s (by unfold rounds;omega) hi
section
variable{σ τ α:Type}{step:σ->Stp σ}
theorem Bd7{mk:Nat->τ->σ}{f:τ->α->τ}{fin:Nat}(t:Ty α)(l:List α)(I:Nat->τ->Prop)(hl:l.length<=1000000000)
  (h:∀j a,j<l.length->I j a->step (mk j a)=.next (mk (j+1) (f a (gL t l j)))/\I (j+1) (f a (gL t l j)))
  (hf:∀a,I l.length a->step (mk l.length a)=.exit fin) (j0:Nat) (hj:j0<=l.length) (a:τ) (hi:I j0 a) :
  lp step (mk j0 a)=(fin,mk l.length ((l.drop j0).foldl f a))/\I l.length ((l.drop j0).foldl f a):=by
 have key:=nc1 (step:=step) (I:=λm s=>∃j b,m=l.length-j/\j<=l.length/\s=mk j b/\I j b/\(l.drop j).foldl f b=(l.drop j0).foldl f a)
  (Q:=λu s=>u=fin/\s=mk l.length ((l.drop j0).foldl f a)/\I l.length ((l.drop j0).foldl f a)) (λm s ⟨j,b,hm,hj,hs,hb,he⟩=>by
   subst hs;by_cases hlt:j<l.length
   ·obtain⟨h1,h2⟩:=h j b hlt hb;refine .inr ⟨_,l.length-(j+1),by omega,h1,j+1,_,rfl,by omega,rfl,h2,?_⟩
    rw[<- he,Qif hlt,List.foldl_cons];simp[gL,Qig,Qip hlt]
   ·have:j=l.length:=by omega
    subst this;have he:b=(l.drop j0).foldl f a:=by rw[<- he];simp
    subst he;exact .inl ⟨fin,hf _ hb,rfl,rfl,hb⟩) (l.length-j0) (mk j0 a) (by omega) ⟨j0,a,rfl,hj,rfl,hi,rfl⟩
 exact⟨by rw[<- key.2.1,<- key.1],key.2.2⟩
theorem nc2{mk:Nat->σ}{c:α->Bool}{u fin:Nat}(t:Ty α)(l:List α)(hl:l.length<=1000000000)
  (h:∀j,j<l.length->step (mk j)=sl (c (gL t l j)) (.exit u) (.next (mk (j+1)))) (hf:step (mk l.length)=.exit fin) (j0:Nat) (hj:j0<=l.length) :
  (lp step (mk j0)).1=if (l.drop j0).any c then u else fin :=
 nc1 (step:=step) (I:=λm s=>∃j,m=l.length-j/\j<=l.length/\s=mk j/\(l.drop j).any c=(l.drop j0).any c)
  (Q:=λv _=>v=if (l.drop j0).any c then u else fin) (λm s ⟨j,hm,hj,hs,he⟩=>by
   subst hs;by_cases hlt:j<l.length
   ·have h1:=h j hlt;have e:gL t l j=l[j]:=by simp[gL,Qig,Qip hlt]
    have e2:(l.drop j).any c=(c l[j]||(l.drop (j+1)).any c):=by rw[Qif hlt,List.any_cons]
    rw[e] at h1;cases hc:c l[j] with
    |true =>
     rw[hc] at h1;refine .inl ⟨u,h1,?_⟩;rw[<- he,e2,hc];rfl
    |false =>
     rw[hc] at h1;refine .inr ⟨_,l.length-(j+1),by omega,h1,j+1,rfl,by omega,rfl,?_⟩
     rw[<- he,e2,hc];rfl
   ·have:j=l.length:=by omega
    subst this;refine .inl ⟨fin,hf,?_⟩;rw[<- he];simp) (l.length-j0) (mk j0) (by omega) ⟨j0,rfl,hj,rfl,rfl⟩
theorem yb7{mk:Nat->σ}{c:α->Bool}{u fin:Nat}(t:Ty α)(l:List α)(hl:l.length<=1000000000)
  (h:∀j,j<l.length->step (mk j)=sl (c (gL t l j)) (.exit u) (.next (mk (j+1)))) (hf:step (mk l.length)=.exit fin) (j0:Nat) (hj:j0<=l.length) :
  lp step (mk j0)=if (l.drop j0).any c then (u,mk (j0+(l.drop j0).findIdx c)) else (fin,mk l.length):=by
 have key:=nc1 (step:=step) (I:=λm s=>∃j,m=l.length-j/\j<=l.length/\j0<=j/\s=mk j/\(l.drop j).any c=(l.drop j0).any c/\j+(l.drop j).findIdx c=j0+(l.drop j0).findIdx c)
  (Q:=λv s=>(v,s)=if (l.drop j0).any c then (u,mk (j0+(l.drop j0).findIdx c)) else (fin,mk l.length)) (λm s ⟨j,hm,hj,hj0,hs,he,hi⟩=>by
   subst hs;by_cases hlt:j<l.length
   ·have h1:=h j hlt;have e:gL t l j=l[j]:=by simp[gL,Qig,Qip hlt]
    have e2:(l.drop j).any c=(c l[j]||(l.drop (j+1)).any c):=by rw[Qif hlt,List.any_cons]
    have e3:(l.drop j).findIdx c=if c l[j] then 0 else (l.drop (j+1)).findIdx c+1:=by rw[Qif hlt,List.findIdx_cons];cases c l[j]<;>rfl
    rw[e] at h1;cases hc:c l[j] with
    |true =>
     rw[hc] at h1;refine .inl ⟨u,h1,?_⟩;rw[<- he,e2,hc,<- hi,e3,hc];rfl
    |false =>
     rw[hc] at h1;refine .inr ⟨_,l.length-(j+1),by omega,h1,j+1,rfl,by omega,by omega,rfl,?_,?_⟩
     ·rw[<- he,e2,hc];rfl
     ·rw[<- hi,e3,hc];simp only[Qiae,if_false];omega
   ·have:j=l.length:=by omega
    subst this;refine .inl ⟨fin,hf,?_⟩;rw[<- he];simp) (l.length-j0) (mk j0) (by omega) ⟨j0,rfl,hj,Qil _,rfl,rfl,rfl⟩
 exact key
end
theorem X7{α:Type}(t:Ty α){l:List α}{j:Nat}(h:j<l.length):gL t l j∈l:=by
 simp[gL,Qig,Qip h]
theorem fb0{α:Type}(t:Ty α){l:List α}{j:Nat}(h:j<l.length):gL t l j=l[j]:=by
 simp[gL,Qig,Qip h]
def euF:Nat->Int->Int->Int
 |0,g,_=>g
 |k+1,g,n=>if n=0 then g else euF k n (Int.tmod g n)
def eu(g n:Int):Int:=euF (n.natAbs+1) g n
theorem ub1{g n:Int}(h:n≠0):(Int.tmod g n).natAbs<n.natAbs:=by
 rw[Int.natAbs_tmod];exact Nat.mod_lt _ (by omega)
theorem Ce5:∀(k m:Nat) {g n:Int},n.natAbs<k->n.natAbs<m->euF k g n=euF m g n
 |0,_,_,_,h,_=>by omega
 |_+1,0,_,_,_,h=>by omega
 |k+1,m+1,g,n,h1,h2=>by
  unfold euF;by_cases h:n=0
  ·rw[if_pos h,if_pos h]
  ·rw[if_neg h,if_neg h]
   have:=ub1 (g:=g) h
   exact Ce5 k m (by omega) (by omega)
theorem Jc0(g:Int):eu g 0=g:=by simp[eu,euF]
theorem Bd8{g n:Int}(h:n≠0):eu g n=eu n (Int.tmod g n):=by
 have:=ub1 (g:=g) h
 unfold eu
 conv=>lhs;unfold euF
 rw[if_neg h];exact Ce5 _ _ (by omega) (by omega)
theorem cg3:∀(k:Nat) (g n:Int),n.natAbs<=k->(eu g n).natAbs=Int.gcd g n:=by
 intro k
 induction k with
 |zero =>
  intro g n h
  have:n=0:=by omega
  subst this;rw[Jc0];simp
 |succ k ih =>
  intro g n h;by_cases h0:n=0
  ·subst h0;rw[Jc0];simp
  ·have:=ub1 (g:=g) h0
   rw[Bd8 h0,ih n (Int.tmod g n) (by omega)]
   unfold Int.gcd;rw[Int.natAbs_tmod,Nat.gcd_comm g.natAbs,Nat.gcd_comm n.natAbs,<- Nat.gcd_rec]
theorem xf8(g n:Int):(eu g n).natAbs=Int.gcd g n:=cg3 _ g n (Qil _)
theorem kf8:∀(k:Nat) (g n:Int),n.natAbs<=k->0<=g->0<=n->0<=eu g n:=by
 intro k
 induction k with
 |zero =>
  intro g n h hg _
  have:n=0:=by omega
  subst this;rw[Jc0];exact hg
 |succ k ih =>
  intro g n h hg hn;by_cases h0:n=0
  ·subst h0;rw[Jc0];exact hg
  ·have:=ub1 (g:=g) h0
   rw[Bd8 h0];exact ih n _ (by omega) hn (Int.tmod_nonneg _ hg)
theorem xf9{g n:Int}(hg:0<=g)(hn:0<=n):eu g n=(Int.gcd g n:Int):=by
 have h1:=kf8 _ g n (Qil _) hg hn;have h2:=xf8 g n;omega
section
variable{σ:Type}{step:σ->Stp σ}{mk:Int->Int->σ}
theorem Ye3(h:∀g n,n≠0->step (mk g n)=.next (mk n (Int.tmod g n)))(h0:∀g,step (mk g 0)=.exit 1)(g n:Int)(hn:n.natAbs<=9223372036854775808):lp step (mk g n)=(1,mk (eu g n) 0):=by
 have:=nc1 (step:=step) (I:=λm s=>∃a c,s=mk a c/\c.natAbs<=m/\eu a c=eu g n) (Q:=λu s=>(u,s)=(1,mk (eu g n) 0)) (λm s ⟨a,c,hs,hm,he⟩=>by
  subst hs;by_cases hc:c=0
  ·subst hc;rw[Jc0] at he;subst he;exact .inl ⟨1,h0 _,rfl⟩
  ·have ht:=ub1 (g:=a) hc;exact .inr ⟨_,m-1,by omega,h a c hc,c,_,rfl,by omega,by rw[<- he,Bd8 hc]⟩) n.natAbs (mk g n) (by omega) ⟨g,n,rfl,Qil _,rfl⟩
 exact this
theorem td8(h:∀g n,0<n->step (mk g n)=.next (mk n (Int.tmod g n)))(h0:∀g,step (mk g 0)=.exit 1)(g n:Int)(hg:0<=g)(h1:0<=n)(hn:n<=9223372036854775808):lp step (mk g n)=(1,mk (eu g n) 0):=by
 have:=nc1 (step:=step) (I:=λm s=>∃a c,s=mk a c/\c.natAbs<=m/\0<=a/\0<=c/\eu a c=eu g n) (Q:=λu s=>(u,s)=(1,mk (eu g n) 0)) (λm s ⟨a,c,hs,hm,ha,hc0,he⟩=>by
  subst hs;by_cases hc:c=0
  ·subst hc;rw[Jc0] at he;subst he;exact .inl ⟨1,h0 _,rfl⟩
  ·have ht:=ub1 (g:=a) hc;exact .inr ⟨_,m-1,by omega,h a c (by omega),c,_,rfl,by omega,hc0,Int.tmod_nonneg _ ha,by rw[<- he,Bd8 hc]⟩) n.natAbs (mk g n) (by omega) ⟨g,n,rfl,Qil _,hg,h1,rfl⟩
 exact this
end
theorem mb{a c A C:Int}(h1:-A<=a)(h2:a<=A)(h3:-C<=c)(h4:c<=C):-(A*C)<=a*c/\a*c<=A*C:=by
 have hA:a.natAbs<=A.natAbs:=by omega
 have hC:c.natAbs<=C.natAbs:=by omega
 have h5:=Nat.mul_le_mul hA hC;rw[<- Int.natAbs_mul,<- Int.natAbs_mul] at h5;have h6:0<=A*C:=Int.mul_nonneg (by omega) (by omega)
 omega
end Go.Ev.L
namespace Go.Ev.Ce
open Go Go.Ev Go.Ev.L Go.Proofs
theorem kf9(P:ab1)(g n:Int)(hn:n.natAbs<=9223372036854775808):lp (eb0 P) ⟨g,n⟩=(1,⟨eu g n,0⟩) :=
 Ye3 (mk:=λg n=>(⟨g,n⟩:Aa8)) (λg n h=>by simp[eb0,Va1,Mb6,h]) (λg=>by simp[eb0,Va1,Mb6]) g n hn
theorem lf0(l:List Int)(hl:l.length<=1000000000)(hb:∀x∈l,x.natAbs<=9223372036854775808):lp (Qa7 ⟨(l.length:Int)⟩) ⟨0,l,0⟩=(1,⟨l.foldl eu 0,l,l.length⟩):=by
 have := Bd7 (step := Qa7 ⟨(l.length : Int)⟩) (mk := fun j a => (⟨a, l, (j : Int)⟩ : Aa9)) (f := eu) (fin := 1) tI l (fun _ _ => True) hl (fun j a hj _ => ⟨by
   simp only[Qa7,Va2,Int.toNat_natCast,j8,l8,kf9 _ _ _ (hb _ (X7 tI hj)),u7 hj (by omega)]
   rw[bt (Bc8 hj),bt (i9 hj)]
   rfl,trivial⟩) (λa _=>by simp[Qa7,Va2,Mb6]) 0 (Qii _) 0 trivial
 simpa using this.1
theorem cd6:∀(l:List Int) (g:Int),(l.foldl eu g).natAbs=l.foldl (λa x=>Nat.gcd a x.natAbs) g.natAbs
 |[],_=>rfl
 |x::l,g=>by rw[List.foldl_cons,cd6 l,List.foldl_cons,xf8];rfl
theorem cg4(l:List Int)(hl:l.length<=1000000000)(hb:∀x∈l,x.natAbs<=9223372036854775807)(h0:(l.foldl eu 0).natAbs<=9223372036854775807):Ob1 l=some (i ((l.foldl eu 0).natAbs:Int),[]):=by
 unfold Ob1;simp only[j8,l8,lf0 l hl (λx hx=>Nat.le_succ_of_le (hb x hx))]
 generalize l.foldl eu 0=e at *
 have:W (0-e)=-e:=by rw[La6 (by omega) (by omega)];omega
 rw[this];show some (i (if -e>e then -e else e),[])=_
 congr 3
 split<;>omega
theorem ce9(x y:Int)(hx:0<=x)(hy:0<=y)(hb:y<=9223372036854775807):nb4 x y=some (i (Int.gcd x y:Int),[]):=by
 unfold nb4
 have:=Ye3 (step:=Na2 ⟨⟩) (mk:=λg n=>(⟨g,n⟩:oa5)) (λg n h=>by simp[Na2,Ga3,Mb6,h]) (λg=>by simp[Na2,Ga3,Mb6]) x y (by omega)
 simp only[this,xf9 hx hy];rfl
theorem Kd9(x y:Int)(hx:0<=x)(hy:0<=y)(hb:y<=9223372036854775807):ea6 x y=(Int.gcd x y:Int):=by unfold ea6;rw[ce9 x y hx hy hb];rfl
theorem Ld0(x y:Int)(hx:0<=x)(hy:0<=y)(hb:y<=9223372036854775807):ea7 x y=true:=by unfold ea7;rw[ce9 x y hx hy hb];rfl
def rm(p:Pln)(x:Pt):Int:=W (p.b*x.pw-(p.n.x*x.px+p.n.y*x.py+p.n.z*x.pz))
theorem oe6(p:Pln)(x:Pt):Ja4 p x=rm p x:=by
 unfold Ja4 kb0 rm;simp only[Bc7,md5,Kd8,oe5]
theorem Ye4(p:Pln)(x:Pt):Nb0 p x=rm p x:=by
 unfold Nb0 rm;simp only[Bc7,md5,Kd8,oe5];congr 1;omega
structure Bd(p:Pln):Prop where
 x1:-4608<=p.n.x
 x2:p.n.x<=4608
 y1:-4608<=p.n.y
 y2:p.n.y<=4608
 z1:-4608<=p.n.z
 z2:p.n.z<=4608
 b1:-2097152<=p.b
 b2:p.b<=2097152
def mv(p q r:Pln):V3 :=
 ⟨(A5 q.n r.n).x*p.b+(A5 r.n p.n).x*q.b+(A5 p.n q.n).x*r.b,
  (A5 q.n r.n).y*p.b+(A5 r.n p.n).y*q.b+(A5 p.n q.n).y*r.b,
  (A5 q.n r.n).z*p.b+(A5 r.n p.n).z*q.b+(A5 p.n q.n).z*r.b⟩
def gc(v:V3)(w:Int):Int:=(Nat.gcd (Nat.gcd v.x.natAbs v.y.natAbs) (Nat.gcd v.z.natAbs w.natAbs):Nat)
def mpt(p q r:Pln):Pt×Bool :=
 if mw p q r=0 then (⟨0,0,0,0⟩,false)
 else if mw p q r<0 then (⟨Int.tdiv (-(mv p q r).x) (gc (mv p q r) (mw p q r)),Int.tdiv (-(mv p q r).y) (gc (mv p q r) (mw p q r)),Int.tdiv (-(mv p q r).z) (gc (mv p q r) (mw p q r)),Int.tdiv (-(mw p q r)) (gc (mv p q r) (mw p q r))⟩,true)
 else (⟨Int.tdiv (mv p q r).x (gc (mv p q r) (mw p q r)),Int.tdiv (mv p q r).y (gc (mv p q r) (mw p q r)),Int.tdiv (mv p q r).z (gc (mv p q r) (mw p q r)),Int.tdiv (mw p q r) (gc (mv p q r) (mw p q r))⟩,true)
def Sm(n:Int)(x:Int):Prop:=-n<=x/\x<=n
theorem cd7{a b:V3}(ha:Sm 4608 a.x/\Sm 4608 a.y/\Sm 4608 a.z)(hb:Sm 4608 b.x/\Sm 4608 b.y/\Sm 4608 b.z):Sm 42467328 (A5 a b).x/\Sm 42467328 (A5 a b).y/\Sm 42467328 (A5 a b).z:=by
 obtain⟨⟨a1,a2⟩,⟨a3,a4⟩,a5,a6⟩:=ha;obtain⟨⟨b1,b2⟩,⟨b3,b4⟩,b5,b6⟩:=hb;have h1:=mb a3 a4 b5 b6;have h2:=mb a5 a6 b3 b4;have h3:=mb a5 a6 b1 b2;have h4:=mb a1 a2 b5 b6;have h5:=mb a1 a2 b3 b4;have h6:=mb a3 a4 b1 b2;unfold Sm A5
 simp only
 omega
theorem Bd.n{p:Pln}(h:Bd p):Sm 4608 p.n.x/\Sm 4608 p.n.y/\Sm 4608 p.n.z:=⟨⟨h.x1,h.x2⟩,⟨h.y1,h.y2⟩,h.z1,h.z2⟩
theorem yf0{p q r:Pln}(hp:Bd p)(hq:Bd q)(hr:Bd r):Sm 600000000000 (mw p q r):=by
 obtain⟨⟨c1,c2⟩,⟨c3,c4⟩,c5,c6⟩:=cd7 hq.n hr.n;have h1:=mb hp.x1 hp.x2 c1 c2;have h2:=mb hp.y1 hp.y2 c3 c4;have h3:=mb hp.z1 hp.z2 c5 c6;unfold Sm mw dot;omega
theorem yf1{p q r:Pln}(hp:Bd p)(hq:Bd q)(hr:Bd r):Sm 300000000000000 (mv p q r).x/\Sm 300000000000000 (mv p q r).y/\Sm 300000000000000 (mv p q r).z:=by
 obtain⟨⟨c1,c2⟩,⟨c3,c4⟩,c5,c6⟩:=cd7 hq.n hr.n;obtain⟨⟨d1,d2⟩,⟨d3,d4⟩,d5,d6⟩:=cd7 hr.n hp.n;obtain⟨⟨e1,e2⟩,⟨e3,e4⟩,e5,e6⟩:=cd7 hp.n hq.n;have a1:=mb c1 c2 hp.b1 hp.b2;have a2:=mb c3 c4 hp.b1 hp.b2;have a3:=mb c5 c6 hp.b1 hp.b2;have b1:=mb d1 d2 hq.b1 hq.b2;have b2:=mb d3 d4 hq.b1 hq.b2;have b3:=mb d5 d6 hq.b1 hq.b2;have f1:=mb e1 e2 hr.b1 hr.b2;have f2:=mb e3 e4 hr.b1 hr.b2;have f3:=mb e5 e6 hr.b1 hr.b2;unfold Sm mv
 simp only
 omega
theorem Bd9(a b:V3):ea3 a b=⟨W (A5 a b).x,W (A5 a b).y,W (A5 a b).z⟩:=by
 unfold ea3 A5;simp only[Kd8,oe5]
theorem Cd0(a b:V3):va6 a b=⟨W (A5 a b).x,W (A5 a b).y,W (A5 a b).z⟩:=by
 unfold va6 A5;simp only[Kd8,oe5]
theorem cg5(p q r:Pln):dot r.n (A5 p.n q.n)=mw p q r:=by unfold mw dot A5;grind
theorem zg8(a b c d:Nat):[a,b,c,d].foldl Nat.gcd 0=Nat.gcd (Nat.gcd a b) (Nat.gcd c d):=by
 simp only[List.foldl_cons,List.foldl_nil,Qiai];rw[Nat.gcd_assoc]
theorem Ld1{v:V3}{w:Int}(h:w≠0):0<gc v w:=by
 unfold gc
 have:0<Nat.gcd v.z.natAbs w.natAbs:=Qiv _ (by omega)
 have:=Qiv (Nat.gcd v.x.natAbs v.y.natAbs) this
 omega
theorem yf2{v:V3}{w:Int}(h:w≠0):gc v w<=w.natAbs:=by
 unfold gc;have h1:Nat.gcd v.z.natAbs w.natAbs<=w.natAbs:=Qian _ (by omega)
 have h2:0<Nat.gcd v.z.natAbs w.natAbs:=Qiv _ (by omega)
 have h3:=Qian (m:=Nat.gcd v.x.natAbs v.y.natAbs) (n:=Nat.gcd v.z.natAbs w.natAbs) h2;omega
theorem sb5{x:Int}(h:Sm 1000000000000000000 x):W x=x:=La6 (by have:=h.1;omega) (by have:=h.2;omega)
theorem Sm.mono{n m x:Int}(h:Sm n x)(hn:n<=m):Sm m x:=⟨by have:=h.1;omega,by have:=h.2;omega⟩
theorem da9{n x g:Int}(h:Sm n x)(hg:0<g):Sm n (Int.tdiv x g):=by
 have h1:(Int.tdiv x g).natAbs<=x.natAbs:=by rw[Int.natAbs_tdiv];exact Nat.div_le_self _ _
 have:=h.1;have:=h.2
 constructor<;>omega
theorem Re3{p q r:Pln}(hp:Bd p)(hq:Bd q)(hr:Bd r)(h:(mpt p q r).2=true):0<(mpt p q r).1.pw/\Sm 300000000000000 (mpt p q r).1.px/\Sm 300000000000000 (mpt p q r).1.py/\Sm 300000000000000 (mpt p q r).1.pz/\(mpt p q r).1.pw<=600000000000:=by
 have hw:=yf0 hp hq hr;obtain⟨v1,v2,v3⟩:=yf1 hp hq hr;have neg:∀{n x:Int},Sm n x->Sm n (-x):=λh=>⟨by have:=h.2;omega,by have:=h.1;omega⟩
 have pos:∀{x:Int},0<x->x.natAbs=(mw p q r).natAbs->0<Int.tdiv x (gc (mv p q r) (mw p q r)):=λ{x} hx he=>by
  have h0:mw p q r≠0:=by omega
  have h1:=Ld1 (v:=mv p q r) h0;have h2:=yf2 (v:=mv p q r) h0;rw[Int.tdiv_eq_ediv_of_nonneg (by omega)]
  exact Int.ediv_pos_of_pos_of_dvd hx (by omega) (by
   rw[<- Int.dvd_natAbs,he];exact Int.natCast_dvd_natCast.2 (Nat.dvd_trans (Nat.gcd_dvd_right _ _) (Nat.gcd_dvd_right _ _)))
 unfold mpt at h ⊢;by_cases h0:mw p q r=0
 ·rw[if_pos h0] at h;cases h
 ·rw[if_neg h0];have hg:=Ld1 (v:=mv p q r) h0;by_cases h1:mw p q r<0
  ·rw[if_pos h1];exact⟨pos (by omega) (by omega),da9 (neg v1) hg,da9 (neg v2) hg,da9 (neg v3) hg,(da9 (neg hw) hg).2⟩
  ·rw[if_neg h1];exact⟨pos (by omega) rfl,da9 v1 hg,da9 v2 hg,da9 v3 hg,(da9 hw hg).2⟩
theorem Ye5{p q r:Pln}(hp:Bd p)(hq:Bd q)(hr:Bd r):Ab0 ⟨p,q,r⟩=some (.tup [.agg (tX.row (mpt p q r).1),b (mpt p q r).2],[]):=by
 have hw:=yf0 hp hq hr;obtain⟨v1,v2,v3⟩:=yf1 hp hq hr;have e1:kb0 r.n (ea3 p.n q.n)=mw p q r:=by
  rw[Bd9];unfold kb0;simp only[Bc7,md5,xf6];show W (dot r.n (A5 p.n q.n))=_;rw[cg5,sb5 (hw.mono (by omega))]
 have e2:Ja3 (Ja3 (Ja3 ⟨0,0,0⟩ (Aa7 (ea3 q.n r.n) p.b)) (Aa7 (ea3 r.n p.n) q.b)) (Aa7 (ea3 p.n q.n) r.b)=mv p q r:=by
  rw[Bd9,Bd9,Bd9];unfold Ja3 Aa7;simp only[Bc7,md5,Re2,Int.zero_add];show (⟨W (mv p q r).x,W (mv p q r).y,W (mv p q r).z⟩:V3)=_;rw[sb5 (v1.mono (by omega)),sb5 (v2.mono (by omega)),sb5 (v3.mono (by omega))]
 unfold Ab0;simp only[e1,e2];have hb:∀x∈[(mv p q r).x,(mv p q r).y,(mv p q r).z,mw p q r],x.natAbs<=9223372036854775807:=by
  intro x hx;simp only[Qiav,Qiao,or_false] at hx;unfold Sm at *
  rcases hx with rfl|rfl|rfl|rfl<;>omega
 have hf:([(mv p q r).x,(mv p q r).y,(mv p q r).z,mw p q r].foldl eu 0).natAbs=Nat.gcd (Nat.gcd (mv p q r).x.natAbs (mv p q r).y.natAbs) (Nat.gcd (mv p q r).z.natAbs (mw p q r).natAbs):=by
  rw[cd6,<- zg8];rfl
 unfold mpt;by_cases h0:mw p q r=0
 ·rw[bt (by rw[h0];rfl),if_pos h0]
  rfl
 ·have hz:(mw p q r==0)=false:=by simpa using h0
  rw[bf hz,if_neg h0];have hgp:=Ld1 (v:=mv p q r) h0;have hgl:=yf2 (v:=mv p q r) h0;have hge:=cg4 _ (by simp) hb (by rw[hf];unfold gc at hgl;unfold Sm at hw;omega)
  have hgv:lc8 [(mv p q r).x,(mv p q r).y,(mv p q r).z,mw p q r]=gc (mv p q r) (mw p q r):=by
   unfold lc8;rw[hge,hf];rfl
  have hgg:lc9 [(mv p q r).x,(mv p q r).y,(mv p q r).z,mw p q r]=true:=by
   unfold lc9;rw[hge];rfl
  rw[hgv,bt hgg];generalize hG:gc (mv p q r) (mw p q r)=G at *
  have hGW:W (0-G)=-G:=by unfold Sm at hw;rw[La6 (by omega) (by omega)];omega
  have hGn:(-G==0)=false:=by simp;omega
  have hGp:(G==0)=false:=by simp;omega
  by_cases h1:mw p q r<0
  ·rw[bt (decide_eq_true h1),if_pos h1];simp only[hGW];rw[bf hGn,bf hGn,bf hGn,bf hGn];simp only[Int.tdiv_neg,<- Int.neg_tdiv];have neg:∀{n x:Int},Sm n x->Sm n (-x):=λh=>⟨by have:=h.2;omega,by have:=h.1;omega⟩
   rw[sb5 ((da9 (neg v1) hgp).mono (by omega)),sb5 ((da9 (neg v2) hgp).mono (by omega)),sb5 ((da9 (neg v3) hgp).mono (by omega)),sb5 ((da9 (neg hw) hgp).mono (by omega))]
   rfl
  ·rw[bf (decide_eq_false h1),if_neg h1,bf hGp,bf hGp,bf hGp,bf hGp];rw[sb5 ((da9 v1 hgp).mono (by omega)),sb5 ((da9 v2 hgp).mono (by omega)),sb5 ((da9 v3 hgp).mono (by omega)),sb5 ((da9 hw hgp).mono (by omega))]
   rfl
theorem cg6{p q r:Pln}(hp:Bd p)(hq:Bd q)(hr:Bd r):Ab1 ⟨p,q,r⟩=mpt p q r:=by unfold Ab1;rw[Ye5 hp hq hr];rfl
theorem cg7{p q r:Pln}(hp:Bd p)(hq:Bd q)(hr:Bd r):Ab2 ⟨p,q,r⟩=true:=by unfold Ab2;rw[Ye5 hp hq hr];rfl
theorem Ce6{p q r:Pln}(hp:Bd p)(hq:Bd q)(hr:Bd r):Nb2 p q r=some (.tup [.agg (tX.row (mpt p q r).1),b (mpt p q r).2],[]):=by
 have hw:=yf0 hp hq hr;obtain⟨v1,v2,v3⟩:=yf1 hp hq hr;have e1:Ic2 p.n (va6 q.n r.n)=mw p q r:=by
  rw[Cd0];unfold Ic2;simp only[Bc7,md5,xf6];show W (dot p.n (A5 q.n r.n))=_;rw[show dot p.n (A5 q.n r.n)=mw p q r from rfl,sb5 (hw.mono (by omega))]
 have e2:Lb1 (Lb1 (ea5 (va6 q.n r.n) p.b) (ea5 (va6 r.n p.n) q.b)) (ea5 (va6 p.n q.n) r.b)=mv p q r:=by
  rw[Cd0,Cd0,Cd0];unfold Lb1 ea5;simp only[Bc7,md5,Re2];show (⟨W (mv p q r).x,W (mv p q r).y,W (mv p q r).z⟩:V3)=_;rw[sb5 (v1.mono (by omega)),sb5 (v2.mono (by omega)),sb5 (v3.mono (by omega))]
 have neg:∀{n x:Int},Sm n x->Sm n (-x):=λh=>⟨by have:=h.2;omega,by have:=h.1;omega⟩
 have e3:ea5 (mv p q r) (-1)=⟨-(mv p q r).x,-(mv p q r).y,-(mv p q r).z⟩:=by
  unfold ea5
  have:∀x:Int,x*-1=-x:=λx=>by omega
  simp only[this];rw[sb5 ((neg v1).mono (by omega)),sb5 ((neg v2).mono (by omega)),sb5 ((neg v3).mono (by omega))]
 have ab:∀{x:Int},Sm 300000000000000 x->(if W (0-x)>x then W (0-x) else x)=(x.natAbs:Int):=λ{x} h=>by
  have:W (0-x)=-x:=by rw[show 0-x=-x by omega];exact sb5 ((neg h).mono (by omega))
  rw[this]
  split<;>omega
 unfold Nb2;simp only[e1,e2,e3];rw[ab v1,ab v2,ab v3,ab (neg v1),ab (neg v2),ab (neg v3)];simp only[Int.natAbs_neg];unfold mpt;by_cases h0:mw p q r=0
 ·rw[bt (by rw[h0];rfl),if_pos h0]
  rfl
 ·have hz:(mw p q r==0)=false:=by simpa using h0
  rw[bf hz,if_neg h0];have hgp:=Ld1 (v:=mv p q r) h0;have hgl:=yf2 (v:=mv p q r) h0;have hw0:=hw;unfold Sm at hw0;have q1:((mv p q r).y.natAbs:Int)<=9223372036854775807:=by unfold Sm at v2;omega
  have k1:=Kd9 ((mv p q r).x.natAbs:Int) ((mv p q r).y.natAbs:Int) (by omega) (by omega) q1
  have k2:=Ld0 ((mv p q r).x.natAbs:Int) ((mv p q r).y.natAbs:Int) (by omega) (by omega) q1
  have c1:Int.gcd ((mv p q r).x.natAbs:Int) ((mv p q r).y.natAbs:Int)=Nat.gcd (mv p q r).x.natAbs (mv p q r).y.natAbs:=by simp[Int.gcd]
  have fin : ∀ w : Int, 0 < w → w.natAbs = (mw p q r).natAbs → ea6 ((mv p q r).z.natAbs : Int) w = (Nat.gcd (mv p q r).z.natAbs (mw p q r).natAbs : Nat) ∧ ea7 ((mv p q r).z.natAbs : Int) w = true ∧
    ea6 (Nat.gcd (mv p q r).x.natAbs (mv p q r).y.natAbs:Nat) (Nat.gcd (mv p q r).z.natAbs (mw p q r).natAbs:Nat)=gc (mv p q r) (mw p q r)/\ea7 (Nat.gcd (mv p q r).x.natAbs (mv p q r).y.natAbs:Nat) (Nat.gcd (mv p q r).z.natAbs (mw p q r).natAbs:Nat)=true:=by
   intro w hw1 hw2;have l1:Nat.gcd (mv p q r).z.natAbs (mw p q r).natAbs<=(mw p q r).natAbs:=Qian _ (by omega)
   refine⟨?_,Ld0 _ _ (by omega) (by omega) (by omega),?_,Ld0 _ _ (by omega) (by omega) (by omega)⟩
   ·rw[Kd9 _ _ (by omega) (by omega) (by omega)]
    have:Int.gcd ((mv p q r).z.natAbs:Int) w=Nat.gcd (mv p q r).z.natAbs (mw p q r).natAbs:=by unfold Int.gcd;rw[hw2];simp
    rw[this]
   ·rw[Kd9 _ _ (by omega) (by omega) (by omega)]
    rfl
  by_cases h1:mw p q r<0
  ·rw[bt (decide_eq_true h1),if_pos h1];have hWw:W (0-mw p q r)=-mw p q r:=by rw[La6 (by omega) (by omega)];omega
   rw[hWw];obtain⟨f1,f2,f3,f4⟩:=fin (-mw p q r) (by omega) (by omega)
   simp only[k1,k2,c1,f1,f2,f3,f4];generalize gc (mv p q r) (mw p q r)=G at *
   have hGp:(G==0)=false:=by simp;omega
   simp only[hGp];rw[sb5 ((da9 (neg v1) hgp).mono (by omega)),sb5 ((da9 (neg v2) hgp).mono (by omega)),sb5 ((da9 (neg v3) hgp).mono (by omega)),sb5 ((da9 (neg hw) hgp).mono (by omega))]
   rfl
  ·rw[bf (decide_eq_false h1),if_neg h1];obtain⟨f1,f2,f3,f4⟩:=fin (mw p q r) (by omega) rfl
   simp only[k1,k2,c1,f1,f2,f3,f4];generalize gc (mv p q r) (mw p q r)=G at *
   have hGp:(G==0)=false:=by simp;omega
   simp only[hGp];rw[sb5 ((da9 v1 hgp).mono (by omega)),sb5 ((da9 v2 hgp).mono (by omega)),sb5 ((da9 v3 hgp).mono (by omega)),sb5 ((da9 hw hgp).mono (by omega))]
   rfl
theorem Nf0{p q r:Pln}(hp:Bd p)(hq:Bd q)(hr:Bd r):Nb3 p q r=mpt p q r:=by unfold Nb3;rw[Ce6 hp hq hr];rfl
theorem Nf1{p q r:Pln}(hp:Bd p)(hq:Bd q)(hr:Bd r):Nb4 p q r=true:=by unfold Nb4;rw[Ce6 hp hq hr];rfl
def inn(l:PLq)(x:Pt):Bool:=l.all λp=>!decide (rm p x<0)
theorem Ye6(l:PLq)(x:Pt):inn l x=!l.any λp=>decide (rm p x<0):=by unfold inn;rw[List.not_any_eq_all_not]
theorem og3(p:Pln)(x:Pt):Eb2 ⟨p.n.x,p.n.y,p.n.z,p.b,x.px,x.py,x.pz,x.pw⟩=⟨decide (rm p x<0)⟩:=by
 show Na5.mk (decide (Ja4 p x<0))=_;rw[oe6]
theorem Nf2(l:PLq)(x:Pt)(hl:l.length<=1000000000):ja7 ⟨l,x.px,x.py,x.pz,x.pw⟩=⟨1,if l.any (λp=>decide (rm p x<0)) then ((l.findIdx (λp=>decide (rm p x<0)):Nat):Int) else -1⟩:=by
 have h:=yb7 (step:=P8 ⟨l,(l.length:Int),x.px,x.py,x.pz,x.pw⟩) (mk:=λj=>(⟨(j:Int)⟩:w8)) (c:=λp=>decide (rm p x<0)) (u:=1) (fin:=2) tP l hl
  (λj hj=>by
   simp only[P8,N7,Int.toNat_natCast,og3,u7 hj (by omega)]
   rw[bt (Bc8 hj),bt (i9 hj)])
  (by simp only[P8,N7];rw[bf (nc0 (Qih _))]) 0 (Qii _)
 rw[Qic] at h;unfold ja7 O4;simp only[j8,l8];rw[show (⟨0⟩:w8)=⟨((0:Nat):Int)⟩ from rfl,h]
 split
 ·simp only[Qid];rfl
 ·rfl
theorem de0(l:PLq)(x:Pt)(hl:l.length<=1000000000):eb1 l x=some (b (inn l x),[]):=by
 unfold eb1 qa6 J6;simp only[j8,l8,Nf2 l x hl,Ye6];split
 ·rename_i h;rw[h,show decide (((l.findIdx (λp=>decide (rm p x<0)):Nat):Int)>=0)=true from decide_eq_true (by omega)];rfl
 ·rename_i h;rw[Qiap] at h;rw[h];rfl
theorem yf3(l:PLq)(x:Pt)(hl:l.length<=1000000000):Qa8 l x=inn l x:=by unfold Qa8;rw[de0 l x hl];rfl
theorem yf4(l:PLq)(x:Pt)(hl:l.length<=1000000000):Qa9 l x=true:=by unfold Qa9;rw[de0 l x hl];rfl
theorem Wf4(l:PLq)(x:Pt)(hl:l.length<=1000000000):zc6 l x=some (b (inn l x),[]):=by
 have h:=nc2 (step:=zb6 ⟨l,x.px,x.py,x.pz,x.pw⟩) (mk:=λj=>(⟨(j:Int)⟩:Ka5)) (c:=λp=>decide (rm p x<0)) (u:=1) (fin:=2) tP l hl
  (λj hj=>by
   simp only[zb6,nb5,Int.toNat_natCast,Ye4,u7 hj (by omega)]
   rw[bt (Bc8 hj),bt (i9 hj)])
  (by simp only[zb6,nb5];rw[bf (nc0 (Qih _))]) 0 (Qii _)
 rw[Qic] at h;unfold zc6;simp only[j8,l8,Ye6];rw[show (⟨0⟩:Ka5)=⟨((0:Nat):Int)⟩ from rfl,h]
 split
 ·rename_i h;rw[h];rfl
 ·rename_i h;rw[Qiap] at h;rw[h];rfl
theorem zg9(l:PLq)(x:Pt)(hl:l.length<=1000000000):ec2 l x=inn l x:=by unfold ec2;rw[Wf4 l x hl];rfl
theorem Ag0(l:PLq)(x:Pt)(hl:l.length<=1000000000):ec3 l x=true:=by unfold ec3;rw[Wf4 l x hl];rfl
def eqX(x q:Pt):Bool:=q.px==x.px&&(q.py==x.py&&(q.pz==x.pz&&(q.pw==x.pw&&true)))
theorem Ye7(x q:Pt):eqX x q=true↔q=x:=by
 unfold eqX;simp only[Qiq,Qin,beq_iff_eq];exact⟨λ⟨h1,h2,h3,h4⟩=>by cases q;cases x;simp_all,λh=>by subst h;exact⟨rfl,rfl,rfl,rfl⟩⟩
def Bc9(l:List Pt)(x:Pt):Bool:=l.any (eqX x)
theorem yf5(l:List Pt)(x:Pt):Bc9 l x=true↔x∈l:=by
 unfold Bc9;rw[Qiaq];exact⟨λ⟨q,h,e⟩=>(Ye7 x q).1 e ▸ h,λh=>⟨x,h,(Ye7 x x).2 rfl⟩⟩
theorem Ce7(l:List Pt)(x:Pt)(hl:l.length<=1000000000):zb7 l x=some (b (Bc9 l x),[]):=by
 have h:=nc2 (step:=Ua5 ⟨l,x.px,x.py,x.pz,x.pw⟩) (mk:=λj=>(⟨(j:Int)⟩:na3)) (c:=eqX x) (u:=1) (fin:=2) tX l hl
  (λj hj=>by
   simp only[Ua5,Na3,Int.toNat_natCast,u7 hj (by omega)]
   rw[bt (Bc8 hj),bt (i9 hj)]
   rfl)
  (by simp only[Ua5,Na3];rw[bf (nc0 (Qih _))]) 0 (Qii _)
 rw[Qic] at h;unfold zb7;simp only[j8,l8];rw[show (⟨0⟩:na3)=⟨((0:Nat):Int)⟩ from rfl,h]
 unfold Bc9;split
 ·rename_i h;rw[h];rfl
 ·rename_i h;rw[Qiap] at h;rw[h];rfl
theorem Nf3(l:List Pt)(x:Pt)(hl:l.length<=1000000000):jb6 l x=Bc9 l x:=by unfold jb6;rw[Ce7 l x hl];rfl
theorem Nf4(l:List Pt)(x:Pt)(hl:l.length<=1000000000):jb7 l x=true:=by unfold jb7;rw[Ce7 l x hl];rfl
def smb(n x:Int):Bool:=!decide (x < -n)&&!decide (x>n)
theorem oe7(n x:Int):smb n x=true↔Sm n x:=by unfold smb Sm;simp only[Qin,Qiaj,decide_eq_false_iff_not];omega
theorem Ld2(n:Int)(l:List Int)(hn:0<=n/\n<=1000000000)(hl:l.length<=1000000000):Va4 n l=some (b (l.all (smb n)),[]):=by
 have hW:W (0-n)=-n:=by rw[La6 (by omega) (by omega)];omega
 have h:=nc2 (step:=Ba0 ⟨n,l,(l.length:Int)⟩) (mk:=λj=>(⟨(j:Int)⟩:V8)) (c:=λx=>!smb n x) (u:=1) (fin:=2) tI l hl
  (λj hj=>by
   simp only[Ba0,wa1,Int.toNat_natCast,u7 hj (by omega),hW]
   rw[bt (Bc8 hj),bt (i9 hj)];unfold smb;cases decide (gL tI l j < -n)<;>cases decide (gL tI l j>n)<;>rfl)
  (by simp only[Ba0,wa1];rw[bf (nc0 (Qih _))]) 0 (Qii _)
 rw[Qic] at h;unfold Va4;simp only[j8,l8];rw[show (⟨0⟩:V8)=⟨((0:Nat):Int)⟩ from rfl,h]
 have e:(l.any λx=>!smb n x)=!l.all (smb n):=by rw[Qio]
 rw[e];cases l.all (smb n)<;>rfl
theorem de1(n:Int)(l:List Int)(hn:0<=n/\n<=1000000000)(hl:l.length<=1000000000):Va5 n l=l.all (smb n):=by unfold Va5;rw[Ld2 n l hn hl];rfl
theorem de2(n:Int)(l:List Int)(hn:0<=n/\n<=1000000000)(hl:l.length<=1000000000):Va6 n l=true:=by unfold Va6;rw[Ld2 n l hn hl];rfl
theorem Ce8{n:Int}(h:Sm 1000000000000000000 n):ab2 n=(n.natAbs:Int):=by
 unfold ab2;obtain⟨h1,h2⟩:=h;rw[La6 (by omega) (by omega)]
 split<;>omega
theorem cd8{n:Int}(h:Sm 1000000000000000000 n):Ua6 n=some (i (n.natAbs:Int),[]):=by
 unfold Ua6;obtain⟨h1,h2⟩:=h;rw[La6 (by omega) (by omega)]
 by_cases h:n<0
 ·rw[bt (decide_eq_true h)];congr 3;omega
 ·rw[bf (decide_eq_false h)];congr 3;omega
theorem Cc0{n:Int}(h:Sm 1000000000000000000 n):Ga4 n=(n.natAbs:Int):=by unfold Ga4;rw[cd8 h];rfl
theorem Cc1{n:Int}(h:Sm 1000000000000000000 n):Ga5 n=true:=by unfold Ga5;rw[cd8 h];rfl
def g3(v:V3):Int:=(Nat.gcd (Nat.gcd v.x.natAbs v.y.natAbs) v.z.natAbs:Nat)
theorem yf6(g n:Nat):eu (g:Int) (n:Int)=(Nat.gcd g n:Nat):=by rw[xf9 (by omega) (by omega)];rfl
theorem Vd5(P:pa5)(g n:Nat)(hn:n<=1000000000000000000):lp (ma4 P) ⟨(g:Int),(n:Int)⟩=(1,⟨(Nat.gcd g n:Nat),0⟩):=by
 have:=td8 (step:=ma4 P) (mk:=λg n=>(⟨g,n⟩:Y4)) (λg n h=>by
  have h0:n≠0:=by omega
  simp[ma4,ra9,Mb6,h,h0]) (λg=>by simp[ma4,ra9,Mb6]) (g:Int) (n:Int) (by omega) (by omega) (by omega)
 rw[this,yf6]
theorem Re4(l:List Int)(hl:l.length<=1000000000)(hb:∀x∈l,Sm 1000000000000000000 x):Na9 l=some (i (l.foldl (λg x=>Nat.gcd g x.natAbs) 0:Nat),[]):=by
 have h := Bd7 (step := wa2 ⟨(l.length : Int)⟩) (mk := fun j (a : Nat) => (⟨(a : Int), l, (j : Int)⟩ : S5)) (f := fun g x => Nat.gcd g x.natAbs) (fin := 2) tI l (fun _ _ => True) hl (fun j a hj _ => ⟨by
   have hm:=hb _ (X7 tI hj);have hne:(gL tI l j==(-9223372036854775808:Int))=false:=by
    have:=hm.1
    rw[beq_eq_false_iff_ne];omega
   have hs:(gL tI l j).natAbs<=1000000000000000000:=by obtain⟨h1,h2⟩:=hm;omega
   simp only[wa2,sa0,Int.toNat_natCast,j8,l8,Ce8 hm,Vd5 _ _ _ hs,u7 hj (by omega)]
   rw[bt (Bc8 hj),bt (i9 hj),bf hne]
   rfl,trivial⟩) (λa _=>by simp only[wa2,sa0];rw[bf (nc0 (Qih _))]) 0 (Qii _) 0 trivial
 have h:=h.1;rw[Qic] at h;unfold Na9;simp only[j8,l8];rw[show (⟨0,l,0⟩:S5)=⟨((0:Nat):Int),l,((0:Nat):Int)⟩ from rfl,h]
 rfl
def okp(p:Pln):Bool:=[p.n.x,p.n.y,p.n.z].all (smb 4608)&&(g3 p.n==1&&[p.b].all (smb 2097152))
theorem cg8(p:Pln):Bd p↔[p.n.x,p.n.y,p.n.z].all (smb 4608)=true/\[p.b].all (smb 2097152)=true:=by
 simp only[List.all_cons,List.all_nil,Qiq,Qin,oe7,Sm];exact⟨λh=>⟨⟨⟨h.x1,h.x2⟩,⟨h.y1,h.y2⟩,h.z1,h.z2⟩,h.b1,h.b2⟩,λ⟨⟨⟨a,b⟩,⟨c,d⟩,e,f⟩,g,h⟩=>⟨a,b,c,d,e,f,g,h⟩⟩
theorem md6{p:Pln}(h:okp p=true):Bd p:=by
 unfold okp at h;rw[Qin,Qin] at h;exact (cg8 p).2 ⟨h.1,h.2.2⟩
theorem sm3{v:V3}(h:[v.x,v.y,v.z].all (smb 4608)=true):Sm 4608 v.x/\Sm 4608 v.y/\Sm 4608 v.z:=by
 simpa only[List.all_cons,List.all_nil,Qiq,Qin,oe7] using h
theorem Ce9(p:Pln):eb3 p=some (b (okp p),[]):=by
 unfold eb3 okp;have l3:[p.n.x,p.n.y,p.n.z].length<=1000000000:=by simp
 have l1:[p.b].length<=1000000000:=by simp
 simp only[de1 4608 _ (by omega) l3,de2 4608 _ (by omega) l3,de1 2097152 _ (by omega) l1,de2 2097152 _ (by omega) l1]
 cases hw:[p.n.x,p.n.y,p.n.z].all (smb 4608) with
 |false=>rfl
 |true =>
  obtain⟨h1,h2,h3⟩:=sm3 hw;have hd:=Re4 [p.n.x,p.n.y,p.n.z] l3 (by
   intro x hx;simp only[Qiav,Qiao,or_false] at hx
   rcases hx with rfl|rfl|rfl
   ·exact h1.mono (by omega)
   ·exact h2.mono (by omega)
   ·exact h3.mono (by omega))
  have hg:([p.n.x,p.n.y,p.n.z].foldl (λg x=>Nat.gcd g x.natAbs) 0:Nat)=Nat.gcd (Nat.gcd p.n.x.natAbs p.n.y.natAbs) p.n.z.natAbs:=by
   simp only[List.foldl_cons,List.foldl_nil,Qiai]
  have hp:gb4 [p.n.x,p.n.y,p.n.z]=g3 p.n:=by unfold gb4;rw[hd,hg];rfl
  have hgd:gb5 [p.n.x,p.n.y,p.n.z]=true:=by unfold gb5;rw[hd];rfl
  rw[hp,hgd];cases g3 p.n==1<;>rfl
theorem Nf5(p:Pln):yb1 p=okp p:=by unfold yb1;rw[Ce9 p];rfl
theorem Nf6(p:Pln):yb2 p=true:=by unfold yb2;rw[Ce9 p];rfl
theorem md7(P:Aa5)(g n:Nat)(hn:n<=1000000000000000000):lp (va7 P) ⟨(g:Int),(n:Int)⟩=(1,⟨(Nat.gcd g n:Nat),0⟩):=by
 have:=td8 (step:=va7 P) (mk:=λg n=>(⟨g,n⟩:fa4)) (λg n h=>by
  have h0:n≠0:=by omega
  simp[va7,Ua7,Mb6,h,h0]) (λg=>by simp[va7,Ua7,Mb6]) (g:Int) (n:Int) (by omega) (by omega) (by omega)
 rw[this,yf6]
theorem Ye8{v:V3}(h1:Sm 1000000000000000000 v.x)(h2:Sm 1000000000000000000 v.y)(h3:Sm 1000000000000000000 v.z) :
  Nb6 v=if g3 v=0 then some (.tup [.agg (tV.row ⟨0,0,0⟩),i 0],[]) else some (.tup [.agg (tV.row ⟨W (Int.tdiv v.x (g3 v)),W (Int.tdiv v.y (g3 v)),W (Int.tdiv v.z (g3 v))⟩),i (g3 v)],[]):=by
 have ne:∀{x:Int},Sm 1000000000000000000 x->(x==(-9223372036854775808:Int))=false:=λ{x} h=>by
  have:=h.1
  rw[beq_eq_false_iff_ne];omega
 have bd:∀{x:Int},Sm 1000000000000000000 x->x.natAbs<=1000000000000000000:=λ{x} h=>by obtain⟨h1,h2⟩:=h;omega
 have l1:=md7 ⟨0,v.x,v.y,v.z,v.x,v.y,v.z⟩ 0 v.x.natAbs (bd h1);rw[Qiai] at l1;have l2:=md7 ⟨1,v.x,v.y,v.z,v.x,v.y,v.z⟩ v.x.natAbs v.y.natAbs (bd h2);have l3:=md7 ⟨2,v.x,v.y,v.z,v.x,v.y,v.z⟩ (Nat.gcd v.x.natAbs v.y.natAbs) v.z.natAbs (bd h3);unfold Nb6;simp only[Cc0 h1,Cc0 h2,Cc0 h3,Cc1 h1,Cc1 h2,Cc1 h3];rw[show (⟨0,(v.x.natAbs:Int)⟩:fa4)=⟨((0:Nat):Int),(v.x.natAbs:Int)⟩ from rfl]
 simp only[l1,l2,l3,ne h1,ne h2,ne h3];rw[show ((Nat.gcd (Nat.gcd v.x.natAbs v.y.natAbs) v.z.natAbs:Nat):Int)=g3 v from rfl]
 by_cases h:g3 v=0
 ·rw[if_pos h,show (g3 v==0)=true from by rw[h];rfl];rfl
 ·rw[if_neg h,show (g3 v==0)=false from by rw[beq_eq_false_iff_ne];exact h];rfl
theorem Re5{v:V3}(h1:Sm 1000000000000000000 v.x)(h2:Sm 1000000000000000000 v.y)(h3:Sm 1000000000000000000 v.z):(lc0 v).2=g3 v:=by
 unfold lc0;rw[Ye8 h1 h2 h3];split
 ·rename_i h;rw[h];rfl
 ·rfl
theorem cg9{v:V3}(h1:Sm 1000000000000000000 v.x)(h2:Sm 1000000000000000000 v.y)(h3:Sm 1000000000000000000 v.z):lc1 v=true:=by
 unfold lc1;rw[Ye8 h1 h2 h3]
 split<;>rfl
theorem de3(p:Pln):zb8 p=some (b (okp p),[]):=by
 unfold zb8 okp;cases hw:[p.n.x,p.n.y,p.n.z].all (smb 4608) with
 |false =>
  simp only[List.all_cons,List.all_nil,Qiq,smb] at hw;cases h1:decide (p.n.x < -4608)<;>cases h2:decide (p.n.x>4608)<;>cases h3:decide (p.n.y < -4608)<;>cases h4:decide (p.n.y>4608)<;>cases h5:decide (p.n.z < -4608)<;>cases h6:decide (p.n.z>4608)<;>simp only[h1,h2,h3,h4,h5,h6] at hw ⊢<;>first | rfl | cases hw
 |true =>
  obtain⟨h1,h2,h3⟩:=sm3 hw;rw[bf (decide_eq_false (by have:=h1.1;omega)),bf (decide_eq_false (by have:=h1.2;omega)),bf (decide_eq_false (by have:=h2.1;omega)),bf (decide_eq_false (by have:=h2.2;omega)),bf (decide_eq_false (by have:=h3.1;omega)),bf (decide_eq_false (by have:=h3.2;omega))]
  have k1:=h1.mono (m:=1000000000000000000) (by omega)
  have k2:=h2.mono (m:=1000000000000000000) (by omega)
  have k3:=h3.mono (m:=1000000000000000000) (by omega)
  rw[bt (cg9 k1 k2 k3),Re5 k1 k2 k3];cases g3 p.n==1 with
  |false=>rfl
  |true =>
   simp only[List.all_cons,List.all_nil,Qiq,smb,Bool.true_and];rw[g9];by_cases ha:p.b < -2097152
   ·rw[bf (decide_eq_false (by omega)),show decide (p.b < -2097152)=true from decide_eq_true ha];rfl
   ·rw[bt (decide_eq_true (by omega)),show decide (p.b < -2097152)=false from decide_eq_false ha]
    congr 3;by_cases hc:p.b<=2097152
    ·rw[decide_eq_true hc,decide_eq_false (by omega)];rfl
    ·rw[decide_eq_false hc,decide_eq_true (by omega)];rfl
theorem yf7(p:Pln):Wb1 p=okp p:=by unfold Wb1;rw[de3 p];rfl
theorem yf8(p:Pln):Wb2 p=true:=by unfold Wb2;rw[de3 p];rfl
def chk(l:PLq):Int:=if (l.length:Int)>48 then 2 else if l.all okp then 0 else 12
theorem De0(l:PLq)(hl:l.length<=1000000000):ob6 l=some (i (chk l),[]):=by
 have hk1:∀p,Va7 p=some (b (!okp p),[]):=λp=>by unfold Va7;rw[Nf6,Nf5];rfl
 have hp1:∀p,ob4 p=!okp p:=λp=>by unfold ob4;rw[hk1];rfl
 have hg1:∀p,ob5 p=true:=λp=>by unfold ob5;rw[hk1];rfl
 have h:=yb7 (step:=P9 ⟨l,(l.length:Int)⟩) (mk:=λj=>(⟨(j:Int)⟩:w9)) (c:=λp=>!okp p) (u:=1) (fin:=2) tP l hl
  (λj hj=>by
   simp only[P9,N8,Int.toNat_natCast,hp1,hg1,u7 hj (by omega)]
   rw[bt (Bc8 hj),bt (i9 hj),g9])
  (by simp only[P9,N8];rw[bf (nc0 (Qih _))]) 0 (Qii _)
 rw[Qic] at h;have e:(l.any λx=>!okp x)=!l.all okp:=by rw[Qio]
 unfold ob6 qa7 J7 ya8 O5 chk;simp only[j8,l8];rw[show (⟨0⟩:w9)=⟨((0:Nat):Int)⟩ from rfl,h,e]
 by_cases hn:(l.length:Int)>48
 ·rw[bt (decide_eq_true hn),if_pos hn]
 ·rw[bf (decide_eq_false hn),if_neg hn];cases l.all okp with
  |true=>rfl
  |false =>
   simp only[Qiad,if_true,Qid];show sl true (sl (Nat.beq 1 1) (sl (decide (((l.findIdx λp=>!okp p:Nat):Int)>=0)) _ _) _) _=_
   rw[show decide (((l.findIdx λp=>!okp p:Nat):Int)>=0)=true from decide_eq_true (by omega)]
   rfl
theorem Jc1(l:PLq)(hl:l.length<=1000000000):fa5 l=chk l:=by unfold fa5;rw[De0 l hl];rfl
theorem Cd1(l:PLq)(hl:l.length<=1000000000):Ka6 l=true:=by unfold Ka6;rw[De0 l hl];rfl
theorem de4(l:PLq)(hl:l.length<=1000000000):zb9 l=some (i (chk l),[]):=by
 have h:=nc2 (step:=Ua8 ⟨l⟩) (mk:=λj=>(⟨(j:Int)⟩:na4)) (c:=λp=>!okp p) (u:=1) (fin:=2) tP l hl
  (λj hj=>by
   simp only[Ua8,Na4,Int.toNat_natCast,yf7,yf8,u7 hj (by omega)]
   rw[bt (Bc8 hj),bt (i9 hj),g9])
  (by simp only[Ua8,Na4];rw[bf (nc0 (Qih _))]) 0 (Qii _)
 rw[Qic] at h;have e:(l.any λx=>!okp x)=!l.all okp:=by rw[Qio]
 unfold zb9 chk;simp only[j8,l8];rw[show (⟨0⟩:na4)=⟨((0:Nat):Int)⟩ from rfl,h,e]
 by_cases hn:(l.length:Int)>48
 ·rw[bt (decide_eq_true hn),if_pos hn]
 ·rw[bf (decide_eq_false hn),if_neg hn];cases l.all okp<;>rfl
theorem Ld3(l:PLq)(hl:l.length<=1000000000):jb8 l=chk l:=by unfold jb8;rw[de4 l hl];rfl
theorem Ld4(l:PLq)(hl:l.length<=1000000000):jb9 l=true:=by unfold jb9;rw[de4 l hl];rfl
theorem Pb4{l:PLq}:chk l=0↔l.length<=48/\∀p∈l,okp p=true:=by
 unfold chk;by_cases hn:(l.length:Int)>48
 ·rw[if_pos hn];exact⟨λh=>absurd h (by decide),λh=>by omega⟩
 ·rw[if_neg hn];cases h:l.all okp with
  |true=>exact⟨λ_=>⟨by omega,Qiar.1 h⟩,λ_=>rfl⟩
  |false=>exact⟨λh=>absurd h (by decide),λh'=>by rw[Qiar.2 h'.2] at h;cases h⟩
theorem btD{p:Prop}{inst:Decidable p}(h:p){α:Type}(t e:α):sl (@decide p inst) t e=t:=bt (decide_eq_true h) t e
theorem bfD{p:Prop}{inst:Decidable p}(h:¬ p){α:Type}(t e:α):sl (@decide p inst) t e=e:=bf (decide_eq_false h) t e
theorem o6{j n:Nat}(h:j<n):(j:Int)<(n:Int):=Qiam.2 h
theorem B0{j n:Nat}(h:¬ j<n):¬ (j:Int)<(n:Int):=λh'=>h (Qiam.1 h')
theorem Pa0{σ τ α:Type}{step:σ->Stp σ}{mk:Nat->τ->σ}{f:α->List α->τ->τ}{g:List α->τ->τ}{fin:τ->Nat}(l:List α)(I:Nat->τ->Prop)(hl:l.length<=1000000000)
  (g0:∀a,g [] a=a) (g1:∀x r a,g (x::r) a=g r (f x r a))
  (h:∀j a (hj:j<l.length),I j a->step (mk j a)=.next (mk (j+1) (f l[j] (l.drop (j+1)) a))/\I (j+1) (f l[j] (l.drop (j+1)) a))
  (hf:∀j a,l.length<=j->I j a->step (mk j a)=.exit (fin a)) (j0:Nat) (a:τ) (hi:I j0 a) :
  lp step (mk j0 a)=(fin (g (l.drop j0) a),mk (max j0 l.length) (g (l.drop j0) a))/\I (max j0 l.length) (g (l.drop j0) a):=by
 have key:=nc1 (step:=step) (I:=λm s=>∃j b,m=l.length-j/\max j l.length=max j0 l.length/\s=mk j b/\I j b/\g (l.drop j) b=g (l.drop j0) a)
  (Q:=λu s=>u=fin (g (l.drop j0) a)/\s=mk (max j0 l.length) (g (l.drop j0) a)/\I (max j0 l.length) (g (l.drop j0) a)) (λm s ⟨j,b,hm,hj,hs,hb,he⟩=>by
   subst hs;by_cases hlt:j<l.length
   ·obtain⟨h1,h2⟩:=h j b hlt hb;refine .inr ⟨_,l.length-(j+1),by omega,h1,j+1,_,rfl,by omega,rfl,h2,?_⟩
    rw[<- he,Qif hlt,g1]
   ·have hd:l.drop j=[]:=Qis (by omega)
    rw[hd,g0] at he;have hj':j=max j0 l.length:=by omega
    subst he;rw[<- hj'];exact .inl ⟨_,hf j _ (by omega) hb,rfl,rfl,hb⟩) (l.length-j0) (mk j0 a) (by omega) ⟨j0,a,rfl,rfl,rfl,hi,rfl⟩
 exact⟨Prod.ext key.1 key.2.1,key.2.2⟩
def Wa7(r:PLq)(p q:Pln)(out:List Pt)(s:Pln):List Pt :=
 if (mpt p q s).2&&(!Bc9 out (mpt p q s).1&&inn r (mpt p q s).1) then out++[(mpt p q s).1] else out
def Fb7(r:PLq)(p q:Pln)(l:PLq)(out:List Pt):List Pt:=l.foldl (Wa7 r p q) out
def pb7(r:PLq)(p:Pln):PLq->List Pt->List Pt
 |[],out=>out
 |q::l,out=>pb7 r p l (Fb7 r p q l out)
def cd9(r:PLq):PLq->List Pt->List Pt
 |[],out=>out
 |p::l,out=>cd9 r l (pb7 r p l out)
def cor(r:PLq):List Pt:=cd9 r r []
def Bds(r:PLq):Prop:=∀p∈r,Bd p
theorem md8(r:PLq)(p q:Pln)(out:List Pt)(s:Pln):(Wa7 r p q out s).length<=out.length+1:=by
 unfold Wa7;split
 ·simp
 ·omega
theorem dd0(r:PLq)(p q:Pln):∀(l:PLq) (out:List Pt),(Fb7 r p q l out).length<=out.length+l.length
 |[],out=>Qil _
 |s::l,out=>by
  have h1:=md8 r p q out s;have h2:=dd0 r p q l (Wa7 r p q out s);show (Fb7 r p q l (Wa7 r p q out s)).length<=_;simp only[List.length_cons];omega
theorem Ld5(r:PLq)(p:Pln):∀(l:PLq) (out:List Pt),l.length<=200->(pb7 r p l out).length<=out.length+200*l.length
 |[],out,_=>by simp[pb7]
 |q::l,out,h=>by
  simp only[List.length_cons] at h ⊢;have h1:=dd0 r p q l out;have h2:=Ld5 r p l (Fb7 r p q l out) (by omega)
  show (pb7 r p l (Fb7 r p q l out)).length<=_;omega
theorem De1(r:PLq):∀(l:PLq) (out:List Pt),l.length<=200->(cd9 r l out).length<=out.length+40000*l.length
 |[],out,_=>by simp[cd9]
 |p::l,out,h=>by
  simp only[List.length_cons] at h ⊢;have h1:=Ld5 r p l out (by omega)
  have h2:=De1 r l (pb7 r p l out) (by omega)
  show (cd9 r l (pb7 r p l out)).length<=_;omega
theorem oe8(r:PLq)(_:Bds r)(hr:r.length<=200):(cor r).length<=8000000:=by
 have:=De1 r r [] hr
 rw[List.length_nil] at this;show (cd9 r r []).length<=_;omega
def ph(out:List Pt):Nat:=match out with
 |[]=>0
 |_::_=>1
theorem De2(x:Pt):Bc9 [] x=false:=rfl
theorem Cd2{α:Type}(t:Ty α)(l:List α)(n k:Nat):gL t (l.drop n) k=gL t l (n+k):=by simp[gL,Qig,List.getElem?_drop]
theorem De3{n:Nat}{l:List Pt}(hn:n=l.length)(h:l.length<=1000000000):(Nat.beq n (len (bL tX l))&&Nat.ble ((n+1)*32) room)=true:=by
 subst hn;rw[M2,Qiu,Bool.true_and];exact ab4 (by omega)
theorem Ye9(l:List Pt)(x:Pt):app (bL tX l) [[i x.px,i x.py,i x.pz,i x.pw]]=bL tX (l++[x]):=Ka2 tX l [x]
@[reducible] noncomputable def Kc8(k:Nat)(out:List Pt):C9:=⟨ph out,(k:Int),out.length,bL tX out⟩
theorem dg0(l:List Pt):slR tX (bL tX l) 0 l.length=l:=jc7 tX l
theorem Nf7(r:PLq)(hb:Bds r)(hr:r.length<=200)(a c k:Nat)(ha:a<r.length)(hc:c<r.length)(out:List Pt)(ho:out.length<=1000000000)(hk:k<r.length) :
  ca3 ⟨r,a,c⟩ (Kc8 k out)=.next (Kc8 (k+1) (Wa7 r r[a] r[c] out r[k])):=by
 have hin:∀x,ec2 r x=inn r x:=λx=>zg9 r x (by omega)
 have hig:∀x,ec3 r x=true:=λx=>Ag0 r x (by omega)
 have hth:∀x,jb6 out x=Bc9 out x:=λx=>Nf3 out x ho
 have htg:∀x,jb7 out x=true:=λx=>Nf4 out x ho
 have hme:=Nf0 (hb _ (Qik ha)) (hb _ (Qik hc)) (hb _ (Qik hk));have hmg:=Nf1 (hb _ (Qik ha)) (hb _ (Qik hc)) (hb _ (Qik hk));unfold ca3;cases out with
 |nil =>
  show ea8 Stp.next Stp.exit Stp.fail _ (Kc8 k [])=_;simp only[ea8,Kc8,Int.toNat_natCast,j8,w7,fb0 tP ha,fb0 tP hc,fb0 tP hk,hme,hmg,hin,hig,hth,htg,u7 hk (by omega)]
  rw[btD (o6 hk),bt (i9 ha),bt (i9 hc),bt (i9 hk),g9];unfold Wa7;rw[De2];cases (mpt r[a] r[c] r[k]).2 with
  |false=>rfl
  |true =>
   cases inn r (mpt r[a] r[c] r[k]).1 with
   |false=>rfl
   |true=>rfl
 |cons o os =>
  show ea9 Stp.next Stp.exit Stp.fail _ (Kc8 k (o::os))=_;simp only[ea9,Kc8,Int.toNat_natCast,j8,w7,fb0 tP ha,fb0 tP hc,fb0 tP hk,hme,hmg,hin,hig,dg0,jc8,hth,htg,u7 hk (by omega)]
  rw[btD (o6 hk),bt (i9 ha),bt (i9 hc),bt (i9 hk),g9,De3 rfl ho,Ye9];unfold Wa7;cases (mpt r[a] r[c] r[k]).2 with
  |false=>rfl
  |true =>
   cases inn r (mpt r[a] r[c] r[k]).1 with
   |false=>cases Bc9 (o::os) (mpt r[a] r[c] r[k]).1<;>rfl
   |true =>
    cases Bc9 (o::os) (mpt r[a] r[c] r[k]).1 with
    |true=>rfl
    |false =>
     show Stp.next (⟨1,((k+1:Nat):Int),(o::os).length+1,bL tX (o::os++[(mpt r[a] r[c] r[k]).1])⟩:C9)=_;simp[ph]
theorem dg1(r:PLq)(a c k:Nat)(out:List Pt)(hk:r.length<=k):ca3 ⟨r,a,c⟩ (Kc8 k out)=.exit (ph out+1):=by
 unfold ca3;have this:¬ ((k:Int)<(r.length:Int)):=by omega
 cases out with
 |nil =>
  show ea8 Stp.next Stp.exit Stp.fail _ (Kc8 k [])=_;simp only[ea8,Kc8];rw[bfD this];rfl
 |cons o os =>
  show ea9 Stp.next Stp.exit Stp.fail _ (Kc8 k (o::os))=_;simp only[ea9,Kc8];rw[bfD this];rfl
theorem Nf8(r:PLq)(hb:Bds r)(hr:r.length<=200)(a c:Nat)(ha:a<r.length)(hc:c<r.length)(k:Nat)(out:List Pt)(ho:out.length<=100000000) :
  ∃m,lp (ca3 ⟨r,a,c⟩) (Kc8 k out)=(ph (Fb7 r r[a] r[c] (r.drop k) out)+1,Kc8 m (Fb7 r r[a] r[c] (r.drop k) out)) :=
 ⟨_,(Pa0 (mk:=Kc8) (f:=λs _ out=>Wa7 r r[a] r[c] out s) (g:=λl out=>Fb7 r r[a] r[c] l out) (fin:=λout=>ph out+1) r (λj o=>o.length+k<=out.length+j) (by omega)
  (λ_=>rfl) (λ_ _ _=>rfl) (λj o hj hi=>⟨Nf7 r hb hr a c j ha hc o (by omega) hj,by have:=md8 r r[a] r[c] o r[j];show (Wa7 r r[a] r[c] o r[j]).length+k<=out.length+(j+1);omega⟩)
  (λj o hj _=>dg1 r a c j o hj) k out (by omega)).1⟩
@[reducible] noncomputable def Kc9(r:PLq)(j:Nat)(out:List Pt):E3:=⟨ph out,r,(j:Int),out.length,bL tX out⟩
theorem Nf9(r:PLq)(hb:Bds r)(hr:r.length<=200)(a j:Nat)(ha:a<r.length)(out:List Pt)(ho:out.length<=100000000)(hj:j<r.length) :
  V6 ⟨a⟩ (Kc9 r j out)=.next (Kc9 r (j+1) (Fb7 r r[a] r[j] (r.drop (j+1)) out)):=by
 obtain⟨m,hm⟩:=Nf8 r hb hr a j ha hj (j+1) out ho;unfold V6;generalize Fb7 r r[a] r[j] (r.drop (j+1)) out=res at *
 cases out with
 |nil =>
  show fa0 Stp.next Stp.exit Stp.fail _ (Kc9 r j [])=_;simp only[fa0,Kc9,j8,l8,u7 hj (by omega)]
  rw[show (⟨0,((j+1:Nat):Int),0,[]⟩:C9)=Kc8 (j+1) [] from rfl,hm,btD (o6 hj)]
  cases res<;>rfl
 |cons o os =>
  show fa1 Stp.next Stp.exit Stp.fail _ (Kc9 r j (o::os))=_;simp only[fa1,Kc9,j8,l8,u7 hj (by omega)]
  rw[show (⟨1,((j+1:Nat):Int),(o::os).length,bL tX (o::os)⟩:C9)=Kc8 (j+1) (o::os) from rfl,hm,btD (o6 hj)]
  cases res<;>rfl
theorem dg2(r:PLq)(a j:Nat)(out:List Pt)(hj:r.length<=j):V6 ⟨a⟩ (Kc9 r j out)=.exit (ph out+1):=by
 unfold V6;have this:¬ ((j:Int)<(r.length:Int)):=by omega
 cases out with
 |nil =>
  show fa0 Stp.next Stp.exit Stp.fail _ (Kc9 r j [])=_;simp only[fa0,Kc9];rw[bfD this];rfl
 |cons o os =>
  show fa1 Stp.next Stp.exit Stp.fail _ (Kc9 r j (o::os))=_;simp only[fa1,Kc9];rw[bfD this];rfl
theorem Of0(r:PLq)(hb:Bds r)(hr:r.length<=200)(a:Nat)(ha:a<r.length)(j:Nat)(out:List Pt)(ho:out.length<=40000*a) :
  ∃m,lp (V6 ⟨a⟩) (Kc9 r j out)=(ph (pb7 r r[a] (r.drop j) out)+1,Kc9 r m (pb7 r r[a] (r.drop j) out))/\(pb7 r r[a] (r.drop j) out).length<=40000*(a+1):=by
 have hk:=Pa0 (step:=V6 ⟨a⟩) (mk:=Kc9 r) (f:=λq l out=>Fb7 r r[a] q l out) (g:=λl out=>pb7 r r[a] l out) (fin:=λout=>ph out+1) r (λk o=>o.length<=40000*a+200*(k-j)/\j<=k/\k<=j+r.length) (by omega)
  (λ_=>rfl) (λ_ _ _=>rfl) (λk o hj hi=>⟨Nf9 r hb hr a k ha o (by omega) hj,by
   have:=dd0 r r[a] r[k] (r.drop (k+1)) o
   rw[Qie] at this;show (Fb7 r r[a] r[k] (r.drop (k+1)) o).length<=40000*a+200*(k+1-j)/\j<=k+1/\k+1<=j+r.length
   omega⟩)
  (λk o hj _=>dg2 r a k o hj) j out (by omega)
 exact⟨_,hk.1,by have:=hk.2;omega⟩
@[reducible] noncomputable def Tc2(r:PLq)(j:Nat)(out:List Pt):J5:=⟨ph out,r,(j:Int),out.length,bL tX out⟩
theorem Ze0(r:PLq)(hb:Bds r)(hr:r.length<=200)(a:Nat)(ha:a<r.length)(out:List Pt)(ho:out.length<=40000*a) :
  ca4 ⟨⟩ (Tc2 r a out)=.next (Tc2 r (a+1) (pb7 r r[a] (r.drop (a+1)) out))/\(pb7 r r[a] (r.drop (a+1)) out).length<=40000*(a+1):=by
 obtain⟨m,hm,hl⟩:=Of0 r hb hr a ha (a+1) out ho;refine⟨?_,hl⟩
 clear hl
 unfold ca4;generalize pb7 r r[a] (r.drop (a+1)) out=res at *
 cases out with
 |nil =>
  show fa2 Stp.next Stp.exit Stp.fail _ (Tc2 r a [])=_;simp only[fa2,Tc2,j8,l8,u7 ha (by omega)]
  rw[show (⟨0,r,((a+1:Nat):Int),0,[]⟩:E3)=Kc9 r (a+1) [] from rfl,hm,btD (o6 ha)]
  cases res<;>rfl
 |cons o os =>
  show fa3 Stp.next Stp.exit Stp.fail _ (Tc2 r a (o::os))=_;simp only[fa3,Tc2,j8,l8,u7 ha (by omega)]
  rw[show (⟨1,r,((a+1:Nat):Int),(o::os).length,bL tX (o::os)⟩:E3)=Kc9 r (a+1) (o::os) from rfl,hm,btD (o6 ha)]
  cases res<;>rfl
theorem dg3(r:PLq)(j:Nat)(out:List Pt)(hj:r.length<=j):ca4 ⟨⟩ (Tc2 r j out)=.exit (ph out+1):=by
 unfold ca4;have this:¬ ((j:Int)<(r.length:Int)):=by omega
 cases out with
 |nil =>
  show fa2 Stp.next Stp.exit Stp.fail _ (Tc2 r j [])=_;simp only[fa2,Tc2];rw[bfD this];rfl
 |cons o os =>
  show fa3 Stp.next Stp.exit Stp.fail _ (Tc2 r j (o::os))=_;simp only[fa3,Tc2];rw[bfD this];rfl
theorem Of1(r:PLq)(hb:Bds r)(hr:r.length<=200):∃m,lp (ca4 ⟨⟩) (Tc2 r 0 [])=(ph (cor r)+1,Tc2 r m (cor r))/\(cor r).length<=8000000:=by
 have hk:=Pa0 (step:=ca4 ⟨⟩) (mk:=Tc2 r) (f:=λq l out=>pb7 r q l out) (g:=λl out=>cd9 r l out) (fin:=λout=>ph out+1) r (λk o=>o.length<=40000*k/\k<=r.length) (by omega)
  (λ_=>rfl) (λ_ _ _=>rfl) (λk o hj hi=>⟨(Ze0 r hb hr k hj o hi.1).1,(Ze0 r hb hr k hj o hi.1).2,hj⟩)
  (λk o hj _=>dg3 r k o hj) 0 [] (by simp)
 exact⟨_,hk.1,by have:=hk.2;rw[show max 0 r.length=r.length by omega] at this;have h1:=this.1;show (cd9 r r []).length<=_;rw[Qic] at h1;omega⟩
def slX(l:List Pt):d7×List d8:=match l with
 |[]=>(.v (.slice none 0 0),[])
 |_::_=>(.sl 0 0 l.length 0,[⟨114,4,bL tX l,true,false,0⟩])
theorem oe9(l:List Pt):(one (r1L tX)).rd (slX l)=some l:=by
 cases l with
 |nil=>rfl
 |cons x l =>
  show Bool.rec (motive:=λ_=>Option (List Pt)) none (some (slR tX (bL tX (x::l)) 0 (x::l).length)) (Bool.and true (okS tX (bL tX (x::l)) 0 (x::l).length))=_
  rw[jc7,jc8];rfl
theorem td9(r:PLq)(hb:Bds r)(hr:r.length<=200):db7 r=some (slX (cor r)):=by
 obtain⟨m,hm,_⟩:=Of1 r hb hr;unfold db7;simp only[j8,l8];rw[show (⟨0,r,0,0,[]⟩:J5)=Tc2 r 0 [] from rfl,hm]
 cases cor r<;>rfl
theorem kb4{ρ:Type}(R:RR ρ){x:d7×List d8}{r:ρ}(h:R.rd x=some r):V2 R (some x)=r:=by
 show Option.rec (motive:=λ_=>ρ) R.d (λx=>x) (R.rd x)=r
 rw[h]
theorem Bb8{ρ:Type}(R:RR ρ){x:d7×List d8}{r:ρ}(h:R.rd x=some r):okO R (some x)=true:=by
 show Option.rec (motive:=λ_=>Bool) false (λ_=>true) (R.rd x)=true
 rw[h]
theorem Re6(r:PLq)(hb:Bds r)(hr:r.length<=200):xb9 r=cor r:=by unfold xb9;rw[td9 r hb hr];exact kb4 _ (oe9 _)
theorem Re7(r:PLq)(hb:Bds r)(hr:r.length<=200):yb0 r=true:=by unfold yb0;rw[td9 r hb hr];exact Bb8 _ (oe9 _)
def Vd6(x:Pt):List d7:=[i x.px,i x.py,i x.pz,i x.pw,b true]
def sc2(l:List Pt):List (List d7):=l.map Vd6
@[reducible] noncomputable def flK:List (Nat×CK):=[(0,.int .i64),(1,.int .i64),(2,.int .i64),(3,.int .i64)]
theorem De4(x q:Pt):Kc3 flK [i x.px,i x.py,i x.pz,i x.pw] (Vd6 q)=eqX x q:=by
 show Bool.and (decide (x.px=q.px)) (Bool.and (decide (x.py=q.py)) (Bool.and (decide (x.pz=q.pz)) (Bool.and (decide (x.pw=q.pw)) true)))=_;unfold eqX;have h:∀a c:Int,decide (a=c)=(c==a):=λa c=>by rw[Bool.eq_iff_iff,decide_eq_true_eq,beq_iff_eq];exact eq_comm
 rw[h,h,h,h]
theorem Ld6(x:Pt):∀l,Xc2 4 flK [i x.px,i x.py,i x.pz,i x.pw] (sc2 l)=Bc9 l x
 |[]=>rfl
 |q::l=>by
  have ih:=Ld6 x l;unfold Xc2 at ih ⊢;show Option.rec (motive:=λ_=>Bool) false (λr=>toB (hdA (l4 r 4))) (Bool.rec (motive:=λ_=>Option (List d7)) (qd3 flK [i x.px,i x.py,i x.pz,i x.pw] (sc2 l)) (some (Vd6 q)) (Kc3 flK [i x.px,i x.py,i x.pz,i x.pw] (Vd6 q)))=Bc9 (q::l) x
  rw[De4];unfold Bc9 at ih ⊢;rw[List.any_cons];cases eqX x q with
  |true=>rfl
  |false=>exact ih
theorem de5(x:Pt):∀l,Bc9 l x=false->Yb0 flK [i x.px,i x.py,i x.pz,i x.pw] (Vd6 x) (sc2 l)=sc2 (l++[x])
 |[],_=>rfl
 |q::l,h=>by
  unfold Bc9 at h;rw[List.any_cons,Bool.or_eq_false_iff] at h;show Bool.rec (motive:=λ_=>List (List d7)) (Vd6 q::Yb0 flK [i x.px,i x.py,i x.pz,i x.pw] (Vd6 x) (sc2 l)) (Vd6 x::sc2 l) (Kc3 flK [i x.px,i x.py,i x.pz,i x.pw] (Vd6 q))=_
  rw[De4,h.1,de5 x l h.2];rfl
@[reducible] noncomputable def Lc0(k:Nat)(out:List Pt):n7:=⟨ph out,(k:Int),out.length,bL tX out,sc2 out⟩
structure C2(P:m9)(r:PLq)(p q:Pln)(lo:Nat):Prop where
 ns:P.Gf2=(r.drop lo).length
 gs:P.Gf3=λk=>tP.row (gL tP r (lo+k))
 is:P.Mc5=((r.drop lo).length:Int)
 p1:(⟨⟨P.Ma5,P.Ma6,P.Ma7⟩,P.Ma8⟩:Pln)=p
 q1:(⟨⟨P.pc8,P.Z0,P.pc9⟩,P.gd8⟩:Pln)=q
 r1:P.ab6=r
theorem pe0(s:Pln):(⟨⟨toI (hdA (tP.row s)),toI (hdA (tlA (tP.row s))),toI (hdA (tlA (tlA (tP.row s))))⟩,toI (hdA (tlA (tlA (tlA (tP.row s)))))⟩:Pln)=s:=rfl
theorem pe1(s:Pln):((Nat.ble 4 (len (tP.row s)))&&(ra7 [CK.int .i64,CK.int .i64,CK.int .i64,CK.int .i64] (tP.row s)))=true:=rfl
theorem Of2{P:m9}{r:PLq}{p q:Pln}{lo:Nat}(h:C2 P r p q lo)(hb:Bds r)(hr:r.length<=200)(hp:Bd p)(hq:Bd q)(k:Nat)(out:List Pt)(ho:out.length<=1000000000)(hk:k<(r.drop lo).length) :
  F5 P (Lc0 k out)=.next (Lc0 (k+1) (Wa7 r p q out (r.drop lo)[k])):=by
 have hwi:∀x,Qa8 r x=inn r x:=λx=>yf3 r x (by omega)
 have hwg:∀x,Qa9 r x=true:=λx=>yf4 r x (by omega)
 have hs:gL tP r (lo+k)=(r.drop lo)[k]:=by rw[<- Cd2,fb0 tP hk]
 have hbs:Bd (r.drop lo)[k]:=hb _ (List.mem_of_mem_drop (Qik hk));have hd:(r.drop lo).length<=200:=by rw[Qie];omega
 have hme:=cg6 hp hq hbs;have hmg:=cg7 hp hq hbs;obtain⟨x1,x2,x3,x4,x5,x6,x7,x8,x9,x10,x11,x12,x13,x14,x15,x16,x17,x18,x19,x20,x21⟩:=P;obtain⟨ns,gs,is,p1,q1,r1⟩:=h
 simp only at ns gs is p1 q1 r1
 have r1:=r1.symm;subst ns gs is r1;unfold F5;cases out with
 |nil =>
  show I6 Stp.next Stp.exit Stp.fail _ (Lc0 k [])=_;simp only[I6,Lc0,Int.toNat_natCast,j8,w7,p1,q1,hs,pe0,pe1,hme,hmg,hwi,hwg,u7 hk (by omega)]
  rw[btD (o6 hk),bt (i9 hk),g9,g9];unfold Wa7;rw[De2];cases (mpt p q (r.drop lo)[k]).2 with
  |false=>rfl
  |true =>
   cases inn r (mpt p q (r.drop lo)[k]).1 with
   |false=>rfl
   |true=>rfl
 |cons o os =>
  show I7 Stp.next Stp.exit Stp.fail _ (Lc0 k (o::os))=_;simp only[I7,Lc0,Int.toNat_natCast,j8,w7,p1,q1,hs,pe0,pe1,hme,hmg,hwi,hwg,u7 hk (by omega),Ld6]
  rw[btD (o6 hk),bt (i9 hk),g9,g9,De3 rfl ho,Ye9];unfold Wa7;cases (mpt p q (r.drop lo)[k]).2 with
  |false=>rfl
  |true =>
   cases hx:Bc9 (o::os) (mpt p q (r.drop lo)[k]).1 with
   |true=>rfl
   |false =>
    cases inn r (mpt p q (r.drop lo)[k]).1 with
    |false=>rfl
    |true =>
     show Stp.next (⟨1,((k+1:Nat):Int),(o::os).length+1,bL tX (o::os++[(mpt p q (r.drop lo)[k]).1]),Yb0 flK [i (mpt p q (r.drop lo)[k]).1.px,i (mpt p q (r.drop lo)[k]).1.py,i (mpt p q (r.drop lo)[k]).1.pz,i (mpt p q (r.drop lo)[k]).1.pw] (Vd6 (mpt p q (r.drop lo)[k]).1) (sc2 (o::os))⟩:n7)=_;rw[de5 _ _ hx];simp[ph]
theorem dg4{P:m9}{r:PLq}{p q:Pln}{lo:Nat}(h:C2 P r p q lo)(k:Nat)(out:List Pt)(hk:(r.drop lo).length<=k):F5 P (Lc0 k out)=.exit (ph out+1):=by
 obtain⟨x1,x2,x3,x4,x5,x6,x7,x8,x9,x10,x11,x12,x13,x14,x15,x16,x17,x18,x19,x20,x21⟩:=P;obtain⟨ns,gs,is,p1,q1,r1⟩:=h
 simp only at ns gs is p1 q1 r1
 have r1:=r1.symm;subst ns gs is r1;unfold F5;have this:¬ ((k:Int)<((r.drop lo).length:Int)):=by omega
 cases out with
 |nil =>
  show I6 Stp.next Stp.exit Stp.fail _ (Lc0 k [])=_;simp only[I6,Lc0];rw[bfD this];rfl
 |cons o os =>
  show I7 Stp.next Stp.exit Stp.fail _ (Lc0 k (o::os))=_;simp only[I7,Lc0];rw[bfD this];rfl
theorem Of3{P:m9}{r:PLq}{p q:Pln}{lo:Nat}(h:C2 P r p q lo)(hb:Bds r)(hr:r.length<=200)(hp:Bd p)(hq:Bd q)(out:List Pt)(ho:out.length<=100000000) :
  ∃m,lp (F5 P) (Lc0 0 out)=(ph (Fb7 r p q (r.drop lo) out)+1,Lc0 m (Fb7 r p q (r.drop lo) out)):=by
 have hd:(r.drop lo).length<=200:=by rw[Qie];omega
 exact⟨_,(Pa0 (mk:=Lc0) (f:=λs _ out=>Wa7 r p q out s) (g:=λl out=>Fb7 r p q l out) (fin:=λout=>ph out+1) (r.drop lo) (λj o=>o.length<=out.length+j) (by omega)
  (λ_=>rfl) (λ_ _ _=>rfl) (λj o hj hi=>⟨Of2 h hb hr hp hq j o (by omega) hj,by have:=md8 r p q o (r.drop lo)[j];show (Wa7 r p q o (r.drop lo)[j]).length<=out.length+(j+1);omega⟩)
  (λj o hj _=>dg4 h j o hj) 0 out (by omega)).1⟩
@[reducible] noncomputable def Lc1(r:PLq)(j:Nat)(out:List Pt):p5:=⟨ph out,r,(j:Int),r,r,out.length,bL tX out,sc2 out⟩
structure C1(P:n8)(r:PLq)(p:Pln)(a:Nat):Prop where
 i3:P.is3=(a:Int)
 ns:P.Xd7=(r.drop (a+1)).length
 gs:P.Xd8=λk=>tP.row (gL tP r (a+1+k))
 is:P.Ad1=((r.drop (a+1)).length:Int)
 p1:(⟨⟨P.Ma5,P.Ma6,P.Ma7⟩,P.Ma8⟩:Pln)=p
theorem Of4{P:n8}{r:PLq}{p:Pln}{a:Nat}(h:C1 P r p a)(hb:Bds r)(hr:r.length<=200)(hp:Bd p)(j:Nat)(out:List Pt)(ho:out.length<=100000000)(hj:j<(r.drop (a+1)).length) :
  F6 P (Lc1 r j out)=.next (Lc1 r (j+1) (Fb7 r p (r.drop (a+1))[j] ((r.drop (a+1)).drop (j+1)) out)):=by
 have hs:gL tP r (a+1+j)=(r.drop (a+1))[j]:=by rw[<- Cd2,fb0 tP hj]
 have hbs:Bd (r.drop (a+1))[j]:=hb _ (List.mem_of_mem_drop (Qik hj));have hd:=hj;rw[Qie] at hd;have hW:W (W ((a:Int)+(j:Int))+2)=((a+1+(j+1):Nat):Int):=by rw[Bc7,La6 (by omega) (by omega)];omega
 have hdl:(r.drop (a+1)).length<=4611686018427387904:=by rw[Qie];omega
 have hlo:inB ((a+1+(j+1):Nat):Int) (r.length+1)=true:=i9 (by omega)
 rw[Qiat];generalize hq:(r.drop (a+1))[j]=q at *
 obtain⟨x1,x2,x3,x4,x5,x6,x7,x8,x9,x10⟩:=P;obtain⟨i3,ns,gs,is,p1⟩:=h
 simp only at i3 ns gs is p1
 subst i3 ns gs is;unfold F6;have key:∀(P2:m9),C2 P2 r p q (a+1+(j+1))->_:=λP2 h2=>Of3 h2 hb hr hp hbs out ho
 cases out with
 |nil =>
  show I8 Stp.next Stp.exit Stp.fail _ (Lc1 r j [])=_;simp only[I8,Lc1,j8,l8,u7 hj hdl,hW,Int.toNat_natCast,hs,pe1,hlo];rw[show (⟨0,0,0,[],[]⟩:n7)=Lc0 0 [] from rfl]
  generalize hP:m9.mk _ _ _ _ _ _ _ _ _ _ _ _ _ _ _ _ _ _ _ _ _=P2;obtain⟨m,hm⟩:=key P2 (by
   subst hP;exact⟨by simp,rfl,by simp,p1,pe0 q,rfl⟩)
  rw[hm,btD (o6 hj),bt (i9 hj)];cases Fb7 r p q (r.drop (a+1+(j+1))) []<;>rfl
 |cons o os =>
  show I9 Stp.next Stp.exit Stp.fail _ (Lc1 r j (o::os))=_;simp only[I9,Lc1,j8,l8,u7 hj hdl,hW,Int.toNat_natCast,hs,pe1,hlo];rw[show (⟨1,0,(o::os).length,bL tX (o::os),sc2 (o::os)⟩:n7)=Lc0 0 (o::os) from rfl]
  generalize hP:m9.mk _ _ _ _ _ _ _ _ _ _ _ _ _ _ _ _ _ _ _ _ _=P2;obtain⟨m,hm⟩:=key P2 (by
   subst hP;exact⟨by simp,rfl,by simp,p1,pe0 q,rfl⟩)
  rw[hm,btD (o6 hj),bt (i9 hj)];cases Fb7 r p q (r.drop (a+1+(j+1))) (o::os)<;>rfl
theorem dg5{P:n8}{r:PLq}{p:Pln}{a:Nat}(h:C1 P r p a)(j:Nat)(out:List Pt)(hj:(r.drop (a+1)).length<=j):F6 P (Lc1 r j out)=.exit (ph out+1):=by
 obtain⟨x1,x2,x3,x4,x5,x6,x7,x8,x9,x10⟩:=P;obtain⟨i3,ns,gs,is,p1⟩:=h
 simp only at i3 ns gs is p1
 subst i3 ns gs is;unfold F6;have this:¬ ((j:Int)<((r.drop (a+1)).length:Int)):=by omega
 cases out with
 |nil =>
  show I8 Stp.next Stp.exit Stp.fail _ (Lc1 r j [])=_;simp only[I8,Lc1];rw[bfD this];rfl
 |cons o os =>
  show I9 Stp.next Stp.exit Stp.fail _ (Lc1 r j (o::os))=_;simp only[I9,Lc1];rw[bfD this];rfl
theorem Of5{P:n8}{r:PLq}{p:Pln}{a:Nat}(h:C1 P r p a)(hb:Bds r)(hr:r.length<=200)(hp:Bd p)(out:List Pt)(ho:out.length<=10000000) :
  ∃m,lp (F6 P) (Lc1 r 0 out)=(ph (pb7 r p (r.drop (a+1)) out)+1,Lc1 r m (pb7 r p (r.drop (a+1)) out)):=by
 have hd:(r.drop (a+1)).length<=200:=by rw[Qie];omega
 exact⟨_,(Pa0 (mk:=Lc1 r) (f:=λq l out=>Fb7 r p q l out) (g:=λl out=>pb7 r p l out) (fin:=λout=>ph out+1) (r.drop (a+1)) (λk o=>o.length<=out.length+200*k) (by omega)
  (λ_=>rfl) (λ_ _ _=>rfl) (λk o hj hi=>⟨Of4 h hb hr hp k o (by omega) hj,by
   have:=dd0 r p (r.drop (a+1))[k] ((r.drop (a+1)).drop (k+1)) o
   rw[Qie] at this;show (Fb7 r p (r.drop (a+1))[k] ((r.drop (a+1)).drop (k+1)) o).length<=out.length+200*(k+1)
   omega⟩)
  (λk o hj _=>dg5 h k o hj) 0 out (by omega)).1⟩
@[reducible] noncomputable def Tc3(r:PLq)(j:Nat)(out:List Pt):r7:=⟨ph out,r,(j:Int),r,r,out.length,bL tX out,sc2 out⟩
theorem Of6{P:B7}(r:PLq)(h:P.L9=(r.length:Int))(hb:Bds r)(hr:r.length<=200)(a:Nat)(ha:a<r.length)(out:List Pt)(ho:out.length<=40000*a) :
  F7 P (Tc3 r a out)=.next (Tc3 r (a+1) (pb7 r r[a] (r.drop (a+1)) out)):=by
 have hbs:Bd r[a]:=hb _ (Qik ha);have hlo:inB ((a+1:Nat):Int) (r.length+1)=true:=i9 (by omega)
 have key:∀(P2:n8),C1 P2 r r[a] a->_:=λP2 h2=>Of5 h2 hb hr hbs out (by omega)
 obtain⟨x1⟩:=P
 simp only at h
 subst h;unfold F7;cases out with
 |nil =>
  show J0 Stp.next Stp.exit Stp.fail _ (Tc3 r a [])=_;simp only[J0,Tc3,j8,l8,u7 ha (by omega),Int.toNat_natCast,hlo,fb0 tP ha]
  rw[show (⟨0,r,0,r,r,0,[],[]⟩:p5)=Lc1 r 0 [] from rfl]
  generalize hP:n8.mk _ _ _ _ _ _ _ _ _ _=P2;obtain⟨m,hm⟩:=key P2 (by
   subst hP;exact⟨rfl,by simp,rfl,by simp,rfl⟩)
  rw[hm,btD (o6 ha),bt (i9 ha)];cases pb7 r r[a] (r.drop (a+1)) []<;>rfl
 |cons o os =>
  show J1 Stp.next Stp.exit Stp.fail _ (Tc3 r a (o::os))=_;simp only[J1,Tc3,j8,l8,u7 ha (by omega),Int.toNat_natCast,hlo,fb0 tP ha]
  rw[show (⟨1,r,0,r,r,(o::os).length,bL tX (o::os),sc2 (o::os)⟩:p5)=Lc1 r 0 (o::os) from rfl]
  generalize hP:n8.mk _ _ _ _ _ _ _ _ _ _=P2;obtain⟨m,hm⟩:=key P2 (by
   subst hP;exact⟨rfl,by simp,rfl,by simp,rfl⟩)
  rw[hm,btD (o6 ha),bt (i9 ha)];cases pb7 r r[a] (r.drop (a+1)) (o::os)<;>rfl
theorem dg6{P:B7}(r:PLq)(h:P.L9=(r.length:Int))(j:Nat)(out:List Pt)(hj:r.length<=j):F7 P (Tc3 r j out)=.exit (ph out+1):=by
 obtain⟨x1⟩:=P
 simp only at h
 subst h;unfold F7;have this:¬ ((j:Int)<(r.length:Int)):=by omega
 cases out with
 |nil =>
  show J0 Stp.next Stp.exit Stp.fail _ (Tc3 r j [])=_;simp only[J0,Tc3];rw[bfD this];rfl
 |cons o os =>
  show J1 Stp.next Stp.exit Stp.fail _ (Tc3 r j (o::os))=_;simp only[J1,Tc3];rw[bfD this];rfl
theorem Of7(r:PLq)(hb:Bds r)(hr:r.length<=200):∃m,lp (F7 ⟨(r.length:Int)⟩) (Tc3 r 0 [])=(ph (cor r)+1,Tc3 r m (cor r)) :=
 ⟨_,(Pa0 (step:=F7 ⟨(r.length:Int)⟩) (mk:=Tc3 r) (f:=λq l out=>pb7 r q l out) (g:=λl out=>cd9 r l out) (fin:=λout=>ph out+1) r (λk o=>o.length<=40000*k) (by omega)
  (λ_=>rfl) (λ_ _ _=>rfl) (λk o hj hi=>⟨Of6 r rfl hb hr k hj o hi,by
   have h1:=Ld5 r r[k] (r.drop (k+1)) o (by rw[Qie];omega)
   rw[Qie] at h1;show (pb7 r r[k] (r.drop (k+1)) o).length<=40000*(k+1)
   omega⟩)
  (λk o hj _=>dg6 r rfl k o hj) 0 [] (by simp)).1⟩
theorem Ld7(r:PLq)(hb:Bds r)(hr:r.length<=200):la6 r=some (slX (cor r)):=by
 obtain⟨m,hm⟩:=Of7 r hb hr;unfold la6;simp only[j8,l8];rw[show (⟨0,r,0,r,r,0,[],[]⟩:r7)=Tc3 r 0 [] from rfl,hm]
 cases cor r<;>rfl
theorem de6(r:PLq)(hb:Bds r)(hr:r.length<=200):la7 r=cor r:=by unfold la7;rw[Ld7 r hb hr];exact kb4 _ (oe9 _)
theorem de7(r:PLq)(hb:Bds r)(hr:r.length<=200):la8 r=true:=by unfold la8;rw[Ld7 r hb hr];exact Bb8 _ (oe9 _)
def slP(l:PLq):d7×List d8:=(.sl 0 0 l.length 0,[⟨66,4,bL tP l,true,false,0⟩])
theorem Tc4(l:PLq):(one (r1L tP)).rd (slP l)=some l:=by
 show Bool.rec (motive:=λ_=>Option PLq) none (some (slR tP (bL tP l) 0 l.length)) (Bool.and true (okS tP (bL tP l) 0 l.length))=_
 rw[jc7,jc8];rfl
theorem yf9{α:Type}(t:Ty α)(l:List α):(one (r1L t)).rd (eL t l,[])=some l:=by
 show Bool.rec (motive:=λ_=>Option (List α)) none (some (rt t l)) (Bool.and (Nat.beq t.es t.es) (okE t l))=_
 rw[j8,w7,Qiu];rfl
def ws:PLq:=[⟨⟨1,0,0⟩,24⟩,⟨⟨-1,0,0⟩,24⟩,⟨⟨0,1,0⟩,24⟩,⟨⟨0,-1,0⟩,24⟩,⟨⟨0,0,1⟩,24⟩,⟨⟨0,0,-1⟩,24⟩]
theorem Wf5:Bds ws:=by
 intro p hp
 have:okp p=true:=by
  have h:ws.all okp=true:=by decide
  exact Qiar.1 h p hp
 exact md6 this
def Of8(lo hi:V3):PLq:=[⟨⟨1,0,0⟩,hi.x⟩,⟨⟨-1,0,0⟩,W (0-lo.x)⟩,⟨⟨0,1,0⟩,hi.y⟩,⟨⟨0,-1,0⟩,W (0-lo.y)⟩,⟨⟨0,0,1⟩,hi.z⟩,⟨⟨0,0,-1⟩,W (0-lo.z)⟩]
theorem zf0(lo hi:V3):Ic3 lo hi=some (slP (Of8 lo hi)):=rfl
theorem og4(lo hi:V3):Ic4 lo hi=Of8 lo hi:=by unfold Ic4;rw[zf0];exact kb4 _ (Tc4 _)
theorem og5(lo hi:V3):Ic5 lo hi=true:=by unfold Ic5;rw[zf0];exact Bb8 _ (Tc4 _)
theorem dg7:Of8 ⟨-24,-24,-24⟩ ⟨24,24,24⟩=ws:=by
 simp only[Of8,ws];rw[show W (0 - -24)=24 from by rw[xf5];rfl]
theorem Ze1{l:PLq}:Nat.beq (len (bL tP l)) 0=l.isEmpty:=by rw[M2];cases l<;>rfl
theorem zf1(c:PLq)(hc:c.length<=1000000000):ec4 c=some (slP (c++ws)):=by
 unfold ec4;simp only[Mb7,og4,og5,dg7,Ze1];have h6:(0+len (bL tP c))=c.length:=by rw[M2];omega
 have hw:len (bL tP ws)=6:=rfl;rw[h6,hw];have e1:Nat.ble (c.length*32) room=true:=ab4 (by omega)
 have e2:Nat.ble ((c.length+6)*32) room=true:=ab4 (by omega)
 have e3:app (app [] (bL tP c)) (bL tP ws)=bL tP (c++ws):=Ka2 tP c ws;have e4:Nat.beq c.length (len (app [] (bL tP c)))=true:=by
  rw[show app [] (bL tP c)=bL tP c from rfl,M2,Qiu]
 rw[e1,e2,e3,e4];cases c with
 |nil=>rfl
 |cons p c =>
  show some (d7.sl 0 0 ((p::c).length+6) 0,[(⟨66,4,bL tP (p::c++ws),true,false,0⟩:d8)])=_;unfold slP;rw[Qia];rfl
theorem De5(c:PLq)(hc:c.length<=1000000000):ec5 c=c++ws:=by unfold ec5;rw[zf1 c hc];exact kb4 _ (Tc4 _)
theorem De6(c:PLq)(hc:c.length<=1000000000):ec6 c=true:=by unfold ec6;rw[zf1 c hc];exact Bb8 _ (Tc4 _)
theorem zf2{l:LPq}{j:Nat}(h:j<l.length):gL tLq l j=l[j]:=fb0 tLq h
theorem De7(ls:LPq)(hn:ls.length<=1000000000)(hl:ls.flatten.length<=1000000000):∃m,lp (R3 ⟨ls,ls,(ls.length:Int)⟩) ⟨0,0⟩=(1,⟨(ls.flatten.length:Int),m⟩):=by
 have h:=Pa0 (step:=R3 ⟨ls,ls,(ls.length:Int)⟩) (mk:=λj (n:Nat)=>(⟨(n:Int),(j:Int)⟩:B8)) (f:=λl _ n=>n+l.length) (g:=λl n=>n+l.flatten.length) (fin:=λ_=>1) ls
  (λj n=>n+(ls.drop j).flatten.length=ls.flatten.length) hn (λ_=>rfl) (λx r a=>by simp only[List.flatten_cons,Qia];omega)
  (λj n hj hi=>by
   rw[Qif hj,List.flatten_cons,Qia] at hi;have hW:W ((n:Int)+(ls[j].length:Int))=((n+ls[j].length:Nat):Int):=by rw[La6 (by omega) (by omega)];omega
   refine⟨?_,by show n+ls[j].length+(ls.drop (j+1)).flatten.length=_;omega⟩
   simp only[R3,X4,Int.toNat_natCast,zf2 hj,hW,u7 hj (by omega)]
   rw[btD (o6 hj),bt (i9 hj),bfD (by omega)])
  (λj n hj _=>by
   simp only[R3,X4];rw[bfD (by omega)]) 0 0 (by simp)
 have h:=h.1;rw[Qic,Qid] at h;exact⟨_,h⟩
theorem zf3{ls:LPq}(h:ls.flatten=[]){j:Nat}(hj:j<ls.length):ls[j]=[]:=by
 rw[List.flatten_eq_nil_iff] at h;exact h _ (Qik hj)
theorem Ze2(ls:LPq)(hn:ls.length<=1000000000)(hl:ls.flatten=[]):∃s,lp (K4 ⟨ls,(ls.length:Int)⟩) ⟨0,0,0,[]⟩=(1,s):=by
 have h:=Pa0 (step:=K4 ⟨ls,(ls.length:Int)⟩) (mk:=λj (_:Unit)=>(⟨0,(j:Int),0,[]⟩:q8)) (f:=λ_ _ n=>n) (g:=λ_ n=>n) (fin:=λ_=>1) ls
  (λ_ _=>True) hn (λ_=>rfl) (λx r a=>rfl)
  (λj n hj hi=>by
   refine⟨?_,trivial⟩;show J2 Stp.next Stp.exit Stp.fail _ _=_;simp only[J2,Int.toNat_natCast,zf2 hj,zf3 hl hj,u7 hj (by omega)]
   rw[btD (o6 hj),bt (i9 hj)]
   rfl)
  (λj n hj _=>by
   show J2 Stp.next Stp.exit Stp.fail _ _=_;simp only[J2];rw[bfD (by omega)]) 0 () trivial
 exact⟨_,h.1⟩
def ac8(t:Nat)(d:PLq):List (List d7):=app (bL tP d) (List.replicate (t-d.length) ne0)
theorem zf5(t:Nat)(d:PLq)(h:d.length<=t):len (ac8 t d)=t:=by
 unfold ac8;rw[G6,p9,Qia,<- p9,M2,Qiaa];omega
theorem zf6(t:Nat)(d l:PLq)(h:d.length+l.length<=t):app (H9 (ac8 t d) d.length) (app (bL tP l) (l4 (ac8 t d) (d.length+len (bL tP l))))=ac8 t (d++l):=by
 have hd:(bL tP d).length=d.length:=by rw[<- p9,M2]
 unfold ac8;rw[M2,<- Ka2];simp only[G6,G3,G4];rw[List.take_left' hd,Qiw];congr 2;rw[List.drop_append,Qis (by omega),List.nil_append,hd,List.drop_replicate,Qia]
 congr 1;omega
theorem De8(ls:LPq)(hn:ls.length<=1000000000):∃m,lp (K4 ⟨ls,(ls.length:Int)⟩) ⟨1,0,0,List.replicate ls.flatten.length ne0⟩=(2,⟨1,m,ls.flatten.length,bL tP ls.flatten⟩):=by
 have h:=Pa0 (step:=K4 ⟨ls,(ls.length:Int)⟩) (mk:=λj (d:PLq)=>(⟨1,(j:Int),d.length,ac8 ls.flatten.length d⟩:q8)) (f:=λl _ d=>d++l) (g:=λl d=>d++l.flatten) (fin:=λ_=>2) ls
  (λj d=>d.length+(ls.drop j).flatten.length=ls.flatten.length) hn (λ_=>by simp) (λx r a=>by simp)
  (λj d hj hi=>by
   rw[Qif hj,List.flatten_cons,Qia] at hi;refine⟨?_,by show (d++ls[j]).length+(ls.drop (j+1)).flatten.length=_;rw[Qia];omega⟩
   show J3 Stp.next Stp.exit Stp.fail _ _=_;simp only[J3,Int.toNat_natCast,zf2 hj,u7 hj (by omega),Mb7]
   rw[zf6 _ _ _ (by omega),zf5 _ _ (by omega),M2,btD (o6 hj),bt (i9 hj),bt (by rw[Qial];omega),Qia])
  (λj d hj _=>by
   show J3 Stp.next Stp.exit Stp.fail _ _=_;simp only[J3];rw[bfD (by omega)]) 0 [] (by simp)
 have h:=h.1;rw[Qic,List.nil_append] at h;have e:ac8 ls.flatten.length ls.flatten=bL tP ls.flatten:=by unfold ac8;rw[Nat.sub_self,G6];simp
 rw[e] at h;exact⟨_,h⟩
theorem Wf6(ls:LPq)(hn:ls.length<=1000000000)(hl:ls.flatten.length<=1000000000):fc3 ls=some (slP (ls.flatten++ws)):=by
 have hc:C5 ls=if ls.flatten=[] then ⟨1,0,[]⟩ else ⟨2,ls.flatten.length,bL tP ls.flatten⟩:=by
  unfold C5 R9;simp only[j8,l8];obtain⟨m,hm⟩:=De7 ls hn hl;rw[hm];by_cases h0:ls.flatten=[]
  ·obtain⟨s,hs⟩:=Ze2 ls hn h0;rw[if_pos h0,hs];rw[show (⟨(ls.flatten.length:Int),m⟩:B8)=⟨0,m⟩ by rw[h0];rfl]
   rfl
  ·obtain⟨m',hm'⟩:=De8 ls hn;rw[if_neg h0];simp only[Int.toNat_natCast];rw[hm'];have h1:0<ls.flatten.length:=List.length_pos_iff.2 h0;have e1:((ls.flatten.length:Int)==0)=false:=by rw[beq_eq_false_iff_ne];omega
   have e2:Bool.and (decide ((0:Int)<(ls.flatten.length:Int))) (Nat.ble (ls.flatten.length*32) room)=true:=by
    rw[ab4 (by omega),decide_eq_true (by omega)]
    rfl
   rw[e1,e2];rfl
 unfold fc3;simp only[j8,w7,hc];by_cases h0:ls.flatten=[]
 ·rw[if_pos h0,h0];rfl
 ·rw[if_neg h0];generalize ls.flatten=c at *
  have e:∀(d:PLq) (p:Pln),app (bL tP d) [[i p.n.x,i p.n.y,i p.n.z,i p.b]]=bL tP (d++[p]):=λd p=>Ka2 tP d [p]
  have c1:=e c ⟨⟨1,0,0⟩,24⟩;have c2:=e (c++[⟨⟨1,0,0⟩,24⟩]) ⟨⟨-1,0,0⟩,24⟩;have c3:=e (c++[⟨⟨1,0,0⟩,24⟩]++[⟨⟨-1,0,0⟩,24⟩]) ⟨⟨0,1,0⟩,24⟩;have c4:=e (c++[⟨⟨1,0,0⟩,24⟩]++[⟨⟨-1,0,0⟩,24⟩]++[⟨⟨0,1,0⟩,24⟩]) ⟨⟨0,-1,0⟩,24⟩;have c5:=e (c++[⟨⟨1,0,0⟩,24⟩]++[⟨⟨-1,0,0⟩,24⟩]++[⟨⟨0,1,0⟩,24⟩]++[⟨⟨0,-1,0⟩,24⟩]) ⟨⟨0,0,1⟩,24⟩;have c6:=e (c++[⟨⟨1,0,0⟩,24⟩]++[⟨⟨-1,0,0⟩,24⟩]++[⟨⟨0,1,0⟩,24⟩]++[⟨⟨0,-1,0⟩,24⟩]++[⟨⟨0,0,1⟩,24⟩]) ⟨⟨0,0,-1⟩,24⟩
  simp only at c1 c2 c3 c4 c5 c6
  simp only[c1,c2,c3,c4,c5,c6,M2,Qia,List.length_singleton];have g:∀n:Nat,n<=1000000010->(Nat.beq n n&&Nat.ble ((n+1)*32) room)=true:=λn h=>by rw[Qiu,ab4 (by omega)];rfl
  rw[g _ (by omega),g _ (by omega),g _ (by omega),g _ (by omega),g _ (by omega),g _ (by omega)]
  show some (d7.sl 0 0 (c.length+1+1+1+1+1+1) 0,[(⟨66,4,bL tP _,true,false,0⟩:d8)])=_;unfold slP;rw[Qia];simp only[Qiw];rfl
theorem og6(ls:LPq)(hn:ls.length<=1000000000)(hl:ls.flatten.length<=1000000000):vb6 ls=ls.flatten++ws:=by unfold vb6;rw[Wf6 ls hn hl];exact kb4 _ (Tc4 _)
theorem og7(ls:LPq)(hn:ls.length<=1000000000)(hl:ls.flatten.length<=1000000000):vb7 ls=true:=by unfold vb7;rw[Wf6 ls hn hl];exact Bb8 _ (Tc4 _)
theorem Wf7(c:PLq)(hc:c.length<=1000000000):vb6 [c]=c++ws:=by
 have:[c].flatten=c:=by simp
 rw[og6 [c] (by simp) (by rw[this];exact hc),this]
theorem Wf8(c:PLq)(hc:c.length<=1000000000):vb7 [c]=true:=by
 have:[c].flatten=c:=by simp
 exact og7 [c] (by simp) (by rw[this];exact hc)
theorem de8(ls:LPq)(hn:ls.length<=1000000000)(hl:∀c∈ls,c.length<=1000000000):pb1 ls=some (b (ls.all λc=>chk c==0),[]):=by
 have hv:∀c∈ls,ob8 c=!(chk c==0)/\ob9 c=true:=λc hc=>by
  have:Va9 c=some (b (!(chk c==0)),[]):=by
   unfold Va9;simp only[j8,w7,Jc1 c (hl c hc),Cd1 c (hl c hc)];rfl
  unfold ob8 ob9;rw[this];exact⟨rfl,rfl⟩
 have h:=yb7 (step:=Q0 ⟨ls,(ls.length:Int)⟩) (mk:=λj=>(⟨(j:Int)⟩:A0)) (c:=λc=>!(chk c==0)) (u:=1) (fin:=2) tLq ls hn
  (λj hj=>by
   have hm:=hv _ (X7 tLq hj);simp only[Q0,N9,Int.toNat_natCast,j8,w7,hm.1,hm.2,u7 hj (by omega)]
   rw[btD (o6 hj),bt (i9 hj),g9,g9])
  (by simp only[Q0,N9];rw[bfD (B0 (Qih _))]) 0 (Qii _)
 rw[Qic] at h;have e:(ls.any λc=>!(chk c==0))=!ls.all λc=>chk c==0:=by rw[Qio]
 unfold pb1 qa8 J8 ya9 O6;simp only[j8,l8];rw[show (⟨0⟩:A0)=⟨((0:Nat):Int)⟩ from rfl,h,e]
 cases ls.all λc=>chk c==0 with
 |true=>rfl
 |false =>
  simp only[Qiad,if_true,Qid];show sl true (sl (Nat.beq 1 1) (some (b (!(decide (((ls.findIdx λc=>!(chk c==0):Nat):Int)>=0))),[])) _) _=_
  rw[show decide (((ls.findIdx λc=>!(chk c==0):Nat):Int)>=0)=true from decide_eq_true (by omega)]
  rfl
theorem De9(ls:LPq)(hn:ls.length<=1000000000)(hl:∀c∈ls,c.length<=1000000000):Ka9 ls=ls.all λc=>chk c==0:=by unfold Ka9;rw[de8 ls hn hl];rfl
theorem Ee0(ls:LPq)(hn:ls.length<=1000000000)(hl:∀c∈ls,c.length<=1000000000):La0 ls=true:=by unfold La0;rw[de8 ls hn hl];rfl
theorem Ee1(c:PLq)(hc:c.length<=1000000000):Ka9 [c]=(chk c==0):=by
 rw[De9 [c] (by simp) (by simpa using hc)]
 simp
theorem Ee2(c:PLq)(hc:c.length<=1000000000):La0 [c]=true:=Ee0 [c] (by simp) (by simpa using hc)
def pos(X:List Pt)(p:Pln):Bool:=X.any λx=>decide (rm p x>0)
def xd9(r:PLq):Bool:=r.all (pos (cor r))
theorem zf7(p:Pln)(X:List Pt)(hX:X.length<=1000000000):Ba3 ⟨p.n.x,p.n.y,p.n.z,p.b,X⟩=⟨1,!pos X p⟩:=by
 have hw:∀x:Pt,La1 ⟨x.px,x.py,x.pz,x.pw,p.n.x,p.n.y,p.n.z,p.b⟩=⟨decide (rm p x>0)⟩:=λx=>by
  show fa6.mk (decide (Ja4 p x>0))=_;rw[oe6]
 have h:=yb7 (step:=S8 ⟨X,(X.length:Int),p.n.x,p.n.y,p.n.z,p.b⟩) (mk:=λj=>(⟨(j:Int)⟩:A9)) (c:=λx=>decide (rm p x>0)) (u:=1) (fin:=2) tX X hX
  (λj hj=>by
   simp only[S8,Q1,Int.toNat_natCast,hw,u7 hj (by omega)]
   rw[btD (o6 hj),bt (i9 hj)])
  (by simp only[S8,Q1];rw[bfD (B0 (Qih _))]) 0 (Qii _)
 rw[Qic] at h;unfold Ba3 ca7 ua1 K8 Da6 R4 pos;simp only[j8,l8];rw[show (⟨0⟩:A9)=⟨((0:Nat):Int)⟩ from rfl,h]
 cases X.any λx=>decide (rm p x>0) with
 |false=>rfl
 |true =>
  simp only[if_true,Qid];show oa9.mk 1 (!(decide (((X.findIdx λx=>decide (rm p x>0):Nat):Int)>=0)))=_
  rw[show decide (((X.findIdx λx=>decide (rm p x>0):Nat):Int)>=0)=true from decide_eq_true (by omega)]
theorem Ze3(r:PLq)(hb:Bds r)(hr:r.length<=200):wa7 r=some (b (xd9 r),[]):=by
 have hX:(cor r).length<=1000000000:=Nat.le_trans (oe8 r hb hr) (by omega)
 have h:=yb7 (step:=Q3 ⟨r,(r.length:Int)⟩) (mk:=λj=>(⟨(j:Int),cor r⟩:A1)) (c:=λp=>!pos (cor r) p) (u:=1) (fin:=2) tP r (by omega)
  (λj hj=>by
   simp only[Q3,O0,Int.toNat_natCast,j8,l8,zf7 _ _ hX,u7 hj (by omega)]
   rw[btD (o6 hj),bt (i9 hj)]
   rfl)
  (by simp only[Q3,O0];rw[bfD (B0 (Qih _))]) 0 (Qii _)
 rw[Qic] at h;have e:(r.any λp=>!pos (cor r) p)=!r.all (pos (cor r)):=by rw[Qio]
 unfold wa7 ra0 J9 za1 O7 xd9;simp only[j8,l8,w7,de6 r hb hr,de7 r hb hr];rw[show (⟨0,cor r⟩:A1)=⟨((0:Nat):Int),cor r⟩ from rfl,h,e]
 cases r.all (pos (cor r)) with
 |true=>rfl
 |false =>
  simp only[Qiad,if_true,Qid];show some (b (!(decide (((r.findIdx λp=>!pos (cor r) p:Nat):Int)>=0))),[])=_
  rw[show decide (((r.findIdx λp=>!pos (cor r) p:Nat):Int)>=0)=true from decide_eq_true (by omega)]
  rfl
theorem zf8(r:PLq)(hb:Bds r)(hr:r.length<=200):wa8 r=xd9 r:=by unfold wa8;rw[Ze3 r hb hr];rfl
theorem zf9(r:PLq)(hb:Bds r)(hr:r.length<=200):wa9 r=true:=by unfold wa9;rw[Ze3 r hb hr];rfl
theorem Re8(r:PLq)(X:List Pt)(hr:r.length<=200)(hX:X.length<=1000000000)(a:Nat)(ha:a<r.length):∃m,lp (Qa6 ⟨r,X,(a:Int)⟩) ⟨false,0⟩=(1,⟨pos X r[a],m⟩):=by
 have h:=Bd7 (step:=Qa6 ⟨r,X,(a:Int)⟩) (mk:=λj (c:Bool)=>(⟨c,(j:Int)⟩:Aa6)) (f:=λc x=>c||decide (rm r[a] x>0)) (fin:=1) tX X (λ_ _=>True) hX
  (λj c hj _=>⟨by
   simp only[Qa6,Ua9,Int.toNat_natCast,Ye4,u7 hj (by omega),fb0 tP ha,i9 ha,i9 hj]
   rw[btD (o6 hj)];cases c<;>rfl,trivial⟩)
  (λc _=>by simp only[Qa6,Ua9];rw[bfD (B0 (Qih _))]) 0 (Qii _) false trivial
 have h:=h.1;rw[Qic] at h;have e:∀(l:List Pt) (c:Bool),l.foldl (λc x=>c||decide (rm r[a] x>0)) c=(c||l.any λx=>decide (rm r[a] x>0)):=by
  intro l
  induction l with
  |nil=>intro c;simp
  |cons x l ih=>intro c;rw[List.foldl_cons,ih,List.any_cons,Bool.or_assoc]
 rw[e,Bool.false_or] at h;exact⟨_,h⟩
theorem Ze4(r:PLq)(hb:Bds r)(hr:r.length<=200):Nb7 r=some (b (xd9 r),[]):=by
 have hX:(cor r).length<=1000000000:=Nat.le_trans (oe8 r hb hr) (by omega)
 have h:=nc2 (step:=db9 ⟨⟩) (mk:=λj=>(⟨r,cor r,(j:Int)⟩:ta5)) (c:=λp=>!pos (cor r) p) (u:=1) (fin:=2) tP r (by omega)
  (λj hj=>by
   obtain⟨m,hm⟩:=Re8 r (cor r) hr hX j hj;simp only[db9,Va0,j8,l8,hm,u7 hj (by omega),fb0 tP hj]
   rw[btD (o6 hj)]
   rfl)
  (by simp only[db9,Va0];rw[bfD (B0 (Qih _))]) 0 (Qii _)
 rw[Qic] at h;have e:(r.any λp=>!pos (cor r) p)=!r.all (pos (cor r)):=by rw[Qio]
 unfold Nb7 xd9;simp only[j8,l8,w7,Re6 r hb hr,Re7 r hb hr];rw[show (⟨r,cor r,0⟩:ta5)=⟨r,cor r,((0:Nat):Int)⟩ from rfl,h,e]
 cases r.all (pos (cor r))<;>rfl
theorem Af0(r:PLq)(hb:Bds r)(hr:r.length<=200):Nb8 r=xd9 r:=by unfold Nb8;rw[Ze4 r hb hr];rfl
theorem Af1(r:PLq)(hb:Bds r)(hr:r.length<=200):Nb9 r=true:=by unfold Nb9;rw[Ze4 r hb hr];rfl
theorem Wb7{c:PLq}(h:(chk c==0)=true):Bds (c++ws)/\(c++ws).length<=200:=by
 rw[beq_iff_eq,Pb4] at h;refine⟨λp hp=>?_,by rw[Qia,show ws.length=6 from rfl];omega⟩
 rcases Qiab.1 hp with hp|hp
 ·exact md6 (h.2 p hp)
 ·exact Wf5 p hp
def pts(c:PLq):List Pt:=if chk c==0 then cor (c++ws) else []
def ful(c:PLq):Bool:=(chk c==0)&&xd9 (c++ws)
theorem Ee3{c:PLq}(hc:c.length<=1000000000):∃x,eb6 c=some x/\(one (r1L tX)).rd x=some (pts c):=by
 unfold eb6 pts;simp only[j8,w7,Ee1 c hc,Ee2 c hc,Wf7 c hc,Wf8 c hc];cases h:chk c==0 with
 |false=>exact⟨_,rfl,rfl⟩
 |true =>
  obtain⟨h1,h2⟩:=Wb7 h;rw[de6 _ h1 h2,de7 _ h1 h2];exact⟨_,rfl,yf9 tX _⟩
theorem Ld8{c:PLq}(hc:c.length<=1000000000):Ra0 c=pts c:=by
 obtain⟨x,h1,h2⟩:=Ee3 hc;unfold Ra0;rw[h1];exact kb4 _ h2
theorem Ld9{c:PLq}(hc:c.length<=1000000000):Ra1 c=true:=by
 obtain⟨x,h1,h2⟩:=Ee3 hc;unfold Ra1;rw[h1];exact Bb8 _ h2
theorem Ze5{c:PLq}(hc:c.length<=1000000000):Bb3 c=some (b (ful c),[]):=by
 unfold Bb3 ful;simp only[j8,w7,Ee1 c hc,Ee2 c hc,Wf7 c hc,Wf8 c hc];cases h:chk c==0 with
 |false=>rfl
 |true =>
  obtain⟨h1,h2⟩:=Wb7 h;rw[zf8 _ h1 h2,zf9 _ h1 h2];rfl
theorem md9{c:PLq}(hc:c.length<=1000000000):Ba4 c=ful c:=by unfold Ba4;rw[Ze5 hc];rfl
theorem nd0{c:PLq}(hc:c.length<=1000000000):Ba5 c=true:=by unfold Ba5;rw[Ze5 hc];rfl
theorem Ee4{c:PLq}(hc:c.length<=1000000000):Ob0 c=some (b (ful c),[]):=by
 unfold Ob0 ful;simp only[j8,w7,Ld3 c hc,Ld4 c hc,De5 c hc,De6 c hc];cases h:chk c==0 with
 |false=>rfl
 |true =>
  obtain⟨h1,h2⟩:=Wb7 h;rw[Af0 _ h1 h2,Af1 _ h1 h2];rfl
theorem pe2{c:PLq}(hc:c.length<=1000000000):ub9 c=ful c:=by unfold ub9;rw[Ee4 hc];rfl
theorem pe3{c:PLq}(hc:c.length<=1000000000):vb0 c=true:=by unfold vb0;rw[Ee4 hc];rfl
theorem Ee5{Q:Pt->Prop}(r:PLq)(p q:Pln):∀(l:PLq) (out:List Pt),(∀s∈l,(mpt p q s).2=true->inn r (mpt p q s).1=true->Q (mpt p q s).1)->(∀x∈out,Q x)->∀x∈Fb7 r p q l out,Q x
 |[],out,_,h=>h
 |s::l,out,hs,h=>Ee5 r p q l (Wa7 r p q out s) (λt ht=>hs t (Qij _ ht)) λx hx=>by
  unfold Wa7 at hx
  split at hx
  ·rename_i hc;rw[Qin,Qin] at hc
   rcases Qiab.1 hx with hx|hx
   ·exact h x hx
   ·rw[List.mem_singleton] at hx;subst hx;exact hs s Qiaf hc.1 hc.2.2
  ·exact h x hx
theorem Ee6{Q:Pt->Prop}(r:PLq)(p:Pln):∀(l:PLq) (out:List Pt),(∀q∈l,∀s∈l,(mpt p q s).2=true->inn r (mpt p q s).1=true->Q (mpt p q s).1)->(∀x∈out,Q x)->∀x∈pb7 r p l out,Q x
 |[],out,_,h=>h
 |q::l,out,hs,h=>Ee6 r p l _ (λa ha t ht=>hs a (Qij _ ha) t (Qij _ ht)) (Ee5 r p q l out (λt ht=>hs q Qiaf t (Qij _ ht)) h)
theorem Ee7{Q:Pt->Prop}(r:PLq):∀(l:PLq) (out:List Pt),(∀p∈l,∀q∈l,∀s∈l,(mpt p q s).2=true->inn r (mpt p q s).1=true->Q (mpt p q s).1)->(∀x∈out,Q x)->∀x∈cd9 r l out,Q x
 |[],out,_,h=>h
 |p::l,out,hs,h=>Ee7 r l _ (λa ha c hc t ht=>hs a (Qij _ ha) c (Qij _ hc) t (Qij _ ht)) (Ee6 r p l out (λc hc t ht=>hs p Qiaf c (Qij _ hc) t (Qij _ ht)) h)
theorem Ze6{Q:Pt->Prop}{r:PLq}(hs:∀p∈r,∀q∈r,∀s∈r,(mpt p q s).2=true->inn r (mpt p q s).1=true->Q (mpt p q s).1):∀x∈cor r,Q x :=
 Ee7 r r [] hs λx hx=>by cases hx
structure Okx(x:Pt):Prop where
 w1:0<x.pw
 w2:x.pw<=600000000000
 c1:Sm 300000000000000 x.px
 c2:Sm 300000000000000 x.py
 c3:Sm 300000000000000 x.pz
theorem pe4{r:PLq}(hb:Bds r):∀x∈cor r,Okx x:=Ze6 λp hp q hq s hs h _=>by
 obtain⟨h1,h2,h3,h4,h5⟩:=Re3 (hb p hp) (hb q hq) (hb s hs) h;exact⟨h1,h5,h2,h3,h4⟩
theorem Ze7(c:PLq):(pts c).length<=8000000:=by
 unfold pts;cases h:chk c==0 with
 |false=>exact Qii _
 |true=>exact oe8 _ (Wb7 h).1 (Wb7 h).2
theorem Af2{x y:Int}(hy:0<y):Int.tmod x y+y*Int.tdiv x y=x/\-y<Int.tmod x y/\Int.tmod x y<y:=by
 refine⟨Int.tmod_add_mul_tdiv x y,?_,Int.tmod_lt_of_pos x hy⟩
 have:=Int.lt_tmod_of_pos x hy
 omega
theorem Af3(x:Int){y:Int}(hy:0<y)(hy2:y<=4000000000000000000):ec7 x y=some (i (x % y),[]):=by
 have hz:(y==0)=false:=by rw[beq_eq_false_iff_ne];omega
 obtain⟨h1,h2,h3⟩:=Af2 (x:=x) hy;unfold ec7;rw[bfD (by omega),bf hz,bf hz,La6 (by omega) (by omega),Int.tmod_eq_emod_of_nonneg (by omega)]
 congr 3;rw[Int.add_emod_right]
 conv=>rhs;rw[<- h1]
 rw[Int.add_mul_emod_self_left]
theorem ud0(x:Int){y:Int}(hy:0<y)(hy2:y<=4000000000000000000):ca5 x y=x % y:=by unfold ca5;rw[Af3 x hy hy2];rfl
theorem Oc9(x:Int){y:Int}(hy:0<y)(hy2:y<=4000000000000000000):V7 x y=true:=by unfold V7;rw[Af3 x hy hy2];rfl
theorem Sm.neg{n x:Int}(h:Sm n x):Sm n (-x):=⟨by have:=h.2;omega,by have:=h.1;omega⟩
theorem Af4(x:Pln):(x.n.x==x.n.x&&(x.n.y==x.n.y&&(x.n.z==x.n.z&&(x.b==x.b&&true))))=true:=by simp
theorem Ze8(l:PLq)(hl:l.length<=1000000000):Pb3 l l=some (b true,[]):=by
 have h:=nc2 (step:=eb9 ⟨l,l⟩) (mk:=λj=>(⟨(j:Int)⟩:ua7)) (c:=λ_=>false) (u:=1) (fin:=2) tP l hl
  (λj hj=>by
   simp only[eb9,Wa6,Int.toNat_natCast,u7 hj (by omega),Af4]
   rw[btD (o6 hj),bt (i9 hj),bt (i9 hj)]
   rfl)
  (by simp only[eb9,Wa6];rw[bfD (B0 (Qih _))]) 0 (Qii _)
 rw[Qic,show (l.any λ_=>false)=false by simp] at h
 unfold Pb3;simp only[j8,l8];rw[show (⟨0⟩:ua7)=⟨((0:Nat):Int)⟩ from rfl,h,bf (by simp)]
 rfl
theorem dg8(l:PLq)(hl:l.length<=1000000000):mc7 l l=true:=by unfold mc7;rw[Ze8 l hl];rfl
theorem dg9(l:PLq)(hl:l.length<=1000000000):mc8 l l=true:=by unfold mc8;rw[Ze8 l hl];rfl
def Nx{σ:Type}(x:Stp σ)(E:Nat->Prop)(N:σ->Prop):Prop:=(∃t,x=.exit t/\E t)\/∃s,x=.next s/\N s
theorem Nx.sl{σ:Type}{c:Bool}{t e:Stp σ}{E:Nat->Prop}{N:σ->Prop}(h1:c=true->Nx t E N)(h2:c=false->Nx e E N):Nx (sl c t e) E N:=by cases c;exact h2 rfl;exact h1 rfl
theorem Nx.ex{σ:Type}{t:Nat}{E:Nat->Prop}{N:σ->Prop}(h:E t):Nx (.exit t) E N:=.inl ⟨t,rfl,h⟩
theorem Nx.nx{σ:Type}{s:σ}{E:Nat->Prop}{N:σ->Prop}(h:N s):Nx (.next s) E N:=.inr ⟨s,rfl,h⟩
theorem Fa0{σ τ:Type}{step:σ->Stp σ}{mk:Nat->τ->σ}(n:Nat)(I:Nat->τ->Prop)(E:Nat->σ->Prop)(hn:n<=1000000000)
  (h:∀j a,j<n->I j a->Nx (step (mk j a)) (λt=>E t (mk j a)) (λs=>∃a',s=mk (j+1) a'/\I (j+1) a'))
  (hf:∀j a,n<=j->I j a->∃t,step (mk j a)=.exit t/\E t (mk j a)) (j0:Nat) (a:τ) (hi:I j0 a):∃t s,lp step (mk j0 a)=(t,s)/\E t s:=by
 have key:=nc1 (step:=step) (I:=λm s=>∃j a,m=n-j/\s=mk j a/\I j a) (Q:=E) (λm s ⟨j,a,hm,hs,ha⟩=>by
  subst hs;by_cases hlt:j<n
  ·rcases h j a hlt ha with h1|⟨s',h1,a',h2,h3⟩
   ·exact .inl h1
   ·subst h2;exact .inr ⟨_,n-(j+1),by omega,h1,j+1,a',rfl,rfl,h3⟩
  ·exact .inl (hf j a (by omega) ha)) (n-j0) (mk j0 a) (by omega) ⟨j0,a,rfl,rfl,hi⟩
 exact⟨_,_,rfl,key⟩
def Rd{ρ:Type}(R:RR ρ)(o:ROq)(P:ρ->Prop):Prop:=∃x r,o=some x/\R.rd x=some r/\P r
theorem Rd.p{ρ:Type}{R:RR ρ}{o:ROq}{P:ρ->Prop}(h:Rd R o P):P (V2 R o):=by
 obtain⟨x,r,h1,h2,h3⟩:=h;rw[h1,kb4 R h2];exact h3
theorem Rd.g{ρ:Type}{R:RR ρ}{o:ROq}{P:ρ->Prop}(h:Rd R o P):okO R o=true:=by
 obtain⟨x,r,h1,h2,h3⟩:=h;rw[h1];exact Bb8 R h2
theorem Rd.sl{ρ:Type}{R:RR ρ}{c:Bool}{t e:ROq}{P:ρ->Prop}(h1:c=true->Rd R t P)(h2:c=false->Rd R e P):Rd R (sl c t e) P:=by cases c;exact h2 rfl;exact h1 rfl
theorem Jb6(n:Int)(l:List Int)(j:Int)(h1:0<=j)(h2:j<=1000000)(hn:0<n)(hn2:n<=1000000) :
  ∃v j',A4 ⟨n,l,j⟩=⟨1,v,j'⟩/\0<=v/\v<n/\j<=j'/\j'<=j+1:=by
 unfold A4 za8
 simp only
 by_cases h:j>=(l.length:Int)
 ·rw[btD h];exact⟨0,j,rfl,by omega,hn,by omega,by omega⟩
 ·rw[bfD h];have hW:W (W (j+1)-1)=j:=by rw[Kd8,La6 (by omega) (by omega)];omega
  have hW2:W (j+1)=j+1:=La6 (by omega) (by omega)
  have hin:inB j l.length=true:=by rw[Ye2];exact decide_eq_true (by omega)
  rw[hW,hW2,hin,Oc9 _ hn (by omega),ud0 _ hn (by omega)]
  exact⟨_,_,rfl,Qias _ (by omega),Qiag _ hn,by omega,by omega⟩
def inV(v:V3):Bool:=smb 24 v.x&&(smb 24 v.y&&smb 24 v.z)
def sub(a b:V3):V3:=⟨a.x-b.x,a.y-b.y,a.z-b.z⟩
def Re9(a b c:V3):Pln×Bool :=
 if inV a&&(inV b&&inV c) then
  if g3 (A5 (sub b a) (sub c a))=0 then (⟨⟨0,0,0⟩,0⟩,false)
  else (⟨⟨Int.tdiv (A5 (sub b a) (sub c a)).x (g3 (A5 (sub b a) (sub c a))),Int.tdiv (A5 (sub b a) (sub c a)).y (g3 (A5 (sub b a) (sub c a))),Int.tdiv (A5 (sub b a) (sub c a)).z (g3 (A5 (sub b a) (sub c a)))⟩,
   dot ⟨Int.tdiv (A5 (sub b a) (sub c a)).x (g3 (A5 (sub b a) (sub c a))),Int.tdiv (A5 (sub b a) (sub c a)).y (g3 (A5 (sub b a) (sub c a))),Int.tdiv (A5 (sub b a) (sub c a)).z (g3 (A5 (sub b a) (sub c a)))⟩ a⟩,true)
 else (⟨⟨0,0,0⟩,0⟩,false)
theorem Ee8(l:PLq)(x1 x2 x3 x4:Int):app (bL tP l) [[i x1,i x2,i x3,i x4]]=bL tP (l++[⟨⟨x1,x2,x3⟩,x4⟩]):=Ka2 tP l [⟨⟨x1,x2,x3⟩,x4⟩]
theorem Tc5{l:PLq}{n:Nat}{r:List (List d7)}{P:PLq->Prop}(hn:n=l.length)(hr:r=bL tP l)(h:P l):Rd (one (r1L tP)) (some (.sl 0 0 n 0,[⟨66,4,r,true,false,0⟩])) P:=by
 subst hn hr;exact⟨_,l,rfl,Tc4 l,h⟩
structure Fc(ph:Nat)(out:PLq)(m:Nat):Prop where
 h:(ph=0/\out=[])\/ph=1
 l:out.length<=m
theorem Fc.more{ph m m':Nat}{out:PLq}(h:Fc ph out m)(hm:m<=m'):Fc ph out m':=⟨h.h,Nat.le_trans h.l hm⟩
theorem dd1{l:PLq}{k:Nat}(h:k<l.length):ldR tP (bL tP l) (0+k)=true:=by rw[Qid];exact ke0 tP h
theorem Jc2{l:PLq}{k:Nat}(h:k<l.length):rdR tP (bL tP l) (0+k)=gL tP l k:=by rw[Qid];exact je9 tP h
theorem eg0{α:Type}(t:Ty α)(k:Nat)(l:List α):(one (r1L t)).rd (.sl 0 0 l.length 0,[⟨k,t.es,bL t l,true,false,0⟩])=some l:=by
 show Bool.rec (motive:=λ_=>Option (List α)) none (some (slR t (bL t l) 0 l.length)) (Bool.and (Nat.beq t.es t.es) (okS t (bL t l) 0 l.length))=_
 rw[jc7,jc8,Qiu];rfl
theorem Se0{l:PLq}{n:Nat}{r:List (List d7)}{P:PLq->Prop}(hn:n<=l.length)(hr:r=bL tP l)(h:P (l.take n)):Rd (one (r1L tP)) (some (.sl 0 0 n 0,[⟨66,4,r,true,false,0⟩])) P:=by
 subst hr;have e1:slR tP (bL tP l) 0 n=l.take n:=jc6 tP (by rw[Qib];omega) λk hk=>by
  rw[Qid,U1 tP (by omega)]
  congr 1;simp[gL,Qig,List.getElem?_take,hk]
 have e2:okS tP (bL tP l) 0 n=true:=Yb6 tP (f:=λk=>gL tP l k) λk hk=>by rw[Qid,U1 tP (by omega)]
 refine⟨_,l.take n,rfl,?_,h⟩;show Bool.rec (motive:=λ_=>Option PLq) none (some (slR tP (bL tP l) 0 n)) (Bool.and true (okS tP (bL tP l) 0 n))=_
 rw[e1,e2];rfl
theorem Af5(k:Nat)(l:PLq)(hk:k<l.length):∃s:Ja5,lp (pb5 ⟨(k:Int)⟩) ⟨l.length,bL tP l⟩=(1,s)/\∃out:PLq,s=⟨out.length,bL tP out⟩/\out.length<=l.length+49:=by
 have key:=nc1 (step:=pb5 ⟨(k:Int)⟩) (I:=λm s=>∃out:PLq,s=⟨out.length,bL tP out⟩/\k<out.length/\(out.length<=49\/out=l)/\m=49-out.length) (Q:=λt s=>t=1/\∃out:PLq,s=⟨out.length,bL tP out⟩/\out.length<=l.length+49) (λm s ⟨out,hs,hk,ho,hm⟩=>by
  subst hs;simp only[pb5,yb6,Int.toNat_natCast,dd1 hk,Jc2 hk,i9 hk,g9,Ee8];by_cases h:(out.length:Int)<=48
  ·rw[btD h,M2,Qiu,ab4 (by omega)]
   refine .inr ⟨_,49-(out.length+1),by omega,rfl,out++[gL tP out k],by rw[Qia];rfl,by rw[Qia];omega,.inl (by rw[Qia];simp only[List.length_singleton];omega),by rw[Qia];rfl⟩
  ·rw[bfD h];exact .inl ⟨1,rfl,rfl,out,rfl,by rcases ho with ho | rfl<;>omega⟩) (49-l.length) ⟨l.length,bL tP l⟩ (by omega) ⟨l,rfl,hk,.inr rfl,rfl⟩
 exact⟨_,Prod.ext key.1 rfl,key.2⟩
theorem eg1(p:Pln)(v:V3):Rd (one r1P) (fc7 p v) (λ_=>True):=by
 have h1:=Qias v.z (show (9:Int)≠0 by omega)
 have h2:=Qiag v.z (show (0:Int)<9 by omega)
 unfold fc7;simp only[Oc9 _ (show (0:Int)<9 by omega) (by omega),Oc9 _ (show (0:Int)<5 by omega) (by omega),ud0 _ (show (0:Int)<9 by omega) (by omega),ud0 _ (show (0:Int)<5 by omega) (by omega)]
 have hin:inB (v.z % 9) 9=true:=by rw[Ye2];exact decide_eq_true (by omega)
 have hck:∀(x1 x2 x3 x4 x5 x6 x7 x8 x9:Int) (k:Nat),k<9->((Nat.ble 1 (len (g8 [[i x1],[i x2],[i x3],[i x4],[i x5],[i x6],[i x7],[i x8],[i x9]] (0+k))))&&(ra7 [CK.int .i64] (g8 [[i x1],[i x2],[i x3],[i x4],[i x5],[i x6],[i x7],[i x8],[i x9]] (0+k))))=true:=by
  intro x1 x2 x3 x4 x5 x6 x7 x8 x9 k hk
  match k,hk with
  |0,_=>rfl
  |1,_=>rfl
  |2,_=>rfl
  |3,_=>rfl
  |4,_=>rfl
  |5,_=>rfl
  |6,_=>rfl
  |7,_=>rfl
  |8,_=>rfl
 rw[hin,hck _ _ _ _ _ _ _ _ _ _ (by omega)]
 simp only[g9];exact Rd.sl (λ_=>⟨_,_,rfl,rfl,trivial⟩) λ_=>Rd.sl (λ_=>⟨_,_,rfl,rfl,trivial⟩) λ_=>Rd.sl (λ_=>⟨_,_,rfl,rfl,trivial⟩) λ_=>Rd.sl (λ_=>⟨_,_,rfl,rfl,trivial⟩) λ_=>Rd.sl (λ_=>⟨_,_,rfl,rfl,trivial⟩) λ_=>⟨_,_,rfl,rfl,trivial⟩
theorem eg2(p:Pln)(v:V3):md3 p v=true:=(eg1 p v).g
theorem Af6(x:PLq)(y:V3)(hx:x.length<=1000000):Rd (one (r1L tP)) (fc8 x y) (λr=>r.length<=x.length+50):=by
 have ea:app [] (bL tP x)=bL tP x:=rfl;have one0:Rd (one (r1L tP)) (some (.sl 0 0 1 0,[⟨66,4,[[i 0,i 0,i 0,i 0]],true,false,0⟩])) (λr=>r.length<=x.length+50):=Tc5 (l:=[⟨⟨0,0,0⟩,0⟩]) rfl rfl (by simp only[List.length_singleton];omega)
 unfold fc8;simp only[Mb7,ea,M2,Qid];rw[bt (show (Nat.beq 0 0&&Nat.ble (x.length*32) room)=true by rw[ab4 (by omega)];rfl)]
 by_cases h0:x.length=0
 ·rw[show ((x.length:Int)==0)=true from by rw[h0];rfl]
  exact one0
 ·have zi:((x.length:Int)==0)=false:=by rw[beq_eq_false_iff_ne];omega
  have hk1:=Qias y.y (show (x.length:Int)≠0 by omega)
  have hk2:=Qiag y.y (show (0:Int)<(x.length:Int) by omega)
  rw[zi,ud0 y.y (show (0:Int)<(x.length:Int) by omega) (by omega),Oc9 y.y (show (0:Int)<(x.length:Int) by omega) (by omega),Oc9 y.x (show (0:Int)<6 by omega) (by omega),Oc9 y.z (show (0:Int)<9 by omega) (by omega)]
  obtain⟨k,hk⟩:=Int.eq_ofNat_of_zero_le hk1;rw[hk] at hk2 ⊢;have hkx:k<x.length:=by omega
  have i1:inB (k:Int) x.length=true:=i9 hkx;have i2:inB (k:Int) (x.length+1)=true:=i9 (by omega)
  have w1:W ((k:Int)+1)=((k+1:Nat):Int):=u7 hkx (by omega)
  have i3:inB ((k+1:Nat):Int) (x.length+1)=true:=i9 (by omega)
  have hrow:g8 (bL tP x) k=tP.row (gL tP x k):=U1 tP hkx;have hb:Nat.blt k x.length=true:=by rw[Qiak];exact hkx
  have hld:ldR tP (bL tP x) k=true:=ke0 tP hkx;have hrd:rdR tP (bL tP x) k=gL tP x k:=je9 tP hkx;have sp:∀(v:Pln) (x1 x2 x3 x4:Int),L0 (tP.row v) 0 [i x1,i x2,i x3,i x4]=tP.row ⟨⟨x1,x2,x3⟩,x4⟩:=λ_ _ _ _ _=>rfl
  have sp3:∀(v:Pln) (x4:Int),L0 (tP.row v) 3 [i x4]=tP.row ⟨v.n,x4⟩:=λ_ _=>rfl
  have rl:∀v:Pln,Nat.ble 4 (len (tP.row v))=true:=λ_=>rfl
  have rl3:∀v:Pln,Nat.ble (3+1) (len (tP.row v))=true:=λ_=>rfl
  have ck3:∀v:Pln,ra7 [CK.int .i64] (l4 (tP.row v) 3)=true:=λ_=>rfl
  have b0:Nat.ble (x.length*32) room=true:=ab4 (by omega)
  have b1:Nat.ble ((x.length+1)*32) room=true:=ab4 (by omega)
  obtain⟨s,l1,out,l2,l3⟩:=Af5 k x hkx;have cutL:H9 (l4 (bL tP x) (k+1)) (x.length-(k+1))=bL tP (x.drop (k+1)):=by
   have hl:(bL tP x).length=x.length:=by rw[<- p9,M2]
   rw[G3,G4,Qix (by rw[Qie,hl];omega)]
   unfold bL;rw[n9,n9,Qiaw]
  have cutT:H9 (bL tP x) (k-0)=bL tP (x.take k):=by
   unfold bL;rw[G3,n9,n9,List.map_take,Nat.sub_zero]
  have cutD:∀n,l4 (bL tP x) n=bL tP (x.drop n):=λn=>by
   unfold bL;rw[G4,n9,n9,Qiaw]
  simp only[Int.toNat_natCast,i1,i2,w1,i3,hrow,hb,hld,hrd,sp,sp3,rl,rl3,ck3,b0,b1,Qiu,Bool.and_self,Qiq,g9,w6,eg2,yc3,Ee8,l1,l2,cutL];refine Rd.sl (λ_=>Tc5 (by rw[Qim]) rfl (by rw[Qim];omega)) λ_=>Rd.sl (λ_=>?_) λ_=>Rd.sl (λ_=>Tc5 (by rw[Qim]) rfl (by rw[Qim];omega)) λ_ =>
   Rd.sl (λ_=>Tc5 (by rw[Qia];rfl) rfl (by rw[Qia];simp only[List.length_singleton];omega)) λ_=>Rd.sl (λ_=>Tc5 (by rw[Qim]) rfl (by rw[Qim];omega)) λ_ =>
   Rd.sl (λ_=>Tc5 rfl rfl (by omega)) λ_=>Tc5 rfl rfl (by omega)
  rw[cutT,cutD,M2,Ka2,Ka2,Qie,bt (by rw[Qial];omega)]
  refine Se0 ?_ rfl ?_
  ·simp only[Qia,Qib,Qie];omega
  ·rw[Qib];simp only[Qia,Qib,Qie];omega
theorem og8(x:PLq)(y:V3)(hx:x.length<=1000000):md4 x y=true:=(Af6 x y hx).g
theorem og9(x:PLq)(y:V3)(hx:x.length<=1000000):(Ic8 x y).length<=x.length+50:=(Af6 x y hx).p
def has(c:PLq)(v:V3):Bool:=(chk c==0)&&(inV v&&inn c ⟨v.x,v.y,v.z,1⟩)
theorem Md0{a c:PLq}(ha:(chk a==0)=true)(hc:(chk c==0)=true):Bds (a++c++ws)/\(a++c++ws).length<=200:=by
 rw[beq_iff_eq,Pb4] at ha hc;refine⟨λp hp=>?_,by rw[Qia,Qia,show ws.length=6 from rfl];omega⟩
 rcases Qiab.1 hp with hp|hp
 ·rcases Qiab.1 hp with hp|hp
  ·exact md6 (ha.2 p hp)
  ·exact md6 (hc.2 p hp)
 ·exact Wf5 p hp
def apart(a c:PLq):Bool:=!((chk a==0)&&(chk c==0))||!xd9 (a++c++ws)
theorem Ee9{a c:PLq}(ha:a.length<=100000000)(hc:c.length<=100000000):pb3 a c=some (b (apart a c),[]):=by
 have hn:[a,c].length<=1000000000:=by simp
 have hl:∀x∈[a,c],x.length<=1000000000:=by
  intro x hx;simp only[Qiav,Qiao,or_false] at hx
  rcases hx with rfl|rfl<;>omega
 have hf:[a,c].flatten=a++c:=by simp
 have hfl:[a,c].flatten.length<=1000000000:=by rw[hf,Qia];omega
 unfold pb3 apart;simp only[j8,w7,De9 _ hn hl,Ee0 _ hn hl,og6 _ hn hfl,og7 _ hn hfl,hf,List.all_cons,List.all_nil,Qiq];cases h1:chk a==0 with
 |false=>rfl
 |true =>
  cases h2:chk c==0 with
  |false=>rfl
  |true =>
   obtain⟨q1,q2⟩:=Md0 h1 h2;rw[zf8 _ q1 q2,zf9 _ q1 q2];rfl
theorem pe5{a c:PLq}(ha:a.length<=100000000)(hc:c.length<=100000000):La3 a c=apart a c:=by unfold La3;rw[Ee9 ha hc];rfl
theorem pe6{a c:PLq}(ha:a.length<=100000000)(hc:c.length<=100000000):La4 a c=true:=by unfold La4;rw[Ee9 ha hc];rfl
def lies(a c:PLq):Bool:=ful a&&((chk c==0)&&(pts a).all (inn c))
def onc(X:List Pt)(p:Pln):Nat:=X.countP λx=>rm p x==0
def keep(X:List Pt)(p:Pln):Bool:=!decide ((onc X p:Int)<3)
theorem Md1(p:Pln)(X:List Pt)(hX:X.length<=1000000000):Da7 ⟨p.n.x,p.n.y,p.n.z,p.b,X⟩=⟨1,!keep X p,X⟩:=by
 have h:=Bd7 (step:=Ha3 ⟨X,(X.length:Int),X,p.n.x,p.n.y,p.n.z,p.b⟩) (mk:=λj (n:Nat)=>(⟨(n:Int),(j:Int)⟩:ba1)) (f:=λn x=>if rm p x==0 then n+1 else n) (fin:=1) tX X (λj n=>n<=j) hX
  (λj n hj hi=>by
   have hW:W ((n:Int)+1)=((n+1:Nat):Int):=by rw[La6 (by omega) (by omega)];omega
   refine⟨?_,by show (if rm p (gL tX X j)==0 then n+1 else n)<=j+1;split<;>omega⟩
   simp only[Ha3,Ba6,Int.toNat_natCast,oe6,hW,u7 hj (show X.length<=4611686018427387904 by omega)]
   rw[btD (o6 hj),bt (i9 hj)];cases rm p (gL tX X j)==0<;>rfl)
  (λn _=>by simp only[Ha3,Ba6];rw[bfD (B0 (Qih _))]) 0 (Qii _) 0 (Qil _)
 have h:=h.1;have e:∀(l:List Pt) (n:Nat),l.foldl (λn x=>if rm p x==0 then n+1 else n) n=n+l.countP λx=>rm p x==0:=by
  intro l
  induction l with
  |nil=>intro n;rfl
  |cons x l ih =>
   intro n;rw[List.foldl_cons,ih,List.countP_cons]
   split<;>omega
 rw[Qic,e,Qid] at h;unfold Da7 Ra3 keep onc;simp only[j8,l8];rw[show (⟨0,0⟩:ba1)=⟨((0:Nat):Int),((0:Nat):Int)⟩ from rfl,h]
 show Ra2.mk 1 (decide _) X=Ra2.mk 1 (!(!(decide _))) X;rw[Bool.not_not]
theorem Of9(l:PLq)(X:List Pt)(hl:l.length<=1000000000)(hX:X.length<=1000000000):la0 ⟨l.length,bL tP l,X⟩=⟨1,if l.any (λp=>!keep X p) then ((l.findIdx (λp=>!keep X p):Nat):Int) else -1,X⟩:=by
 have h:=yb7 (step:=Q4 ⟨l.length,(l.length:Int),bL tP l⟩) (mk:=λj=>(⟨(j:Int),X⟩:A2)) (c:=λp=>!keep X p) (u:=1) (fin:=2) tP l hl
  (λj hj=>by
   simp only[Q4,O1,Int.toNat_natCast,j8,l8,dd1 hj,Jc2 hj,Md1 _ _ hX,u7 hj (show l.length<=4611686018427387904 by omega)]
   rw[btD (o6 hj),bt (i9 hj)]
   rfl)
  (by simp only[Q4,O1];rw[bfD (B0 (Qih _))]) 0 (Qii _)
 rw[Qic] at h;unfold la0 O8;simp only[j8,l8];rw[show (⟨0,X⟩:A2)=⟨((0:Nat):Int),X⟩ from rfl,h]
 cases ha:l.any λp=>!keep X p with
 |false=>rfl
 |true =>
  have hf:l.findIdx (λp=>!keep X p)<l.length:=by
   rw[Qiaq] at ha;obtain⟨p,hp,hc⟩:=ha;exact Qiy ⟨p,hp,hc⟩
  simp only[if_true,Qid,Int.toNat_natCast,Jc2 hf,Md1 _ _ hX,j8];rfl
theorem dd2{α:Type}(c:α->Bool):∀l:List α,(l.take (l.findIdx c)).filter (λx=>!c x)=l.take (l.findIdx c)
 |[]=>rfl
 |x::l=>by
  rw[List.findIdx_cons];cases h:c x with
  |true=>rfl
  |false =>
   simp only[cond_false,List.take_succ_cons,Qiz,h,Qiad,if_true];rw[dd2 c l]
theorem Se1{α:Type}(l:List α)(j:Nat)(h:j<l.length):l.take (j+1)=l.take j++[l[j]]:=by rw[Qir h]
theorem nc3{α:Type}(t:Ty α){l:List α}{j:Nat}(h:j<l.length):l.take (j+1)=l.take j++[gL t l j]:=by rw[Se1 l j h,fb0 t h]
theorem nd1{α:Type}(t:Ty α){l r:List α}{j:Nat}(h:l.drop j=r.drop j):gL t l j=gL t r j:=by
 have h1:=Cd2 t l j 0;have h2:=Cd2 t r j 0;rw[Nat.add_zero] at h1 h2;rw[<- h1,<- h2,h]
theorem dd3{α:Type}{l r:List α}{j:Nat}(h:l.drop j=r.drop j)(k:Nat):l.drop (j+k)=r.drop (j+k):=by rw[<- Qiat,<- Qiat,h]
structure Del(l:PLq)(f:Pln->Bool)(cur:PLq)(m j:Nat):Prop where
 len:cur.length=l.length
 t:cur.take m=(l.take j).filter f
 d:cur.drop j=l.drop j
 le:m<=j
 lm:m<=l.length
theorem Fe0(l:PLq)(X:List Pt)(hl:l.length<=1000000000)(hX:X.length<=1000000000)(m j:Nat)(cur:PLq)(hd:Del l (keep X) cur m j) :
  ∃t s,lp (K0 ⟨l.length⟩) ⟨(m:Int),(j:Int),bL tP cur,X⟩=(t,s)/\(t=1/\∃m' cur' k,s=⟨((m':Nat):Int),((k:Nat):Int),bL tP cur',X⟩/\Del l (keep X) cur' m' k/\l.length<=k):=by
 refine Fa0 (step:=K0 ⟨l.length⟩) (mk:=λj (x:Nat×PLq)=>(⟨(x.1:Int),(j:Int),bL tP x.2,X⟩:C6)) l.length (λj x=>Del l (keep X) x.2 x.1 j) (λt s=>t=1/\∃m' cur' k,s=⟨((m':Nat):Int),((k:Nat):Int),bL tP cur',X⟩/\Del l (keep X) cur' m' k/\l.length<=k) hl (λj x hj hx=>?_) (λj x hj hx=>?_) j (m,cur) hd
 ·obtain⟨m,cur⟩:=x;obtain⟨h1,h2,h3,h4,h5⟩:=hx
  simp only at h1 h2 h3 h4 h5
  have hjc:j<cur.length:=by omega
  have hmc:m<cur.length:=by omega
  have hg:gL tP cur j=gL tP l j:=nd1 tP h3;have hWm:W ((m:Int)+1)=((m+1:Nat):Int):=by rw[La6 (by omega) (by omega)];omega
  have hb:Nat.blt m cur.length=true:=by rw[Qiak];exact hmc
  have hrow:g8 (bL tP cur) m=tP.row (gL tP cur m):=U1 tP hmc;have sp:∀(v:Pln) (x1 x2 x3 x4:Int),L0 (tP.row v) 0 [i x1,i x2,i x3,i x4]=tP.row ⟨⟨x1,x2,x3⟩,x4⟩:=λ_ _ _ _ _=>rfl
  have rl:∀v:Pln,Nat.ble (0+4) (len (tP.row v))=true:=λ_=>rfl
  simp only[K0,O2,Int.toNat_natCast,j8,l8,dd1 hjc,Jc2 hjc,Md1 _ _ hX,u7 hj (show l.length<=4611686018427387904 by omega),hWm]
  rw[btD (o6 hj),bt (i9 hj)];simp only[Qid,hrow,M2,hb,sp,yc3,i9 (show m<l.length by omega),hg]
  have ht:=nc3 tP hj;have hd1:cur.drop (j+1)=l.drop (j+1):=dd3 h3 1;cases hk:keep X (gL tP l j) with
  |true =>
   refine .nx ⟨(m+1,cur.set m (gL tP l j)),rfl,⟨by rw[Qim];exact h1,?_,?_,by omega,by show m+1<=l.length;omega⟩⟩
   ·show (cur.set m (gL tP l j)).take (m+1)=_;rw[ht,Qiah,Qir (by rw[Qim];exact hmc),Qiau,List.take_set_of_le (Qil _),h2,Qiz,hk,if_pos rfl,List.filter_nil]
   ·show (cur.set m (gL tP l j)).drop (j+1)=_;rw[List.drop_set_of_lt (by omega),hd1]
  |false =>
   refine .nx ⟨(m,cur),rfl,⟨h1,?_,hd1,by omega,h5⟩⟩
   show cur.take m=_;rw[ht,Qiah,h2,Qiz,hk,if_neg (by simp),List.filter_nil,Qiac]
 ·obtain⟨m,cur⟩:=x;refine⟨1,?_,rfl,m,cur,j,rfl,hx,hj⟩;simp only[K0,O2];rw[bfD (by omega)]
theorem Ze9(l:PLq)(n:Nat):H9 (bL tP l) n=bL tP (l.take n):=by unfold bL;rw[G3,n9,n9,List.map_take]
theorem pe7(l:PLq)(n:Nat):l4 (bL tP l) n=bL tP (l.drop n):=by unfold bL;rw[G4,n9,n9,Qiaw]
theorem af0(n:Nat):List.replicate n [i 0,i 0,i 0,i 0]=bL tP (List.replicate n ⟨⟨0,0,0⟩,0⟩):=by unfold bL;rw[n9,List.map_replicate];rfl
theorem de9(l:PLq)(X:List Pt)(hl:l.length<=1000000000)(hX:X.length<=1000000000) :
  ∃m r,P0 ⟨l.length,bL tP l,X⟩=⟨1,m,bL tP r,X⟩/\m<=r.length/\r.take m=l.filter (keep X)/\r.length=l.length:=by
 unfold P0 O9;simp only[j8,l8,Of9 l X hl hX];cases ha:l.any λp=>!keep X p with
 |false =>
  refine⟨l.length,l,rfl,Qil _,?_,rfl⟩;rw[List.take_length]
  symm
  rw[List.filter_eq_self];intro p hp
  have:=List.any_eq_false.1 ha p hp
  simpa using this
 |true =>
  have hf:l.findIdx (λp=>!keep X p)<l.length:=by
   rw[Qiaq] at ha;obtain⟨p,hp,hc⟩:=ha;exact Qiy ⟨p,hp,hc⟩
  have hk:keep X (gL tP l (l.findIdx λp=>!keep X p))=false:=by
   have:=List.findIdx_getElem (xs:=l) (p:=λp=>!keep X p) (w:=hf)
   rw[fb0 tP hf];simpa using this
  have ht:=dd2 (λp=>!keep X p) l
  simp only[Bool.not_not] at ht;generalize hF:l.findIdx (λp=>!keep X p)=F at *
  have hW:W ((F:Int)+1)=((F+1:Nat):Int):=u7 hf (by omega)
  have hne:((F:Int)==-1)=false:=by rw[beq_eq_false_iff_ne];omega
  obtain⟨t,s,e1,rfl,m,cur,k,e2,e3,e4⟩:=Fe0 l X hl hX F (F+1) l ⟨rfl,by rw[nc3 tP hf,Qiah,ht,Qiz,hk,if_neg (by simp),List.filter_nil,Qiac],rfl,by omega,by omega⟩
  have hm:m<=l.length:=e3.lm;have hin:inB (m:Int) (l.length+1)=true:=i9 (by omega)
  have hfin:cur.take m=l.filter (keep X):=by rw[e3.t,Qix e4]
  simp only[if_true,hW,hne,e1,e2,Int.toNat_natCast,hin,Qid,Nat.sub_zero];refine⟨m,cur.take m++(List.replicate (l.length-m) ⟨⟨0,0,0⟩,0⟩++cur.drop (m+(l.length-m))),?_,?_,?_,?_⟩
  ·rw[Ze9,af0,pe7,Ka2,Ka2];rfl
  ·rw[Qia,Qia,Qib,Qiaa,e3.len];omega
  ·rw[Qit (by rw[Qib,e3.len];omega),List.take_take,Nat.min_self,hfin]
  ·rw[Qia,Qia,Qib,Qiaa,Qie,e3.len];omega
def eqP(x y:Pln):Bool:=x.n.x==y.n.x&&(x.n.y==y.n.y&&(x.n.z==y.n.z&&(x.b==y.b&&true)))
theorem Jc3(x y:Pln):eqP x y=true↔x=y:=by
 unfold eqP;simp only[Qiq,Qin,beq_iff_eq];refine⟨λ⟨h1,h2,h3,h4⟩=>?_,λh=>by subst h;exact⟨rfl,rfl,rfl,rfl⟩⟩
 obtain⟨⟨x1,x2,x3⟩,x4⟩:=x;obtain⟨⟨y1,y2,y3⟩,y4⟩:=y
 simp only at h1 h2 h3 h4
 subst h1 h2 h3 h4;rfl
def ddF:Pln->PLq->PLq
 |_,[]=>[]
 |a,x::l=>if eqP x a then ddF x l else x::ddF x l
def dd:PLq->PLq
 |[]=>[]
 |x::l=>x::ddF x l
theorem af1:∀(a:Pln) (l:PLq),(ddF a l).length<=l.length
 |_,[]=>Qil _
 |a,x::l=>by
  have:=af1 x l
  unfold ddF
  split<;>simp only[List.length_cons]<;>omega
structure Cmp(l:PLq)(n:Nat)(cur:PLq)(m j:Nat)(R:PLq):Prop where
 len:cur.length=l.length
 t:cur.take m++ddF (gL tP l (j-1)) ((l.take n).drop j)=R
 d:cur.drop (j-1)=l.drop (j-1)
 le:m+1<=j
theorem pe8(l:PLq)(n o:Nat)(hn:n<=l.length)(hl:l.length<=1000000000)(ho:o<n)(m:Nat)(cur:PLq)(R:PLq)(hd:Cmp l n cur m (o+1) R) :
  ∃t s,lp (B9 ⟨n,0+o,n-o⟩) ⟨(m:Int),((1:Nat):Int),bL tP cur⟩=(t,s)/\(t=1/\∃m' cur' k,s=⟨((m':Nat):Int),k,bL tP cur'⟩/\cur'.length=l.length/\cur'.take m'=R/\m'<=n):=by
 refine Fa0 (step:=B9 ⟨n,0+o,n-o⟩) (mk:=λj (x:Nat×PLq)=>(⟨(x.1:Int),(j:Int),bL tP x.2⟩:A6)) (n-o) (λj x=>Cmp l n x.2 x.1 (o+j) R/\1<=j/\x.1<=n) (λt s=>t=1/\∃m' cur' k,s=⟨((m':Nat):Int),k,bL tP cur'⟩/\cur'.length=l.length/\cur'.take m'=R/\m'<=n) (by omega) (λj x hj hx=>?_) (λj x hj hx=>?_) 1 (m,cur) ⟨hd,Qil _,by have:=hd.le;show m<=n;omega⟩
 ·obtain⟨m,cur⟩:=x;obtain⟨⟨h1,h2,h3,h4⟩,hj1,hmn⟩:=hx
  simp only at h1 h2 h3 h4 hmn
  have hoj:o+j<n:=by omega
  have hjc:o+j<cur.length:=by omega
  have hjc':o+(j-1)<cur.length:=by omega
  have hmc:m<cur.length:=by omega
  have hg':gL tP cur (o+(j-1))=gL tP l (o+j-1):=by rw[show o+(j-1)=o+j-1 by omega];exact nd1 tP h3
  have hd1:cur.drop (o+j)=l.drop (o+j):=by have:=dd3 h3 1;rw[show o+j-1+1=o+j by omega] at this;exact this
  have hg:gL tP cur (o+j)=gL tP l (o+j):=nd1 tP hd1;have hWm:W ((m:Int)+1)=((m+1:Nat):Int):=by rw[La6 (by omega) (by omega)];omega
  have hWj:W ((j:Int)-1)=((j-1:Nat):Int):=by rw[La6 (by omega) (by omega)];omega
  have hb:Nat.blt m cur.length=true:=by rw[Qiak];exact hmc
  have hrow:g8 (bL tP cur) m=tP.row (gL tP cur m):=U1 tP hmc;have sp:∀(v:Pln) (x1 x2 x3 x4:Int),L0 (tP.row v) 0 [i x1,i x2,i x3,i x4]=tP.row ⟨⟨x1,x2,x3⟩,x4⟩:=λ_ _ _ _ _=>rfl
  have rl:∀v:Pln,Nat.ble 4 (len (tP.row v))=true:=λ_=>rfl
  simp only[B9,U5,Int.toNat_natCast,Qid,hWj,ke0 tP hjc,ke0 tP hjc',je9 tP hjc,je9 tP hjc',u7 hj (show n-o<=4611686018427387904 by omega),hWm,hg,hg',hrow,M2,hb,sp,rl,yc3,i9 (show m<n by omega)]
  rw[btD (o6 hj)];simp only[i9 hj,i9 (show j-1<n-o by omega),g9,Bool.and_self]
  rw[show ((gL tP l (o+j)).n.x==(gL tP l (o+j-1)).n.x&&((gL tP l (o+j)).n.y==(gL tP l (o+j-1)).n.y&&((gL tP l (o+j)).n.z==(gL tP l (o+j-1)).n.z&&((gL tP l (o+j)).b==(gL tP l (o+j-1)).b&&true))))=eqP (gL tP l (o+j)) (gL tP l (o+j-1)) from rfl]
  have hcons:(l.take n).drop (o+j)=gL tP l (o+j)::(l.take n).drop (o+(j+1)):=by
   rw[Qif (by rw[Qib];omega),List.getElem_take,fb0 tP (by omega)]
   rfl
  rw[hcons] at h2;have hlast:o+(j+1)-1=o+j:=by omega
  unfold ddF at h2;cases he:eqP (gL tP l (o+j)) (gL tP l (o+j-1)) with
  |true =>
   rw[he] at h2;simp only[if_true] at h2;refine .nx ⟨(m,cur),rfl,⟨⟨h1,?_,?_,by show m+1<=o+(j+1);omega⟩,by omega,hmn⟩⟩
   ·rw[hlast];exact h2
   ·rw[hlast];exact hd1
  |false =>
   rw[he] at h2;simp only[Qiae,if_false] at h2;refine .nx ⟨(m+1,cur.set m (gL tP l (o+j))),rfl,⟨⟨by rw[Qim];exact h1,?_,?_,by show m+1+1<=o+(j+1);omega⟩,by omega,by show m+1<=n;omega⟩⟩
   ·rw[hlast];show (cur.set m (gL tP l (o+j))).take (m+1)++_=R;rw[Qir (by rw[Qim];exact hmc),Qiau,List.take_set_of_le (Qil _),Qiw]
    exact h2
   ·rw[hlast];show (cur.set m (gL tP l (o+j))).drop (o+j)=_;rw[List.drop_set_of_lt (by omega),hd1]
 ·obtain⟨m,cur⟩:=x;obtain⟨⟨h1,h2,h3,h4⟩,hj1,hmn⟩:=hx
  simp only at h1 h2 h3 h4 hmn
  refine⟨1,?_,rfl,m,cur,_,rfl,h1,?_,hmn⟩
  ·simp only[B9,U5];rw[bfD (by omega)]
  ·rw[Qis (by rw[Qib];omega)] at h2
   unfold ddF at h2;rw[Qiac] at h2;exact h2
theorem Md2(l:PLq)(n:Nat)(hn:n<=l.length)(hl:l.length<=1000000000) :
  ∃m r,fa8 ⟨n,bL tP l⟩=⟨1,m,bL tP r⟩/\m<=r.length/\r.take m=dd (l.take n):=by
 unfold fa8 V9
 simp only
 by_cases h2:(n:Int)<2
 ·rw[btD h2];refine⟨n,l,rfl,hn,?_⟩
  have:n=0\/n=1:=by omega
  rcases this with rfl|rfl
  ·rfl
  ·cases l with
   |nil=>rfl
   |cons x l=>rfl
 ·rw[bfD h2];have h1n:1<=n:=by omega
  have hI : ∀ j, j < n → 1 ≤ j → l.take j ++ ddF (gL tP l (j - 1)) ((l.take n).drop j) = dd (l.take n) →
    (eqP (gL tP l j) (gL tP l (j-1))=true->Cmp l n l j (j+1) (dd (l.take n)))/\(eqP (gL tP l j) (gL tP l (j-1))=false->l.take (j+1)++ddF (gL tP l (j+1-1)) ((l.take n).drop (j+1))=dd (l.take n)):=by
   intro j hj hj1 hR;have hcons:(l.take n).drop j=gL tP l j::(l.take n).drop (j+1):=by
    rw[Qif (by rw[Qib];omega),List.getElem_take,fb0 tP (by omega)]
   rw[hcons] at hR;unfold ddF at hR;constructor
   ·intro he;rw[he] at hR;simp only[if_true] at hR;exact⟨rfl,hR,rfl,Qil _⟩
   ·intro he;rw[he] at hR;simp only[Qiae,if_false] at hR;rw[nc3 tP (show j<l.length by omega),Qiw]
    exact hR
  have inner:∀k,k<n->1<=k->Cmp l n l k (k+1) (dd (l.take n))->∃m' cur' k',lp (B9 ⟨n,0+k,n-k⟩) ⟨(k:Int),1,bL tP l⟩=(1,⟨((m':Nat):Int),k',bL tP cur'⟩)/\cur'.length=l.length/\cur'.take m'=dd (l.take n)/\m'<=n:=by
   intro k hk hk1 hc;obtain⟨t,s,e1,rfl,m',cur',k',rfl,e2,e3,e4⟩:=pe8 l n k hn hl hk k l _ hc;exact⟨m',cur',k',e1,e2,e3,e4⟩
  have key:=Fa0 (step:=X5 ⟨n,bL tP l⟩) (mk:=λj (_:Unit)=>(⟨(j:Int)⟩:D0)) n (λj _=>1<=j/\j<=n/\l.take j++ddF (gL tP l (j-1)) ((l.take n).drop j)=dd (l.take n))
   (λt s=>(t=1/\∃k:Nat,s=⟨(k:Int)⟩/\k<n/\1<=k/\Cmp l n l k (k+1) (dd (l.take n)))\/(t=2/\l.take n=dd (l.take n))) (by omega) (λj x hj hx=>?_) (λj x hj hx=>?_) 1 () ⟨Qil _,h1n,by
    cases l with
    |nil=>simp only[List.length_nil] at hn;omega
    |cons x l =>
     cases n with
     |zero=>omega
     |succ n=>rfl⟩
  ·obtain⟨t,s,e1,e2⟩:=key;rw[show (⟨1⟩:D0)=⟨((1:Nat):Int)⟩ from rfl,e1]
   rcases e2 with⟨rfl,k,rfl,hk,hk1,hc⟩|⟨rfl,he⟩
   ·obtain⟨m',cur',k',e2,e3,e4,e5⟩:=inner k hk hk1 hc;simp only[Int.toNat_natCast,e2];simp only[Qid,Nat.sub_zero];refine⟨m',cur'.take m'++(List.replicate (n-m') ⟨⟨0,0,0⟩,0⟩++cur'.drop (m'+(n-m'))),?_,?_,?_⟩
    ·rw[Ze9,af0,pe7,Ka2,Ka2];rfl
    ·rw[Qia,Qib,e3];omega
    ·rw[Qit (by rw[Qib,e3];omega),List.take_take,Nat.min_self,e4]
   ·exact⟨n,l,rfl,hn,he⟩
  ·obtain⟨hj1,hjn,hR⟩:=hx;obtain⟨i1,i2⟩:=hI j hj hj1 hR;have hWj:W ((j:Int)-1)=((j-1:Nat):Int):=by rw[La6 (by omega) (by omega)];omega
   have hjl:j<l.length:=by omega
   have hjl':j-1<l.length:=by omega
   simp only[X5,U6,Int.toNat_natCast,hWj,dd1 hjl,dd1 hjl',Jc2 hjl,Jc2 hjl',u7 hj (show n<=4611686018427387904 by omega)]
   rw[btD (o6 hj),bt (i9 hj),bt (i9 (show j-1<n by omega)),bt (i9 (show j<n+1 by omega))]
   simp only[g9];rw[show ((gL tP l j).n.x==(gL tP l (j-1)).n.x&&((gL tP l j).n.y==(gL tP l (j-1)).n.y&&((gL tP l j).n.z==(gL tP l (j-1)).n.z&&((gL tP l j).b==(gL tP l (j-1)).b&&true))))=eqP (gL tP l j) (gL tP l (j-1)) from rfl]
   cases he:eqP (gL tP l j) (gL tP l (j-1)) with
   |false=>exact .nx ⟨(),rfl,by omega,by omega,i2 he⟩
   |true =>
    obtain⟨m',cur',k',e2,e3,e4,e5⟩:=inner j hj hj1 (i1 he);rw[e2];simp only[i9 (show m'<n+1 by omega)]
    exact .ex (.inl ⟨rfl,j,rfl,hj,hj1,i1 he⟩)
  ·obtain⟨hj1,hjn,hR⟩:=hx;refine⟨2,?_,.inr ⟨rfl,?_⟩⟩
   ·simp only[X5,U6];rw[bfD (by omega)]
   ·have:j=n:=by omega
    subst this;rw[Qis (by rw[Qib];omega)] at hR
    unfold ddF at hR;rw[Qiac] at hR;exact hR
theorem Af7(l:PLq)(n:Nat)(hn:n<=l.length):slR tP (bL tP l) 0 n=l.take n:=jc6 tP (by rw[Qib];omega) λk hk=>by
 rw[Qid,U1 tP (by omega)]
 congr 1;simp[gL,Qig,List.getElem?_take,hk]
theorem Af8(l:PLq)(n:Nat)(hn:n<=l.length):okS tP (bL tP l) 0 n=true:=Yb6 tP (f:=λk=>gL tP l k) λk hk=>by rw[Qid,U1 tP (by omega)]
def lean(c:PLq):PLq:=if ful c then dd (kb3 (c.filter (keep (pts c)))) else []
theorem af2(p:Pln)(c:PLq)(hc:c.length<=1000000):Rd (one (r1L tP)) (Bb6 (p,c)) (λr=>r=lean (p::c)):=by
 have hl:(p::c).length<=1000000000:=by simp only[List.length_cons];omega
 have hX:=Ze7 (p::c);unfold Bb6 lean;simp only[j8,w7,l8,ig9,jg0,md9 hl,nd0 hl,Ld8 hl,Ld9 hl];cases hf:ful (p::c) with
 |false=>exact⟨_,[],rfl,rfl,rfl⟩
 |true =>
  have ec:o9 (λk=>tP.row (gL tP (p::c) k)) (List.range (c.length+1))=bL tP (p::c):=Mb7 tP (p::c)
  have hcl:Ba8 (p,c)=⟨1,(p::c).length,bL tP (p::c)⟩:=by
   unfold Ba8 ca8;simp only[ec,M2];have r:Nat.ble ((0+(p::c).length)*32) room=true:=ab4 (by simp only[List.length_cons];omega)
   rw[r,Qid];rfl
  obtain⟨m,r,e1,e2,e3,e4⟩:=de9 (p::c) (pts (p::c)) hl (by omega)
  have hm:m<=(p::c).length:=by
   have h1:=congrArg List.length e3;have h2:=List.length_filter_le (keep (pts (p::c))) (p::c);rw[Qib] at h1;omega
  have hs:(kb3 (r.take m)).length=m:=by rw[Ic7,Qib];omega
  have hrows:app (bL tP (kb3 (r.take m))) (l4 (bL tP r) m)=bL tP (kb3 (r.take m)++r.drop m):=by rw[pe7,Ka2]
  have hok:okL tP (c.length+1) (λk=>tP.row (gL tP (p::c) k))=true:=Yb6 tP (f:=λk=>gL tP (p::c) k) λ_ _=>rfl
  simp only[hcl,e1,Af7 r m e2,Af8 r m e2,hrows,hok];obtain⟨m2,r2,k1,k2,k3⟩:=Md2 (kb3 (r.take m)++r.drop m) m (by rw[Qia,hs];omega) (by rw[Qia,hs,Qie,e4];omega)
  rw[k1,M2];have q1:Nat.ble m room=true:=by rw[Qial];unfold room;simp only[List.length_cons] at hm;omega
  have q2:Nat.ble m r.length=true:=by rw[Qial];exact e2
  rw[q1,q2];have hfin:r2.take m2=dd (kb3 ((p::c).filter (keep (pts (p::c))))):=by
   rw[k3,Qit (by rw[hs];omega),Qix (by rw[hs];omega),e3]
  exact Se0 k2 rfl hfin
theorem eg3(p:Pln)(c:PLq)(hc:c.length<=1000000):td4 (p,c)=lean (p::c):=(af2 p c hc).p
theorem eg4(p:Pln)(c:PLq)(hc:c.length<=1000000):td5 (p,c)=true:=(af2 p c hc).g
end Go.Ev.Ce
namespace Go.Ev.Ce
open Go Go.Ev Go.Ev.L Go.Proofs Go.Sort
theorem Md3(l:PLq):List.Perm (kb3 l) l:=List.mergeSort_perm l _
theorem lf1(x y z:Pln)(h1:(!ltOf Tb2 y x)=true)(h2:(!ltOf Tb2 z y)=true):(!ltOf Tb2 z x)=true:=by
 simp only[Qiaj,wb0,decide_eq_false_iff_not] at *
 unfold LtP at *
 omega
theorem lf2(x y:Pln):((!ltOf Tb2 y x)||!ltOf Tb2 x y)=true:=by
 simp only[Bool.or_eq_true,Qiaj,wb0,decide_eq_false_iff_not];unfold LtP;omega
theorem pe9(l:PLq):(kb3 l).Pairwise λx y=>(!ltOf Tb2 y x)=true:=List.pairwise_mergeSort lf1 lf2 l
instance:DecidableEq Pln:=λx y=>decidable_of_iff _ (Jc3 x y)
def PC:List Pt:=[⟨0,0,0,1⟩,⟨0,0,1,4⟩,⟨0,1,0,3⟩,⟨1,0,0,2⟩]
theorem Se2:ful []=true:=by kernel_rfl
end Go.Ev.Ce
namespace Go.Ev.L
open Go Go.Ev
def eg5:Cod Unit where
 enc _:=.v (.slice none 0 0)
 dec x:=match x with
  |.v (.slice none 0 0)=>some ()
  |_=>none
 grd _:=true
 ok x a hx _:=by
  split at hx
  ·exact .refl _
  ·cases hx
def cE0:Cod (Addr×Nat) where
 enc z:=.v (.slice (some z.1) 0 z.2)
 dec x:=match x with
  |.v (.slice (some a) 0 c)=>some (a,c)
  |_=>none
 grd _:=true
 ok x a hx _:=by
  split at hx
  ·cases hx;exact .refl _
  ·cases hx
section
variable{α:Type}{t:Ty α}{P:Program}{G:Nat->List Value}{f:FuncId}
theorem qe0{β:Type}{c:Cod β}{k k':β->DT (d7×List d8)}(h:j6 P G f (ca1 c k))(hk:∀a r,(k' a).run=some r->(k a).run=some r):j6 P G f (ca1 c k'):=h.le λargs blks r hr=>by
 unfold ca1 at hr ⊢
 split at hr
 ·obtain⟨a,h1,hr⟩:=X3 hr;obtain⟨g,hr⟩:=DT.run_guard_some hr;simp only[h1,onO,g];exact hk a r hr
 ·cases hr
theorem eg6{k:List α->DT (d7×List d8)}(hA:j6 P G f (ca1 (sf4 t) λz=>k (z.1::z.2)))(hN:j6 P G f (ca1 eg5 λ_=>k []))(hE:j6 P G f (ca1 cE0 λ_=>k [])):j6 P G f (ca1 (na2 t) k):=by
 intro args blks r out he W ρ F w args' hH hlen hargs hG;unfold ca1 at he
 split at he
 ·rename_i x;obtain⟨a,h1,he⟩:=X3 he;obtain⟨g1,hk⟩:=DT.run_guard_some he;have nilCase:∀v',args'[0]?=some v'->v'=.slice none 0 0->a=[]->Mb1 P f/\Calls P f args'.toArray w λe w'=>∃r',e=.returned r'/\U3 W ρ [] F w r out r' w':=λv' hv e ha=>by
   subst ha;refine hN [.v (.slice none 0 0)] [] r out ?_ W ρ F w args' hH hlen (λi x' y' hx hy=>?_) hG
   ·exact hk
   ·match i with
    |0=>cases hx;rw[hv] at hy;cases hy;rw[e];exact .val (.cell (.v _))
    |i+1=>cases hx
  have emptyCase:∀v' ad c,args'[0]?=some v'->v'=.slice (some ad) 0 c->a=[]->Mb1 P f/\Calls P f args'.toArray w λe w'=>∃r',e=.returned r'/\U3 W ρ [] F w r out r' w':=λv' ad c hv e ha=>by
   subst ha;refine hE [.v (.slice (some ad) 0 c)] [] r out ?_ W ρ F w args' hH hlen (λi x' y' hx hy=>?_) hG
   ·exact hk
   ·match i with
    |0=>cases hx;rw[hv] at hy;cases hy;rw[e];exact .val (.cell (.v _))
    |i+1=>cases hx
  obtain⟨v',hv⟩:∃v',args'[0]?=some v':=by
   cases args' with
   |nil=>simp at hlen
   |cons v' r'=>exact⟨v',rfl⟩
  cases x with
  |tree e n get =>
   have hb:Nat.beq e t.es=true/\a=lsL t n get:=by
    have h1:(Bool.rec none (some (lsL t n get)) (Nat.beq e t.es):Option (List α))=some a:=h1;cases hb:Nat.beq e t.es with
    |false=>rw[hb] at h1;cases h1
    |true =>
     simp_all
   cases n with
   |zero =>
    have ha:a=[]:=hb.2;have hm:=Ga0 (hargs 0 _ v' rfl hv);cases hm with
    |tree _ _ _ ad cap cs hs hcap hes hF hw hr=>exact emptyCase _ ad cap hv rfl ha
    |nil=>exact nilCase _ hv rfl ha
   |succ m =>
    have ha:a=hC t get::tC t m get:=hb.2.trans (xe6 t m get);subst ha;refine hA [.tree e (m+1) get] [] r out ?_ W ρ F w args' hH hlen hargs hG;have hc:(sf4 t).dec (.tree e (m+1) get)=some (hC t get,tC t m get):=by
     show (Bool.rec none (some (hC t get,tC t m get)) (Nat.beq e t.es):Option (α×List α))=_;rw[hb.1]
    have hg:(sf4 t).grd (.tree e (m+1) get)=true:=g1;simp only[ca1,hc,onO,hg];exact hk
  |v q =>
   have hq:=ia8 (hargs 0 _ v' rfl hv);unfold na2 at h1
   grind
  |_=>cases h1
 ·cases he
end
end Go.Ev.L
